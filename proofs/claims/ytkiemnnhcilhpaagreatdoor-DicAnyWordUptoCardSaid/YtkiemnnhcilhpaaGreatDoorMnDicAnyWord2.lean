/-
  Walks and plain laws that the law rests on, laid together. No conditions but those that each theorem names.
-/
import Derived.Test.YtkiemnnhcilhpaaGreatDoorMnDicAnyWord1
set_option linter.unusedVariables false
section
set_option linter.unusedSimpArgs false
namespace Go.Hb
open Go.RowKit
open Classical
structure iJ (P:Program) (k:TypeId) (isK:Value→Prop):Prop where
 key:mP P k isK
 stays:∀ w v,isK v→(Instr.keyThatStays v v).run P w= .ok v w
def eC (v:Value):Prop := ∃ s:List UInt8,v=str s
def jD (q:IntKind) (v:Value):Prop := ∃ a:Int,v= .int q a
theorem td {d:TypeDesc} {isK:Value→Prop} (hs:∀ x y,isK x→isK y→∃ a,Instr.sameNow d x y=some a∧(a=true↔x=y)) {x:Value} (hx:isK x):∀ (es:List MapEntry) (i:Nat),(∀ e∈es,isK e.key)→
 (Instr.findNow d x es i=some none∧∀ e∈es,e.key≠x)∨∃ j e,Instr.findNow d x es i=some (some (i+j,e.val))∧es[j]? =some e∧e.key=x
 | [],i,_=> .inl ⟨rfl,fun _ h=>by simp at h⟩
 | e::es,i,h=>by
   obtain ⟨a,h1,h2⟩:=hs x e.key hx (h e (by simp))
   cases a with
   | true =>exact .inr ⟨0,e,by simp [Instr.findNow,h1],rfl,(h2.1 rfl).symm⟩
   | false =>
     have hne:e.key≠x:=fun hh=>by cases h2.2 hh.symm
     rcases td hs hx es (i+1) (fun e he=>h e (by simp [he])) with ⟨h3,h4⟩ | ⟨j,e',h3,h4,h5⟩
     · refine .inl ⟨by simp [Instr.findNow,h1,h3],fun e' c=> ?_⟩
       rcases List.mem_cons.1 c with rfl | c
       · exact hne
       · exact h4 e' c
     · refine .inr ⟨j+1,e',?_,h4,h5⟩
       simp only [Instr.findNow,h1,h3]; rw [show i+1 +j=i+(j+1) from by omega]
theorem uf {P:Program} {k:TypeId} {d:TypeDesc} {isK:Value→Prop} (hk:P.underlying k=some d) (hs:∀ x y,isK x→isK y→∃ a,Instr.sameNow d x y=some a∧(a=true↔x=y)) (hc:∀ em w v,isK v→(Instr.checkKey em 10000 k v).run P w= .ok () w):mP P k isK where
 check:=hc
 find w x es hx hes:=by
  rcases td hs hx es 0 hes with ⟨h1,h2⟩ | ⟨j,e,h1,h2,h3⟩
  · exact .inl ⟨by simp [Instr.findKey,bW hk,h1],h2⟩
  · exact .inr ⟨j,e,by simp [Instr.findKey,bW hk,h1],h2,h3⟩
theorem rC (a b:ByteArray):(a==b)=decide (a=b):=by
 rw [Bool.eq_iff_iff,decide_eq_true_iff]
 show ((a.data==b.data)=true)↔_
 rw [beq_iff_eq]
 exact ⟨fun h=>by cases a; cases b; cases h; rfl,fun h=>by rw [h]⟩
theorem CW {P:Program} {k:TypeId} (hk:P.underlying k=some .string):iJ P k eC where
 key:=uf hk (by
  rintro _ _ ⟨a,rfl⟩ ⟨b,rfl⟩
  refine ⟨_,rfl,?_⟩
  rw [rC,decide_eq_true_iff]
  constructor
  · intro h; unfold str; rw [h]
  · intro h; unfold str at h; cases h; rfl) (by rintro em w _ ⟨a,rfl⟩; exact zc (n:=9999) hk w)
 stays w v hv:=by obtain ⟨a,rfl⟩:=hv; simp [Instr.keyThatStays,Instr.sameBits,str,rC]
theorem zb {P:Program} {k:TypeId} {q r:IntKind} {em:Bool} {n:Nat} {a:Int} (hk:P.underlying k=some (.int q)) (w:World):(Instr.checkKey em (n+1) k (.int r a)).run P w= .ok () w:=by
 simp only [Instr.checkKey,Sem.run_bind,bW hk,Result.andThen_ok,Sem.run_pure]
theorem CV {P:Program} {k:TypeId} {q r:IntKind} (hk:P.underlying k=some (.int q)):iJ P k (jD r) where
 key:=uf hk (by
  rintro _ _ ⟨a,rfl⟩ ⟨b,rfl⟩
  refine ⟨decide (a=b),by simp [Instr.sameNow]; rfl,?_⟩
  rw [decide_eq_true_iff]
  exact ⟨fun h=>by rw [h],fun h=>by cases h; rfl⟩) (by rintro em w _ ⟨a,rfl⟩; exact zb (n:=9999) hk w)
 stays w v hv:=by obtain ⟨a,rfl⟩:=hv; simp [Instr.keyThatStays,Instr.sameBits]
def bf (h:Array Obj) (b:Nat) (isK:Value→Prop) (f:Value→Option Value):Prop :=
 ∃ kvs,kf h b kvs∧(∀ p∈kvs,isK p.1)∧(kvs.map Prod.fst).Nodup∧∀ k v,f k=some v↔(k,v)∈kvs
theorem bf.md {F:Nat→Prop} {w w':World} {b:Nat} {isK:Value→Prop} {f:Value→Option Value} (h:bf w.heap b isK f) (hm:Md F w w') (hf:¬F b):bf w'.heap b isK f:=
 let ⟨kvs,h1,h2⟩:=h; ⟨kvs,h1.md hm hf,h2⟩
theorem bf.wk {w w':World} {b:Nat} {isK:Value→Prop} {f:Value→Option Value} (h:bf w.heap b isK f) (hm:Wk w w'):bf w'.heap b isK f:=h.md hm id
theorem bf.nil {h:Array Obj} {b:Nat} {isK:Value→Prop} {c:Nat} (hm:h[b]? =some (.map #[] c)):bf h b isK fun _=>none:=
 ⟨[],⟨_,_,hm,rfl⟩,fun p hp=>(by simp at hp),(by simp),fun k v=>(by simp)⟩
theorem bf.isMap {h:Array Obj} {b:Nat} {isK:Value→Prop} {f:Value→Option Value} (hm:bf h b isK f):∃ es c,h[b]? =some (.map es c):=let ⟨_,⟨es,c,h1,_⟩,_⟩:=hm; ⟨es,c,h1⟩
theorem bf.jF {h:Array Obj} {b:Nat} {isK:Value→Prop} {f:Value→Option Value} (hm:bf h b isK f) {cur:Array Value} {e:TypeId} {z:Nat×Nat} :h[b]?≠some (.cells cur e z):=by
 obtain ⟨es,c,h1⟩:=hm.isMap; rw [h1]; intro h; cases h
noncomputable def aX (f:Value→Option Value) (k v:Value):Value→Option Value:=fun q=>if q=k then some v else f q
theorem mr (f:Value→Option Value) (k v:Value):aX f k v k=some v:=if_pos rfl
theorem lA {f:Value→Option Value} {k v q:Value} (h:q≠k):aX f k v q=f q:=if_neg h
section
variable {P:Program} {N:Fm} {σ:Nat→Value} {w:World} {dst:Option Nat} {ty:TypeId} {pos :String} {af:Array Edge} {g:Option (Nat×Bool)} {x y z:Operand} {K:(Nat→Value)→World→Prop}
variable {t k e:TypeId} {isK:Value→Prop} {b:Nat} {f:Value→Option Value} {kx v zv:Value}
theorem uu {ok:Bool} (c:P.underlying t=some (.map k e)) (hz:zeroV P e=some zv) (a:iJ P k isK) (hm:bf w.heap b isK f) (hx:ev N σ x= .map (some b)) (hy:ev N σ y=kx) (hi:isK kx):
 (execOp (ev N σ) ⟨dst,.lookup t x y ok,ty,pos,af,g⟩).run P w= .ok (.value (if ok then .tuple #[(f kx).getD zv,.bool (f kx).isSome] else (f kx).getD zv)) w:=by
 obtain ⟨kvs,h1,h2,h3,h4⟩:=hm
 cases hf:f kx with
 | none=>exact Df c hz a.key h1 h2 hx hy hi (fun v hv=>by rw [← h4] at hv; rw [hf] at hv; cases hv)
 | some v=>exact De c a.key h1 h2 hx hy hi h3 ((h4 kx v).1 hf)
theorem iX (c:P.underlying t=some (.map k e)) (hz:zeroV P e=some zv) (a:iJ P k isK) (hm:bf w.heap b isK f) (hx:ev N σ x= .map (some b)) (hy:ev N σ y=kx) (hi:isK kx) (hv:(f kx).getD zv=v):
 (execOp (ev N σ) ⟨dst,.lookup t x y false,ty,pos,af,g⟩).run P w= .ok (.value v) w:=by
 rw [uu c hz a hm hx hy hi,hv]; rfl
theorem uv {ob:Bool} (i:P.underlying t=some (.map k e)) (hz:zeroV P e=some zv) (a:iJ P k isK) (hm:bf w.heap b isK f) (hx:ev N σ x= .map (some b)) (hy:ev N σ y=kx) (hi:isK kx) (hv:(f kx).getD zv=v) (c:(f kx).isSome=ob):
 (execOp (ev N σ) ⟨dst,.lookup t x y true,ty,pos,af,g⟩).run P w= .ok (.value (.tuple #[v,.bool ob])) w:=by
 rw [uu i hz a hm hx hy hi,hv,c]; rfl
theorem vY (O:P.underlying t=some (.map k e)) (E:iJ P k isK) (hm:bf w.heap b isK f) (hi:isK kx):
 ∃ w',(Instr.mapUpdate t (.map (some b)) kx v).run P w= .ok () w'∧Md (fun j=>j=b) w w'∧bf w'.heap b isK (aX f kx v):=by
 obtain ⟨kvs,⟨es,c,hr,he⟩,h2,h3,h4⟩:=hm
 have hb:=(Array.getElem?_eq_some_iff.1 hr).1
 rcases E.key.find w kx es.toList hi (pw he h2) with ⟨h1,ac⟩ | ⟨j,e',h1,hj,h5⟩
 · have M:∀ u,(kx,u)∉kvs:=fun u hu=>by
    rw [← he] at hu
    obtain ⟨U,Z,V⟩:=List.mem_map.1 hu
    cases V
    exact ac U Z rfl
   refine ⟨{w with heap:=w.heap.setIfInBounds b (.map (es.push {key:=kx,val:=v,born:=c}) (c+1))},by simp [Instr.mapUpdate,bW O,run_getObj_map hr,E.key.check _ w kx hi,h1,setObj,Sem.run,hr],⟨rfl,rfl,by simp,fun i _ hne=>by simp only; rw [Array.getElem?_setIfInBounds_ne (fun e=>hne e.symm)]⟩,kvs++ [(kx,v)],⟨_,_,by simp only; rw [Array.getElem?_setIfInBounds_self_of_lt hb],by simp [he]⟩,?_,?_,?_⟩
   · intro p hp
     rcases List.mem_append.1 hp with hp | hp
     · exact h2 p hp
     · rw [List.mem_singleton.1 hp]; exact hi
   · rw [List.map_append,List.nodup_append]
     refine ⟨h3,by simp,?_⟩
     intro a ha ae I Y
     simp at I
     subst Y I
     obtain ⟨p,hp,ad⟩:=List.mem_map.1 ha
     exact M p.2 (by rw [← ad]; exact hp)
   · intro q u
     unfold aX
     rw [List.mem_append,List.mem_singleton]
     by_cases A:q=kx
     · subst A
       rw [if_pos rfl]
       constructor
       · intro h; cases h; exact .inr rfl
       · rintro (h | h)
         · exact absurd h (M u)
         · cases h; rfl
     · rw [if_neg A,h4]
       constructor
       · exact .inl
       · rintro (h | h)
         · exact h
         · cases h; exact absurd rfl A
 · have ag:j < es.size:=by have :=(List.getElem?_eq_some_iff.1 hj).1; simpa using this
   have J:es[j]? =some e':=by simpa using hj
   refine ⟨{w with heap:=w.heap.setIfInBounds b (.map (es.modify j fun e=> {e with key:=kx,val:=v}) c)},?_,⟨rfl,rfl,by simp,fun i _ hne=>by simp only; rw [Array.getElem?_setIfInBounds_ne (fun e=>hne e.symm)]⟩,kvs.set j (kx,v),⟨_,_,by simp only; rw [Array.getElem?_setIfInBounds_self_of_lt hb],?_⟩,?_,?_,?_⟩
   · have hs:=E.stays w kx hi
     simp [Instr.mapUpdate,bW O,run_getObj_map hr,E.key.check _ w kx hi,h1,J,h5,hs,setObj,Sem.run,hr]
   · rw [← he]
     apply List.ext_getElem?
     intro i
     simp only [Array.toList_modify,List.getElem?_map,List.getElem?_modify,List.getElem?_set,List.length_map]
     by_cases C:j=i
     · subst C; rw [hj]; simp; have :=(List.getElem?_eq_some_iff.1 hj).1; simpa using this
     · simp [C]
   · intro p hp
     rcases List.mem_or_eq_of_mem_set hp with hp | hp
     · exact h2 p hp
     · rw [hp]; exact hi
   · have :(kvs.set j (kx,v)).map Prod.fst=kvs.map Prod.fst:=by
      apply List.ext_getElem?
      intro i
      simp only [List.getElem?_map,List.getElem?_set]
      by_cases C:j=i
      · subst C
        rw [← he]; simp only [List.getElem?_map,hj,List.length_map]
        have :=(List.getElem?_eq_some_iff.1 hj).1
        simp [this,h5]
        simpa using this
      · simp [C]
     rw [this]; exact h3
   · intro q u
     have G:kvs[j]? =some (kx,e'.val):=by rw [← he]; simp [hj,h5,J]
     have hlj:=(List.getElem?_eq_some_iff.1 G).1
     have ab:(kx,v)∈kvs.set j (kx,v):=List.mem_of_getElem? (i:=j) (by rw [List.getElem?_set,if_pos rfl,if_pos hlj])
     unfold aX
     by_cases A:q=kx
     · subst A
       rw [if_pos rfl]
       constructor
       · intro h; cases h; exact ab
       · intro h
         obtain ⟨i,s⟩:=List.getElem?_of_mem h
         rw [List.getElem?_set] at s
         split at s
         · rename_i aa
           subst aa
           cases s; rfl
         · rename_i hne
           exfalso
           exact hne ((List.getElem?_inj (i:=j) (j:=i) (by simpa using hlj) h3).1 (by simp [G,s]))
     · rw [if_neg A,h4]
       constructor
       · intro h
         obtain ⟨i,s⟩:=List.getElem?_of_mem h
         have hne:j≠i:=by rintro rfl; rw [G] at s; cases s; exact A rfl
         exact List.mem_of_getElem? (i:=i) (by rw [List.getElem?_set,if_neg hne]; exact s)
       · intro h
         rcases List.mem_or_eq_of_mem_set h with h | h
         · exact h
         · cases h; exact absurd rfl A
theorem lI (c:P.underlying t=some (.map k e)) (a:iJ P k isK) (hm:bf w.heap b isK f) (hx:ev N σ x= .map (some b)) (hy:ev N σ y=kx) (hz:ev N σ z=v) (hi:isK kx)
 (i:∀ w',Md (fun j=>j=b) w w'→bf w'.heap b isK (aX f kx v)→K σ w'):bD P N ⟨none,.mapUpdate t x y z,ty,pos,af,g⟩ σ w K:=by
 obtain ⟨w',h1,h2,h3⟩:=vY (v:=v) c a hm hi
 have hrun:(execOp (ev N σ) ⟨none,.mapUpdate t x y z,ty,pos,af,g⟩).run P w= .ok .skip w':=by
  simp [execOp,hx,hy,hz,h1]
 unfold bD Oper.wp
 rw [et,hrun]
 exact ⟨σ,rfl,i w' h2 h3⟩
theorem gH (c:P.underlying t=some (.map k e)) (a:iJ P k isK) (hm:bf w.heap b isK f) (hx:ev N σ x= .map (some b)) (hy:ev N σ y=kx) (hz:ev N σ z=v) (hi:isK kx)
 (i:∀ w',Md (fun j=>j=b) w w'→bf w'.heap b isK (aX f kx v)→K σ w'):bD P N ⟨none,.insert t x y z,ty,pos,af,g⟩ σ w K:=by
 obtain ⟨w',h1,h2,h3⟩:=vY (v:=v) c a hm hi
 have hrun:(execOp (ev N σ) ⟨none,.insert t x y z,ty,pos,af,g⟩).run P w= .ok .skip w':=by
  simp [execOp,hx,hy,hz,h1]
 unfold bD Oper.wp
 rw [et,hrun]
 exact ⟨σ,rfl,i w' h2 h3⟩
end
end Go.Hb
end
section
namespace Go.Hb
section
variable {P:Program} {N:Fm} {σ:Nat→Value} {w:World} {fn:Func} {R:Value→World→Prop}
theorem Dm {t b off :Nat} {v:Value} (hu:bS P t=some none) (hc:Hb.ay w.heap b off =some v):(loadVar t ⟨b,off,none⟩).run P w= .ok v w:=by
 have a:w.cell? ⟨b,off,none⟩=some v:=by rw [g5]; exact hc
 unfold bS at hu
 cases hd:P.underlying t with
 | none=>rw [hd] at hu; cases hu
 | some d=>
   rw [hd] at hu
   cases d <;> first
    | (simp only [Option.map_eq_some_iff] at hu; obtain ⟨_,_,h⟩:=hu; cases h; done)
    | simp [loadVar,isAgg,bW hd,run_load,a]
theorem Dn {t n b off :Nat} {cs:List Value} (hu:bS P t=some (some n)) (hl:cs.length=n) (hc:∀ j,j < n→Hb.ay w.heap b (off+j)=cs[j]?):(loadVar t ⟨b,off,none⟩).run P w= .ok (.agg cs.toArray) w:=by
 have a:(loadCells ⟨b,off,none⟩ n).run P w= .ok cs.toArray w:=by
  subst hl
  refine run_loadCells_list (P:=P) w ⟨b,off,none⟩ cs fun j v hj=> ?_
  rw [gd,g5]
  exact (hc j (List.getElem?_eq_some_iff.1 hj).1).trans hj
 unfold bS at hu
 cases hd:P.underlying t with
 | none=>rw [hd] at hu; cases hu
 | some d=>
   rw [hd] at hu
   cases hi:P.info? t with
   | none=>simp [Program.underlying,hi] at hd
   | some i=>
     rw [hi] at hu
     cases d <;> first
      | (cases hu; done)
      | (simp only [Option.map_some,Option.some.injEq] at hu; subst hu
         simp [loadVar,isAgg,bW hd,sizeOf,ek hi,a])
def h8 (P:Program) (N:Fm) (σ:Nat→Value) (w:World):ResultVar→Value→Prop
 | .tmp t,v=>ev N σ (.tmp t)=v
 | .cell a t,v=> ∃ ad,ev N σ (.tmp a)= .pointer (some ad)∧(loadVar t ad).run P w= .ok v w
theorem dD {t:Tmp} :h8 P N σ w (.tmp t) (ev N σ (.tmp t)):=rfl
theorem qw {a t b off :Nat} {v:Value} (hx:ev N σ (.tmp a)= .pointer (some ⟨b,off,none⟩)) (hu:bS P t=some none) (hc:Hb.ay w.heap b off =some v):h8 P N σ w (.cell a t) v:=⟨_,hx,Dm hu hc⟩
theorem c7 {a t n b off :Nat} {cs:List Value} (hx:ev N σ (.tmp a)= .pointer (some ⟨b,off,none⟩)) (hu:bS P t=some (some n)) (hl:cs.length=n) (hc:∀ j,j < n→Hb.ay w.heap b (off+j)=cs[j]?):h8 P N σ w (.cell a t) (.agg cs.toArray):=⟨_,hx,Dn hu hl hc⟩
def jc (tmps:Array Value):ResultVar→Sem Value
 | .tmp t=>pure (tmps.getD t undef)
 | .cell a t=>do loadVar t (← asAddr (tmps.getD a undef))
theorem hY {r:ResultVar} {v:Value} (h:h8 P N σ w r v):(jc (act N σ).tmps r).run P w= .ok v w:=by
 cases r with
 | tmp t=>
   show Sem.run P (pure ((act N σ).tmps.getD t undef)) w=_
   rw [iD]; simp only [h8] at h; rw [h]; rfl
 | cell a t=>
   obtain ⟨ad,h1,h2⟩:=h
   show Sem.run P (do loadVar t (← asAddr ((act N σ).tmps.getD a undef))) w=_
   rw [iD,h1]
   simp [asAddr,h2]
theorem EX {tmps:Array Value} {r:ResultVar} {v:Value} (h:fn.results= #[r]) (h1:(jc tmps r).run P w= .ok v w):(results fn tmps).run P w= .ok v w:=by
 have hx:(results fn tmps)=(do let vs ← #[r].mapM (jc tmps); pure (if h:vs.size=1 then vs[0] else .tuple vs)):=by
  unfold results; rw [h]; rfl
 rw [hx]; simp [List.mapM_toArray,h1]
theorem nT {tmps:Array Value} {r s:ResultVar} {v u:Value} (h:fn.results= #[r,s]) (h1:(jc tmps r).run P w= .ok v w) (h2:(jc tmps s).run P w= .ok u w):(results fn tmps).run P w= .ok (.tuple #[v,u]) w:=by
 have hx:(results fn tmps)=(do let vs ← #[r,s].mapM (jc tmps); pure (if h:vs.size=1 then vs[0] else .tuple vs)):=by
  unfold results; rw [h]; rfl
 rw [hx]; simp [List.mapM_toArray,h1,h2]
theorem EY {tmps:Array Value} {r s q:ResultVar} {v u z:Value} (h:fn.results= #[r,s,q]) (h1:(jc tmps r).run P w= .ok v w) (h2:(jc tmps s).run P w= .ok u w) (h3:(jc tmps q).run P w= .ok z w):(results fn tmps).run P w= .ok (.tuple #[v,u,z]) w:=by
 have hx:(results fn tmps)=(do let vs ← #[r,s,q].mapM (jc tmps); pure (if h:vs.size=1 then vs[0] else .tuple vs)):=by
  unfold results; rw [h]; rfl
 rw [hx]; simp [List.mapM_toArray,h1,h2,h3]
theorem l5 {r:ResultVar} {v:Value} (h:fn.results= #[r]) (h1:h8 P N σ w r v) (a:R v w):fin P fn N R .ret σ w:=⟨v,EX h (hY h1),a⟩
theorem ef {r s:ResultVar} {v u:Value} (h:fn.results= #[r,s]) (h1:h8 P N σ w r v) (h2:h8 P N σ w s u) (a:R (.tuple #[v,u]) w):fin P fn N R .ret σ w:=⟨_,nT h (hY h1) (hY h2),a⟩
theorem s5 {r s q:ResultVar} {v u z:Value} (h:fn.results= #[r,s,q]) (h1:h8 P N σ w r v) (h2:h8 P N σ w s u) (h3:h8 P N σ w q z) (a:R (.tuple #[v,u,z]) w):fin P fn N R .ret σ w:=⟨_,EY h (hY h1) (hY h2) (hY h3),a⟩
end
end Go.Hb
end
section
namespace Go.Hb
open Go.RowKit
def je (P:Program) (N:Fm) (c:Code) (B:Exit→Act→World→Prop) (σ:Nat→Value) (w:World):Prop :=c.wpIn (fe N.r) 0 P B (act N σ) w
def qb (N:Fm) (B:Exit→Act→World→Prop):Exit→(Nat→Value)→World→Prop :=fun e σ w=>B e (act N σ) w
section
variable {P:Program} {N:Fm} {B:Exit→Act→World→Prop} {σ:Nat→Value} {w:World}
theorem dS {x y:Code} (h:je P N x (Exit.then (y.wpIn (fe N.r) 0 P B) B) σ w):je P N (.seq x y) B σ w:=wpIn_seq h
theorem dY {y:Code} (h:je P N y B σ w):qb N (Exit.then (y.wpIn (fe N.r) 0 P B) B) .normal σ w:=h
theorem qv {y:Act→World→Prop} (h:qb N B .ret σ w):qb N (Exit.then y B) .ret σ w:=h
theorem qy (h:qb N B .ret σ w):je P N .ret B σ w:=wpIn_ret h
theorem eD {c:Code} (h:bL P N c (qb N B) σ w):je P N c B σ w:=by
 unfold bL at h
 refine wpIn_mono h ?_
 intro e a w hl
 cases e with
 | panic c=>obtain ⟨σ,rfl,i⟩:=hl; exact i σ fun _ _=>rfl
 | outgrown=>exact hl.elim
 | _=>obtain ⟨σ,rfl,i⟩:=hl; exact i
end
theorem nX (fn:Func) (args:List Value) (F:List Nat) (hn:Nat.ble args.length fn.ntmps=true):({tmps:=args.toArray++Array.replicate (fn.ntmps - args.toArray.size) undef,defers:= []} :Act)=act ⟨fn.ntmps,[],F,none⟩ (gQ args):=by
 have a:args.length≤fn.ntmps:=by simpa using hn
 refine mU rfl fun i=> ?_
 rw [jo]
 simp only [gQ,List.getD_eq_getElem?_getD,List.size_toArray]
 by_cases h1:i < args.length
 · rw [Array.getElem?_append_left (by simpa using h1),if_pos (by omega)]
   simp [h1]
 · rw [Array.getElem?_append_right (by simpa using h1)]
   simp only [List.size_toArray,Array.getElem?_replicate]
   by_cases h2:i < fn.ntmps
   · rw [if_pos (by omega),if_pos h2,List.getElem?_eq_none (by omega)]; rfl
   · rw [if_neg (by omega),if_neg h2]
abbrev Bm (P:Program) (fn:Func) (R:Value→World→Prop):Exit→Act→World→Prop :=bodyPostM Fence.wide 0 P fn (fun e w'=> ∃ v,e= .returned v∧R v w')
theorem sY {P:Program} {f:FuncId} {N:Nat} {fn:Func} {c:Code} {args:List Value} {w:World} {R:Value→World→Prop} (F:List Nat) (hf:P.funcs[f]? =some fn) (hb:fn.body=some c)
 (a:fn.ntmps=N) (hn:Nat.ble args.length N=true) (h:je P ⟨N,[],F,none⟩ c (Bm P fn R) (gQ args) w):aT P f args.toArray w R:=by
 subst a
 refine callsIn_wide.1 (callsIn_of_wp_marks (F:=Fence.wide) (n:=0) hf hb trivial ?_)
 rw [nX fn args F hn]
 exact h
section
variable {P:Program} {n:Nat} {F:List Nat} {σ:Nat→Value} {w:World} {fn:Func} {R:Value→World→Prop}
theorem C6 {e:Exit} (he:e= .ret∨e= .normal) {v:Value} (hr:(results fn (act ⟨n,[],F,none⟩ σ).tmps).run P w= .ok v w) (a:R v w):qb ⟨n,[],F,none⟩ (Bm P fn R) e σ w:=by
 rcases he with rfl | rfl <;> exact ⟨v,hr,v,rfl,a⟩
theorem sZ {t u:Nat} {v v':Value} (h:fn.results= #[.tmp t,.tmp u]) (hv:ev ⟨n,[],F,none⟩ σ (.tmp t)=v) (hu:ev ⟨n,[],F,none⟩ σ (.tmp u)=v') (a:R (.tuple #[v,v']) w):qb ⟨n,[],F,none⟩ (Bm P fn R) .ret σ w:=
 C6 (.inl rfl) (by rw [results_tmp2 h,iD,iD,hv,hu]) a
theorem C7 {D:Nat} {v:Value} (a:w.heap[D]? =some (.deferred (some []))) (hr:∀ w',(results fn (act ⟨n,[{target:= .collected D,args:= #[]}],F,none⟩ σ).tmps).run P w'= .ok v w') (c:R v (w.putObj D (.deferred none))):
 qb ⟨n,[{target:= .collected D,args:= #[]}],F,none⟩ (Bm P fn R) .ret σ w:=
 ⟨FrameMode.noConfusion,.inl ⟨_,_,rfl,run_takeDeferred a,⟨v,hr _,v,rfl,c⟩⟩⟩
theorem s0 {D t u:Nat} {v v':Value} (h:fn.results= #[.tmp t,.tmp u]) (hv:ev ⟨n,[{target:= .collected D,args:= #[]}],F,none⟩ σ (.tmp t)=v) (hu:ev ⟨n,[{target:= .collected D,args:= #[]}],F,none⟩ σ (.tmp u)=v')
 (a:w.heap[D]? =some (.deferred (some []))) (c:R (.tuple #[v,v']) (w.putObj D (.deferred none))):qb ⟨n,[{target:= .collected D,args:= #[]}],F,none⟩ (Bm P fn R) .ret σ w:=
 C7 a (fun w'=>by rw [results_tmp2 h,iD,iD,hv,hu]) c
end
theorem cz {w:World} {B t size n pp a:Nat} {v:Value} {xs:List Value} {cs:Array Value} {z:Nat×Nat} (h:w.ownsRow B t size v n xs) (hp:w.heap[pp]? =some (.cells cs a z)) (hne:t≠a):v.ownBlock≠some pp:=by
 intro hk
 rcases h.2 with ⟨h1,_⟩ | ⟨g,cap,cur,h1,_,hg,_⟩
 · rw [h1] at hk; simp [Value.ownBlock] at hk
 · rw [h1] at hk
   simp only [Value.ownBlock,Option.some.injEq] at hk
   subst hk
   rw [hg] at hp
   simp only [Option.some.injEq,Obj.cells.injEq] at hp
   exact hne hp.2.1
section
variable {P:Program} {N:Fm} {σ:Nat→Value} {w:World} {dst:Option Nat} {ty:TypeId} {pos :String} {af:Array Edge} {g:Option (Nat×Bool)} {x:Operand} {K:(Nat→Value)→World→Prop}
theorem xU {e:TypeId} {v:Value} (hx:ev N σ x=v) (h1:v.oneCell'=true) (k:∀ b w',b=w.heap.size→Nw w w'→w'.heap[b]? =some (.cells [v].toArray e (0,0))→K (dU σ dst (.pointer (some ⟨b,0,none⟩))) w'):
 bD P N ⟨dst,.box e x,ty,pos,af,g⟩ σ w K:=by
 refine jg (v:=fun b=> .pointer (some ⟨b,0,none⟩)) (ob:= .cells [v].toArray e (0,0)) ?_ k
 have :=j4 h1
 simp [execOp,Instr.box,hx,this,newVar,newRow]
end
theorem lu (w:World) (k:Nat) (o:Obj):Md (fun j=>j=k) w (w.putObj k o):=
 ⟨rfl,rfl,by simp [World.putObj],fun j _ hne=>World.putObj_heap_other hne⟩
def fi (w w':World):Prop := ∀ (k:Nat) (o:Obj),w.heap[k]? =some o→(∀ cur e z,o≠.cells cur e z)→w'.heap[k]? =some o
theorem fi.trans {a b c:World} (h:fi a b) (i:fi b c):fi a c:=fun k o j hn=>i k o (h k o j hn) hn
theorem fi.md {F:Nat→Prop} {w w':World} (hm:Md F w w') (i:∀ k,F k→∃ cur e z,w.heap[k]? =some (.cells cur e z)):fi w w':=fun k o a hn=>by
 rw [hm.e0 k (Array.getElem?_eq_some_iff.1 a).1 (fun hk=>by obtain ⟨c,e,z,h⟩:=i k hk; rw [a] at h; exact hn _ _ _ (Option.some.inj h))]; exact a
theorem fi.wk {w w':World} (hm:Wk w w'):fi w w':=fi.md hm fun _ h=>h.elim
theorem mo {w:World} {B e size n:Nat} {v:Value} {xs:List Value} (h:w.ownsRow B e size v n xs):∀ k,v.ownBlock=some k→∃ cur e z,w.heap[k]? =some (.cells cur e z):=by
 intro k hk
 rcases h.2 with ⟨rfl,_⟩ | ⟨g,cap,a,rfl,_,hg,_⟩
 · simp [Value.ownBlock] at hk
 · simp only [Value.ownBlock,Option.some.injEq] at hk; subst hk; exact ⟨_,_,_,hg⟩
def wY {α:Type} (B:Nat) (a:List α→World→Prop):Prop := ∀ pre W W' (F:Nat→Prop),a pre W→Md F W W'→(∀ k,F k→B≤k∧∀ cur e z,W.heap[k]?≠some (.cells cur e z))→a pre W'
section
variable {F:Nat→Prop} {W W':World} {B:Nat}
theorem n9 {b e:Nat} {cs:Array Value} {z:Nat×Nat} (h:W.heap[b]? =some (.cells cs e z)) (hm:Md F W W') (a:∀ k,F k→B≤k∧∀ cur e z,W.heap[k]?≠some (.cells cur e z)):W'.heap[b]? =some (.cells cs e z):=by
 rw [hm.e0 b (Array.getElem?_eq_some_iff.1 h).1 (fun hk=>(a b hk).2 _ _ _ h)]; exact h
theorem vF {a e size n:Nat} {v:Value} {xs:List Value} (h:W.ownsRow a e size v n xs) (hm:Md F W W') (i:∀ k,F k→B≤k∧∀ cur e z,W.heap[k]?≠some (.cells cur e z)):W'.ownsRow a e size v n xs:=
 bA h hm fun k hk hf=>by obtain ⟨c,e,z,h1⟩:=mo h k hk; exact (i k hf).2 _ _ _ h1
theorem vG {w:World} (h:Wk w W) (hm:Md F W W') (c:w.heap.size≤B) (a:∀ k,F k→B≤k∧∀ cur e z,W.heap[k]?≠some (.cells cur e z)):Wk w W':=Md.trans' h hm fun k hk hf=>by have :=(a k hf).1; omega
end
def qX {α:Type} (P:Program) (p:Nat) (lb:Array Value) (j:α→Array Value) (xs:List α) (i:World→Prop):Prop :=
 ∀ (l:Nat) (a:List α→World→Prop) (W:World),a [] W→(∀ pre W,a pre W→i W)→(∀ pre W1 c,a pre W1→Wk W1 c→a pre c)→
   (∀ pre x rest W1,xs=pre++x::rest→a pre W1→YieldAt Fence.wide 0 P l (j x) W1 fun e W'=>e= .returned (.bool true)∧a (pre++ [x]) W')→
   Calls P p (#[.func (.yield l) #[] #[]]++lb) W fun e W'=>(∃ v,e= .returned v)∧a xs W'
def EU (R:World→Prop):Exit→(Nat→Value)→World→Prop
 | .normal,_,w=>R w
 | _,_,_=>False
theorem xb (N:Fm):∀ (l:List (Tmp×Value)) (σ:Nat→Value),l.foldl (fun t p=>t.setIfInBounds p.1 p.2) (act N σ).tmps=(act N (l.foldl (fun s p=>bY s p.1 p.2) σ)).tmps:=by
 intro l
 induction l with
 | nil=>intro σ; rfl
 | cons p l ih=>
   intro σ
   rw [List.foldl_cons,List.foldl_cons,← ih]
   congr 1
   have :=congrArg Act.tmps (fI N σ (some p.1) p.2)
   exact this
theorem ve {α:Type} {P:Program} {id n:Nat} {g:Operand} {ps:Array Tmp} {O body:Code} {J:List Nat} {σ:Nat→Value} {w:World} {B:Exit→Act→World→Prop} {M:Nat} {lb:Array Value}
 (G:α→Array Value) (xs:List α) (Z:World→Prop) (i:List α→World→Prop) (hg:ev ⟨n,[],J,none⟩ σ g= .func (.func M) #[] lb) (hc:aM P M) (ao:∀ x,(G x).size=ps.size)
 (am:qX P M lb G xs Z) (ae:i [] w) (aj:∀ pre W,i pre W→Z W) (U:wY w.heap.size i) (ac:α→Nat→Value)
 (ha:∀ (l:Nat) (x:α) (W:World) (K:(Nat→Value)→World→Prop),K (ac x) W→bL P ⟨n,[],[],some l⟩ O (hZ K fun _ _ _=>False) ((ps.toList.zip (G x).toList).foldl (fun s p=>bY s p.1 p.2) σ) W)
 (hb:∀ (l:Nat) (pre:List α) (x:α) (rest:List α) (W:World),xs=pre++x::rest→i pre W→bL P ⟨n,[],[],some l⟩ body (EU fun W'=>fi W W'∧i (pre++ [x]) W') (ac x) W)
 (hd:∀ (D:Nat) (W:World),w.heap.size≤D→i xs W→W.heap[D]? =some (.deferred (some []))→qb ⟨n,[{target:= .collected D,args:= #[]}],J,none⟩ B .normal σ W):
 je P ⟨n,[],J,none⟩ (.block id (.rangeFunc g ps O body)) B σ w:=by
 refine wpIn_block (wpIn_rangeFunc ?_)
 intro fn _
 obtain ⟨rc,I⟩:∃ rc:LoopState→Option Code→Loop,rc=fun st aq=> {state:=st,pending:=aq,fn,tmps:=(act ⟨n,[],J,none⟩ σ).tmps,params:=ps,assign:=O,body,defers:=w.heap.size} :=⟨_,rfl⟩
 obtain ⟨W1,V⟩:∃ W1,(w.alloc (.deferred (some []))).alloc (.loop (rc .ready none))=W1:=⟨_,rfl⟩
 have ai:W1.heap[w.heap.size+1]? =some (.loop (rc .ready none)):=by
  rw [← V]; have :=World.alloc_heap_new (w.alloc (.deferred (some []))) (.loop (rc .ready none)); rwa [World.size_alloc] at this
 have ah:W1.heap[w.heap.size]? =some (.deferred (some [])):=by
  rw [← V]; exact (Below.heap_alloc _ _ _ (by simp)).trans (World.alloc_heap_new w _)
 have hn:∀ (W:World) (o:Obj),Wk W (W.alloc o):=fun W o=>(uM W o).md
 have ag:i [] W1:=by rw [← V]; exact U _ _ _ _ (U _ _ _ _ ae (hn _ _) (fun _ h=>h.elim)) (hn _ _) (fun _ h=>h.elim)
 have ak:(act ⟨n,[],J,none⟩ σ).eval g= .func (.func M) #[] lb:=by rw [et]; exact hg
 refine ⟨w.heap.size+1,[{target:= .collected w.heap.size,args:= #[]}],W1,{target:= .fn (.func M) lb,args:= #[.func (.yield (w.heap.size+1)) #[] #[]]},W1,M,
  #[.func (.yield (w.heap.size+1)) #[] #[]]++lb,W1,?_,?_,fun _ _=>trivial,?_,fun h0=>(by cases h0),?_⟩
 · rw [← V,I]; exact run_enterLoop_outer _ _ _ _ _
 · simp only [resolve,ak]
   simp [go_sem]
 · have :=hc (#[.func (.yield (w.heap.size+1)) #[] #[]]++lb) W1
   simp [invoke,go_sem,this]
 · have hput:∀ (pre:List α) (W:World) (o Y:Obj),i pre W→W.heap[w.heap.size+1]? =some o→(∀ cur e z,o≠.cells cur e z)→i pre (W.putObj (w.heap.size+1) Y):=fun pre W o Y h1 h2 h3=>
    U _ _ _ _ h1 (lu W _ Y) fun k hk=>⟨by omega,fun cur e z h4=>by subst hk; rw [h2] at h4; exact h3 _ _ _ (Option.some.inj h4)⟩
   refine callsIn_wide.2 (Calls.mono (am (w.heap.size+1)
    (fun pre W=>i pre W∧W.heap[w.heap.size+1]? =some (.loop (rc .ready none))∧W.heap[w.heap.size]? =some (.deferred (some [])))
    W1 ⟨ag,ai,ah⟩ (fun pre W h=>aj pre W h.1)
    (fun pre A C h hm=>⟨U _ _ _ _ h.1 hm (fun _ h=>h.elim),(hm.e0 _ (Array.getElem?_eq_some_iff.1 h.2.1).1 (fun h=>h)).trans h.2.1,(hm.e0 _ (Array.getElem?_eq_some_iff.1 h.2.2).1 (fun h=>h)).trans h.2.2⟩) ?_) ?_)
   · rintro pre x rest W hx ⟨hi,hl,hk⟩
     have hlt:w.heap.size+1 < W.heap.size:=(Array.getElem?_eq_some_iff.1 hl).1
     have hy:=run_yield (P:=P) (args:=G x) hl (by rw [I]; exact ao x)
     rw [I] at hy
     refine ⟨fn,_,O,body,hy,roundIn_of_wpIn (F:=Fence.wide) trivial ?_⟩
     have ap:((ps.zip (G x)).foldl (fun tmps (p:Tmp×Value)=>tmps.setIfInBounds p.1 p.2) (act ⟨n,[],J,none⟩ σ).tmps)=(act ⟨n,[],[],some (w.heap.size+1)⟩ ((ps.toList.zip (G x).toList).foldl (fun s p=>bY s p.1 p.2) σ)).tmps:=by
      rw [← Array.foldl_toList,Array.toList_zip]
      exact xb ⟨n,[],[],some (w.heap.size+1)⟩ _ σ
     have h1:=ha (w.heap.size+1) x W (fun E W'=> ∃ ab,(Instr.beginRound (w.heap.size+1)).run P W'= .ok () ab∧
      body.wpIn (Fence.wide.inRound (w.heap.size+1)) 0 P (roundPost P (w.heap.size+1) fun e W'=>e= .returned (.bool true)∧i (pre++ [x]) W'∧W'.heap[w.heap.size+1]? =some (.loop (rc .ready none))∧W'.heap[w.heap.size]? =some (.deferred (some []))) (act ⟨n,[],[],some (w.heap.size+1)⟩ E) ab) ?_
     · unfold bL at h1
       have ad:({tmps:=(ps.zip (G x)).foldl (fun tmps (p:Tmp×Value)=>tmps.setIfInBounds p.1 p.2) (act ⟨n,[],J,none⟩ σ).tmps,defers:= []} :Act)=act ⟨n,[],[],some (w.heap.size+1)⟩ ((ps.toList.zip (G x).toList).foldl (fun s p=>bY s p.1 p.2) σ):=by rw [ap]; rfl
       rw [ad]
       refine wpIn_mono h1 ?_
       intro e a w' j
       cases e with
       | normal=>obtain ⟨E,rfl,q⟩:=j; exact q
       | panic c=>obtain ⟨E,rfl,q⟩:=j; exact q E fun _ _=>rfl
       | outgrown=>exact j.elim
       | _=>obtain ⟨E,rfl,q⟩:=j; exact q
     refine ⟨_,run_beginRound hl (by rw [I]),?_⟩
     have hl2:(W.putObj (w.heap.size+1) (.loop {rc .ready none with state:= .busy})).heap[w.heap.size+1]? =some (.loop {rc .ready none with state:= .busy}):=World.putObj_heap_same hlt
     have an:(W.putObj (w.heap.size+1) (.loop {rc .ready none with state:= .busy})).heap[w.heap.size]? =some (.deferred (some [])):=(World.putObj_heap_other (by omega)).trans hk
     have h2:=hb (w.heap.size+1) pre x rest _ hx (hput _ _ _ (.loop {rc .ready none with state:= .busy}) hi hl (fun _ _ _ h=>by cases h))
     unfold bL at h2
     refine wpIn_mono h2 ?_
     intro e a au j
     cases e with
     | normal=>
       obtain ⟨E,rfl,aa,al⟩:=j
       have hl3:=aa _ _ hl2 (fun _ _ _ h=>by cases h)
       have hk3:=aa _ _ an (fun _ _ _ h=>by cases h)
       have hr:=run_endRound (P:=P) none hl3
       rw [I] at hr hl3 ⊢
       exact ⟨_,_,hr,rfl,hput _ _ _ _ al hl3 (fun _ _ _ h=>by cases h),World.putObj_heap_same (Array.getElem?_eq_some_iff.1 hl3).1,(World.putObj_heap_other (by omega)).trans hk3⟩
     | panic c=>obtain ⟨E,rfl,q⟩:=j; exact (q E fun _ _=>rfl).elim
     | outgrown=>exact j.elim
     | _=>obtain ⟨E,rfl,q⟩:=j; exact q.elim
   · rintro e ar ⟨⟨v,rfl⟩,hi,hl,hk⟩
     have hrun:=run_endLoop (P:=P) hl (by rw [I]; simp)
     rw [I] at hrun
     refine ⟨none,_,hrun,?_⟩
     rw [I] at hl
     exact hd w.heap.size _ (Nat.le_refl _) (hput _ _ _ _ hi hl (fun _ _ _ h=>by cases h)) ((World.putObj_heap_other (by omega)).trans hk)
section
variable {P:Program} {N:Fm} {ops:Array Oper} {Q:Exit→(Nat→Value)→World→Prop} {rest:List Oper} {σ:Nat→Value} {w:World} {d':Option Nat} {d:Nat} {op:Op} {ty:TypeId} {pos :String} {af:Array Edge} {v:Value}
def jf (P:Program) (N:Fm) (ops:Array Oper) (Q:Exit→(Nat→Value)→World→Prop) (l:List Oper) (σ:Nat→Value) (w:World):Prop :=wpListIn (fe N.r) 0 P ops (lift N Q) l (act N σ) w
theorem ES {id:Nat} {l:List Oper} (h:jf P N l.toArray Q l σ w):bL P N (.region id l.toArray false) Q σ w:=by
 unfold bL; exact wpIn_region_lit h
theorem DK (h:Q .normal σ w):jf P N ops Q [] σ w:=⟨σ,rfl,h⟩
def qc (o:Op):Bool:=match o with | .defer _=>false | _=>true
theorem DM {o:Op} (h:qc o=true):∀ c,o≠.defer c:=fun c e=>by subst e; cases h
theorem ey (hn:qc op=true) (h:bD P N ⟨d',op,ty,pos,af,none⟩ σ w (fun σ w=>jf P N ops Q rest σ w)):jf P N ops Q (⟨d',op,ty,pos,af,none⟩::rest) σ w:=by
 unfold jf wpListIn
 rw [if_pos (ff _ rfl _)]
 refine ⟨fun f _=>nA _ f,?_⟩
 rw [pz,Oper.semAt_eq _ _ _ (DM hn)]
 unfold bD Oper.wp at h
 generalize (execOp (act N σ).eval ⟨d',op,ty,pos,af,none⟩).run P w=x at h ⊢
 cases x with
 | ok n w'=>
   cases n <;> simp only [Oper.upon,Oper.uponIn] at h ⊢ <;>
    first
     | (obtain ⟨a,ha,hk⟩:=h; rw [ha]; exact hk)
     | (refine ⟨fun h0=>(by rw [l6] at h0; cases h0),CallsIn.mono (s7 h) fun e w'' he=> ?_⟩
        cases e with
        | returned v=>obtain ⟨a,ha,hk⟩:=he; simp only; rw [ha]; exact hk
        | panicked c=>exact he.elim
        | outgrown=>obtain ⟨_,_,hf⟩:=he; exact hf.elim)
     | (refine ⟨fun h0=>(by rw [l6] at h0; cases h0),RowsIn.mono (s8 h) fun v w'' he=> ?_⟩
        obtain ⟨a,ha,hk⟩:=he; rw [ha]; exact hk)
 | halt x w'=>cases x <;> simp only [Oper.upon] at h
theorem py (hn:qc op=true) (h:(execOp (ev N σ) ⟨some d,op,ty,pos,af,none⟩).run P w= .ok (.value v) w) (k:jf P N ops Q rest (bY σ d v) w):jf P N ops Q (⟨some d,op,ty,pos,af,none⟩::rest) σ w:=
 ey hn (iF h k)
theorem GB {l:Nat} {fo:Operand} {args:Array Operand} {i:Array TypeId} {L:List Value} {R:World→Prop} (hv:ev N σ fo= .func (.yield l) #[] #[]) (p:args.toList.map (ev N σ)=L)
 (hy:YieldAt Fence.wide 0 P l L.toArray w fun e W'=>e= .returned (.bool true)∧R W') (k:∀ W',R W'→jf P N ops Q rest (bY σ d (.bool true)) W'):
 jf P N ops Q (⟨some d,.call ⟨.value fo,args,i⟩,ty,pos,af,none⟩::rest) σ w:=by
 obtain ⟨fn,tmps,a,b,hrun,j⟩:=hy
 unfold jf wpListIn
 rw [if_pos (ff _ rfl _)]
 refine ⟨fun f _=>nA _ f,?_⟩
 rw [pz,Oper.semAt_eq _ _ _ (fun c e=>by cases e),et]
 have hm:args.map (ev N σ)=L.toArray:=by rw [← p,← Array.toList_map]
 have hx:(execOp (ev N σ) ⟨some d,.call ⟨.value fo,args,i⟩,ty,pos,af,none⟩).run P w= .ok (.round l fn tmps a b) w:=by
  simp [execOp,resolve,hv,Deferred.ofValue,invoke,hm,hrun]
 rw [hx]
 simp only [Oper.uponIn]
 refine ⟨fun h0=>(by rw [l6] at h0; cases h0),?_⟩
 have h1:RoundIn (fe N.r) (0 - 1) P l fn tmps a b w fun e W'=>e= .returned (.bool true)∧R W':=by
  cases hr:N.r with
  | none=>exact j
  | some k=>exact j
 refine RoundIn.mono h1 ?_
 rintro e W' ⟨rfl,hw⟩
 simp only
 rw [fI]
 exact k W' hw
end
end Go.Hb
end
section
namespace Go.Hb
open Go.RowKit
def cM (P:Program) (f:FuncId) (args:Array Value) (w:World) (R:Value→World→Prop) (Pn:List PanicEntry→World→Prop):Prop :=
 Calls P f args w fun e w'=>(∃ v,e= .returned v∧R v w')∨∃ c,e= .panicked c∧Pn c w'
def tc (P:Program) (fn:Func) (N:Fm) (R:Value→World→Prop) (Pn:List PanicEntry→World→Prop):Exit→(Nat→Value)→World→Prop
 | .normal,σ,w=> ∃ v,(results fn (act N σ).tmps).run P w= .ok v w∧R v w
 | .ret,σ,w=> ∃ v,(results fn (act N σ).tmps).run P w= .ok v w∧R v w
 | .panic c,_,w=>Pn c w
 | _,_,_=>False
theorem eR {P:Program} {fn:Func} {N:Fm} {R:Value→World→Prop} {Pn:List PanicEntry→World→Prop} {e:Exit} {σ:Nat→Value} {w:World} (h:fin P fn N R e σ w):tc P fn N R Pn e σ w:=by
 cases e <;> first | exact h | exact h.elim
theorem e5 {P:Program} {f:FuncId} {N:Nat} {fn:Func} {c:Code} {args:List Value} {w:World} {R:Value→World→Prop} {Pn:List PanicEntry→World→Prop} (hf:P.funcs[f]? =some fn) (hb:fn.body=some c)
 (p:fn.ntmps=N) (hn:Nat.ble args.length N=true) (h:bL P ⟨N,[],[],none⟩ c (tc P fn ⟨N,[],[],none⟩ R Pn) (gQ args) w):cM P f args.toArray w R Pn:=by
 subst p
 refine calls_of_wp hf hb ?_
 rw [nX fn args [] hn]
 unfold bL at h
 refine Code.wp_mono ?_ (wpIn_wide.1 h)
 intro e a w hl
 cases e with
 | normal=>obtain ⟨σ,rfl,v,hr,j⟩:=hl; exact ⟨rfl,v,hr,.inl ⟨v,rfl,j⟩⟩
 | ret=>obtain ⟨σ,rfl,v,hr,j⟩:=hl; exact ⟨rfl,v,hr,.inl ⟨v,rfl,j⟩⟩
 | exit id=>obtain ⟨σ,rfl,i⟩:=hl; exact i.elim
 | goto l=>obtain ⟨σ,rfl,i⟩:=hl; exact i.elim
 | panic c=>obtain ⟨σ,rfl,i⟩:=hl; exact ⟨rfl,.inr ⟨c,rfl,i σ fun _ _=>rfl⟩⟩
 | outgrown=>exact hl.elim
section
variable {P:Program} {N:Fm} {Q:Exit→(Nat→Value)→World→Prop} {σ:Nat→Value} {w:World} {ops:Array Oper} {rest:List Oper} {dst:Option Nat} {ty:TypeId} {pos :String} {af:Array Edge} {g:Option (Nat×Bool)} {x:Operand}
def jh (P:Program) (N:Fm) (o:Oper) (σ:Nat→Value) (w:World) (K:(Nat→Value)→World→Prop) (Pn:List PanicEntry→World→Prop):Prop :=
 Oper.wp P o (act N σ) w (fun a w=> ∃ σ,a=act N σ∧K σ w) (fun e a w=>match e with | .panic c=>a=act N σ∧Pn c w | _=>False)
theorem oy {o:Oper} {K:(Nat→Value)→World→Prop} {Pn:List PanicEntry→World→Prop} {j:Act→World→Prop} (h:jh P N o σ w K Pn) (hk:∀ σ w,K σ w→j (act N σ) w) (hp:∀ c w',Pn c w'→∀ s,(∀ i∈N.F,s i=σ i)→Q (.panic c) s w'):o.wp P (act N σ) w j (lift N Q):=by
 unfold jh at h
 unfold Oper.wp at*
 generalize (execOp (act N σ).eval o).run P w=r at h ⊢
 have p:∀ a w,(∃ σ,a=act N σ∧K σ w)→j a w:=by rintro a w ⟨σ,rfl,h⟩; exact hk _ _ h
 have q:∀ c (a:Act) w',(a=act N σ∧Pn c w')→lift N Q (.panic c) a w':=by rintro c a w' ⟨rfl,h⟩; exact ⟨σ,rfl,hp c w' h⟩
 cases r with
 | ok n w'=>
   cases n <;> simp only [Oper.upon] at h ⊢ <;>
    first
     | exact p _ _ h
     | exact Calls.mono h (fun e w'' he=>by
      cases e with
      | returned v=>exact p _ _ he
      | panicked c=>exact q _ _ _ ⟨rfl,he.2⟩
      | outgrown=>obtain ⟨_,_,hf⟩:=he; exact hf.elim)
     | exact Rows.mono h (fun _ _ he=>p _ _ he)
 | halt x w'=>cases x <;> simp only [Oper.upon] at h ⊢ <;> exact q _ _ _ ⟨rfl,h.2⟩
theorem bz {f:FuncId} {args:Array Operand} {a:Array TypeId} {L:List Value} {R:Value→World→Prop} {Pn:List PanicEntry→World→Prop} {K:(Nat→Value)→World→Prop} (hc:aM P f) (hr:cM P f L.toArray w R Pn) (i:args.toList.map (ev N σ)=L)
 (k:∀ v w',R v w'→K (dU σ dst v) w'):jh P N ⟨dst,.call ⟨.value (.func f),args,a⟩,ty,pos,af,g⟩ σ w K Pn:=by
 unfold jh Oper.wp
 have hm:args.map (ev N σ)=L.toArray:=by rw [← i,← Array.toList_map]
 have hx:(execOp (ev N σ) ⟨dst,.call ⟨.value (.func f),args,a⟩,ty,pos,af,g⟩).run P w= .ok (.enter f L.toArray) w:=by
  have h2:=hc L.toArray w
  simp [execOp,resolve,ev,Deferred.ofValue,invoke,hm,h2]
 rw [et,hx]
 simp only [Oper.upon]
 refine Calls.mono hr ?_
 rintro e w' (⟨v,rfl,p⟩ | ⟨c,rfl,j⟩)
 · exact ⟨_,fI ..,k v w' p⟩
 · exact ⟨trivial,j⟩
theorem wj {f:FuncId} {fo:Operand} {first cap:Array Value} {args:Array Operand} {a:Array TypeId} {L:List Value} {R:Value→World→Prop} {Pn:List PanicEntry→World→Prop} {K:(Nat→Value)→World→Prop} (hc:aM P f) (hv:ev N σ fo= .func (.func f) first cap) (hr:cM P f L.toArray w R Pn) (i:first.toList++args.toList.map (ev N σ)++cap.toList=L)
 (k:∀ v w',R v w'→K (dU σ dst v) w'):jh P N ⟨dst,.call ⟨.value fo,args,a⟩,ty,pos,af,g⟩ σ w K Pn:=by
 unfold jh Oper.wp
 have hm:first++args.map (ev N σ)++cap=L.toArray:=by rw [← i]; simp
 have hx:(execOp (ev N σ) ⟨dst,.call ⟨.value fo,args,a⟩,ty,pos,af,g⟩).run P w= .ok (.enter f L.toArray) w:=by
  have h2:=hc L.toArray w
  simp only [execOp,resolve,hv,Deferred.ofValue,invoke]
  simp [hm,h2]
 rw [et,hx]
 simp only [Oper.upon]
 refine Calls.mono hr ?_
 rintro e w' (⟨v,rfl,p⟩ | ⟨c,rfl,j⟩)
 · exact ⟨_,fI ..,k v w' p⟩
 · exact ⟨trivial,j⟩
theorem eP {o:Oper} {Pn:List PanicEntry→World→Prop} (hg:o.guard=none) (h:jh P N o σ w (fun σ w=>cB P N ops Q rest σ w) Pn) (hp:∀ c w',Pn c w'→∀ a,(∀ i∈N.F,a i=σ i)→Q (.panic c) a w'):cB P N ops Q (o::rest) σ w:=by
 unfold cB wpList
 rw [if_pos (ff o hg _)]
 refine .inl (oy h (fun σ w hk=> ?_) hp)
 unfold cB at hk; exact hk
theorem Ep {t:TypeId} {v:Value} (hx:ev N σ x= .iface t v) (hp:∀ a,(∀ i∈N.F,a i=σ i)→Q (.panic [{v:= .iface t v,recovered:=false}]) a w):cB P N ops Q (⟨dst,.panic x,ty,pos,af,none⟩::rest) σ w:=by
 unfold cB wpList
 rw [if_pos (ff _ rfl _)]
 refine .inl ?_
 unfold Oper.wp
 have hr:(execOp (ev N σ) ⟨dst,.panic x,ty,pos,af,none⟩).run P w= .halt (.panic (.iface t v)) w:=by
  simp [execOp,hx,Instr.panic]
 rw [et,hr]
 exact ⟨σ,rfl,hp⟩
theorem DB {t:TypeId} {d:TypeDesc} {v:Value} (hu:P.underlying t=some d) (hd:(match d with | .interface _=>false | _=>true)=true) (hx:ev N σ x=v):(execOp (ev N σ) ⟨dst,.makeInterface t x,ty,pos,af,g⟩).run P w= .ok (.value (.iface t v)) w:=by
 cases d <;> first | (cases hd; done) | simp [execOp,Instr.makeInterface,hx,bW hu]
def kA (P:Program) (t:TypeId):Bool:=match P.underlying t with | some (.interface _)=>false | some _=>true | none=>false
theorem DC {t:TypeId} {v:Value} (h:kA P t=true) (hx:ev N σ x=v):(execOp (ev N σ) ⟨dst,.makeInterface t x,ty,pos,af,g⟩).run P w= .ok (.value (.iface t v)) w:=by
 unfold kA at h
 cases hd:P.underlying t with
 | none=>rw [hd] at h; cases h
 | some d=>rw [hd] at h; exact DB hd (by cases d <;> first | rfl | cases h) hx
theorem FN {xt a:TypeId} {zv:Value} (hu:kA P a=true) (hz:zeroV P a=some zv) (hx:ev N σ x= .nilIface):(execOp (ev N σ) ⟨dst,.typeAssert x xt a true,ty,pos,af,g⟩).run P w= .ok (.value (.tuple #[zv,.bool false])) w:=by
 unfold kA at hu
 cases hd:P.underlying a with
 | none=>rw [hd] at hu; cases hu
 | some d=>rw [hd] at hu; cases d <;> first | (cases hu; done) | simp [execOp,Instr.typeAssert,hx,bW hd,oC hz]
theorem FM {xt a:TypeId} {v:Value} (hu:kA P a=true) (hx:ev N σ x= .iface a v):(execOp (ev N σ) ⟨dst,.typeAssert x xt a true,ty,pos,af,g⟩).run P w= .ok (.value (.tuple #[v,.bool true])) w:=by
 unfold kA at hu
 cases hd:P.underlying a with
 | none=>rw [hd] at hu; cases hu
 | some d=>rw [hd] at hu; cases d <;> first | (cases hu; done) | simp [execOp,Instr.typeAssert,hx,bW hd]
variable {S:World→Prop} {fuel:Nat} {aC:Array Bool}
theorem lk {o:Oper} {Pn:List PanicEntry→World→Prop} (i:Nat) (hi:ops[i]? =some o) (hr:g9 ops aC i=true) (hg:o.guard=none)
 (h:jh P N o σ w (fun σ w=>S w∧dM P N ops Q S fuel (aC.setIfInBounds i true) σ w) Pn) (hp:∀ c w',Pn c w'→∀ a,(∀ i∈N.F,a i=σ i)→Q (.panic c) a w'):dM P N ops Q S (fuel+1) aC σ w:=by
 unfold dM at*
 refine wpAnyH_all (rs:= [i]) (by simpa [g9] using hr) (by simp) ?_
 intro k hk
 obtain rfl :k=i:=by simpa using hk
 unfold wpOp
 simp only [hi]
 rw [if_pos (ff _ hg _)]
 exact .inl (oy h (fun σ w hk=>hk) hp)
end
section
variable {P:Program} {N:Fm} {Q:Exit→(Nat→Value)→World→Prop} {σ:Nat→Value} {w:World} {ops:Array Oper} {S:World→Prop} {fuel:Nat} {aC:Array Bool}
theorem Cp {o a:Oper} {Pn:List PanicEntry→World→Prop} (i j:Nat) (hi:ops[i]? =some o) (hj:ops[j]? =some a) (hr:((Region.ready .any ops aC)== [i,j])=true) (hg:o.guard=none) (hg1:a.guard=none)
 (h:jh P N o σ w (fun σ w=>S w∧dM P N ops Q S fuel (aC.setIfInBounds i true) σ w) Pn) (hp:∀ c w',Pn c w'→∀ p,(∀ i∈N.F,p i=σ i)→Q (.panic c) p w')
 (h1:bD P N a σ w (fun σ w=>S w∧dM P N ops Q S fuel (aC.setIfInBounds j true) σ w)):dM P N ops Q S (fuel+1) aC σ w:=by
 unfold dM at*
 refine wpAnyH_all (rs:= [i,j]) (by simpa using hr) (by simp) ?_
 intro k hk
 simp only [List.mem_cons,List.not_mem_nil,or_false] at hk
 rcases hk with rfl | rfl
 · unfold wpOp
   simp only [hi]
   rw [if_pos (ff _ hg _)]
   exact .inl (oy h (fun _ _ hk=>hk) hp)
 · unfold wpOp
   simp only [hj]
   rw [if_pos (ff _ hg1 _)]
   exact .inl (lM h1 (fun _ _ hk=>hk))
end
section
variable {P:Program} {N:Fm} {Q:Exit→(Nat→Value)→World→Prop} {σ:Nat→Value} {w:World} {ops:Array Oper} {S:World→Prop} {fuel r:Nat} {aC:Array Bool}
theorem uk {o:Oper} {Pn:List PanicEntry→World→Prop} (i:Nat) (hi:ops[i]? =some o) (hr:g9 ops aC i=true) (hg:o.guard=none)
 (h:jh P N o σ w (fun σ w=>S w∧dV P N ops Q S r fuel (aC.setIfInBounds i true) σ w) Pn) (hp:∀ c w',Pn c w'→∀ j,(∀ i∈N.F,j i=σ i)→Q (.panic c) j w'):dV P N ops Q S r (fuel+1) aC σ w:=by
 unfold dV at*
 have a:Region.ready .any ops aC= [i]:=by simpa [g9] using hr
 refine ⟨fun h0=>absurd (a ▸ h0) (by simp),fun k hk=> ?_⟩
 rw [a] at hk
 obtain rfl :k=i:=by simpa using hk
 unfold wpOp
 simp only [hi]
 rw [if_pos (ff _ hg _)]
 exact .inl (oy h (fun σ w hk=>⟨fun _=>hk.1,hk.2⟩) hp)
end
abbrev jO (P:Program) (fn:Func) (R:Value→World→Prop):Exit→Act→World→Prop :=bodyPostD P fn (fun e w'=> ∃ v,e= .returned v∧R v w')
theorem A5 {P:Program} {f:FuncId} {N:Nat} {fn:Func} {c:Code} {args:List Value} {w:World} {R:Value→World→Prop} (F:List Nat) (hf:P.funcs[f]? =some fn) (hb:fn.body=some c)
 (a:fn.ntmps=N) (hn:Nat.ble args.length N=true) (h:je P ⟨N,[],F,none⟩ c (jO P fn R) (gQ args) w):aT P f args.toArray w R:=by
 subst a
 refine calls_of_wp_defers hf hb ?_
 rw [nX fn args F hn]
 exact wpIn_wide.1 h
section
variable {P:Program} {n:Nat} {D:List Deferred} {F:List Nat} {σ:Nat→Value} {w:World} {fn:Func} {R:Value→World→Prop} {B:Exit→Act→World→Prop}
theorem Bo {v:Value} (hr:(results fn (act ⟨n,[],F,none⟩ σ).tmps).run P w= .ok v w) (a:R v w):qb ⟨n,[],F,none⟩ (jO P fn R) .ret σ w:=⟨v,hr,v,rfl,a⟩
theorem Da:¬LetsOut (jO P fn R):=fun ⟨_,_,h⟩=>by obtain ⟨v,h,_⟩:=h; cases h
theorem AJ {id d:Nat} {f:FuncId} (A:¬LetsOut B) {cs:Array Operand} {q s:TypeId} {j p:String} {c i:Array Edge} {y:Code} (caps:Array Value) (E:cs.toList.map (ev ⟨n,[],F,none⟩ σ)=caps.toList) (hd:d < n)
 (h:je P ⟨n,[{target:= .fn (.func f) caps,args:= #[]}],F,none⟩ y B (bY σ d (.func (.func f) #[] caps)) w):
 je P ⟨n,[],F,none⟩ (.region id #[⟨some d,.makeFunc (.func f) #[] cs,q,j,c,none⟩,⟨none,.defer ⟨.value (.tmp d),#[],#[]⟩,s,p,i,none⟩] false) (Exit.then (y.wpIn (fe none) 0 P B) B) σ w:=by
 have G:cs.map (ev ⟨n,[],F,none⟩ σ)=caps:=Array.toList_inj.1 (by rw [Array.toList_map]; exact E)
 refine wpIn_region ?_
 have C:¬LetsOut (Exit.then (y.wpIn (fe none) 0 P B) B):=fun ⟨a,w,h⟩=>A ⟨a,w,h⟩
 refine pT (r:=none) C rfl _ _ _ ?_
 show wpOps P _ _ [0,1] _ _
 simp only [wpOps,List.getElem?_toArray,List.getElem?_cons_zero,List.getElem?_cons_succ]
 rw [if_pos (ff _ rfl _)]
 refine .inl ?_
 unfold Oper.wp
 have h1:(execOp (act ⟨n,[],F,none⟩ σ).eval ⟨some d,.makeFunc (.func f) #[] cs,q,j,c,none⟩).run P w= .ok (.value (.func (.func f) #[] caps)) w:=by
  rw [et,mf,G]; simp
 rw [h1]
 simp only [Oper.upon]
 rw [if_pos (ff _ rfl _),fI]
 refine .inl ?_
 have h2:(execOp (act ⟨n,[],F,none⟩ (dU σ (some d) (.func (.func f) #[] caps))).eval ⟨none,.defer ⟨.value (.tmp d),#[],#[]⟩,s,p,i,none⟩).run P w= .ok (.defer {target:= .fn (.func f) caps,args:= #[]}) w:=by
  have I:ev ⟨n,[],F,none⟩ (bY σ d (.func (.func f) #[] caps)) (.tmp d)= .func (.func f) #[] caps:=by
   show cond (Nat.blt d n) (bY σ d _ d) undef=_
   rw [show Nat.blt d n=true from by simpa using hd]
   show bY σ d _ d=_
   unfold bY; simp
  rw [et]
  show (execOp (ev ⟨n,[],F,none⟩ (bY σ d (.func (.func f) #[] caps))) _).run P w=_
  simp [execOp,resolve,I,Deferred.ofValue]
 rw [h2]
 exact h
end
theorem D0 {P:Program} {ops:Array Oper} {Q:Exit→Act→List Frame→World→Prop} {cs:List Frame} (c:¬LetsOut fun e a w=>Q e a cs w):∀ (l:List Nat) (a:Act) (w:World),wpOps P ops (fun e a w=>Q e a cs w) l a w→wpOpsS P ops Q l a cs w:=by
 intro l
 induction l with
 | nil=>exact fun _ _ h=>h
 | cons i l ih=>
   intro a w h
   simp only [wpOps] at h
   simp only [wpOpsS]
   cases ho:ops[i]? with
   | none=>simp only [ho] at h ⊢; exact ih a w h
   | some o=>
     simp only [ho] at h ⊢
     by_cases hw:Region.wanted o (yielded ops a.tmps)=true
     · rw [if_pos hw] at h ⊢
       rcases h with h | h
       · unfold Oper.wp at h
         generalize (execOp a.eval o).run P w=x at h
         cases x with
         | ok n w'=>
           cases n <;> simp only [Oper.upon] at h ⊢ <;>
            first
             | exact ih _ _ h
             | exact Calls.mono h (fun e w'' he=>by cases e <;> first | exact ih _ _ he | exact he)
             | exact Rows.mono h (fun v w'' he=>ih _ _ he)
         | halt x w'=>cases x <;> simp only [Oper.upon] at h ⊢ <;> exact h
       · exact absurd h.2 c
     · rw [if_neg hw] at h ⊢
       exact ih _ _ h
theorem Dd {P:Program} {ops:Array Oper} {Q j:Exit→Act→World→Prop} (i:∀ e a w,Q e a w→j e a w) (p:¬LetsOut Q):∀ (l:List Oper) (a:Act) (w:World),wpList P ops Q l a w→wpList P ops j l a w:=by
 intro l
 induction l with
 | nil=>exact fun _ _ h=>i _ _ _ h
 | cons o l ih=>
   intro a w h
   unfold wpList at h ⊢
   split at h
   · rename_i hw
     rw [if_pos hw]
     rcases h with h | h
     · left
       unfold Oper.wp at h ⊢
       generalize (execOp a.eval o).run P w=x at h
       cases x with
       | ok n w'=>
         cases n <;> simp only [Oper.upon] at h ⊢ <;>
          first
           | exact ih _ _ h
           | exact Calls.mono h (fun e w'' he=>by
            cases e with
            | returned v=>exact ih _ _ he
            | panicked c=>exact i _ _ _ he
            | outgrown=>exact absurd he p)
           | exact Rows.mono h (fun v w'' he=>ih _ _ he)
       | halt x w'=>cases x <;> simp only [Oper.upon] at h ⊢ <;> exact i _ _ _ h
     · exact absurd h.2 p
   · rename_i hw
     rw [if_neg hw]; exact ih _ _ h
theorem si {P:Program} {f:FuncId} {fn:Func} {id N d:Nat} {ty:TypeId} {pos :String} {af:Array Edge} {rest:List Oper} {y:Code} {args:List Value} {w:World} {u q:FrameMode} {v:Value} {R:World→Prop}
 (hf:P.funcs[f]? =some fn) (hb:fn.body=some (.seq (.region id (⟨some d,.call ⟨.builtin .recover,#[],#[]⟩,ty,pos,af,none⟩::rest).toArray false) y)) (I:fn.ntmps=N) (hn:Nat.ble args.length N=true)
 (M:∀ (c₀:Frame) (cs:List Frame),c₀.mode=u→(recoverD (c₀::cs)=some (v,{c₀ with mode:=q} ::cs))∨(recoverD (c₀::cs)=none∧v= .nilIface∧q=u))
 (h:cB P ⟨N,[],[],none⟩ (⟨some d,.call ⟨.builtin .recover,#[],#[]⟩,ty,pos,af,none⟩::rest).toArray (hZ (fun σ w=>bL P ⟨N,[],[],none⟩ y (fin P fn ⟨N,[],[],none⟩ fun _ w=>R w) σ w) (fin P fn ⟨N,[],[],none⟩ fun _ w=>R w)) rest (bY (gQ args) d v) w):
 CallsD P f args.toArray u w fun e u1 w'=> ∃ v,e= .returned v∧u1=q∧R w':=by
 subst I
 refine callsD_of_wpS hf hb ?_
 intro c₀ cs hu
 rw [nX fn args [] hn]
 refine wpS_seq (wpS_region ?_)
 have hsz:List.range (⟨some d,.call ⟨.builtin .recover,#[],#[]⟩,ty,pos,af,none⟩::rest).toArray.size=0::(List.range' 1 rest.length):=by
  rw [List.size_toArray,List.length_cons,List.range_eq_range',List.range'_succ]
 rw [hsz]
 simp only [wpOpsS,List.getElem?_toArray,List.getElem?_cons_zero]
 rw [if_pos (ff _ rfl _)]
 have hx:(execOp (act ⟨fn.ntmps,[],[],none⟩ (gQ args)).eval ⟨some d,.call ⟨.builtin .recover,#[],#[]⟩,ty,pos,af,none⟩).run P w= .ok .recover w:=by
  rw [et]
  simp [execOp,resolve,invoke,builtin]
 rw [hx]
 simp only
 obtain ⟨s,A⟩:∃ s,s=({c₀ with mode:=q} ::cs:List Frame):=⟨_,rfl⟩
 have J:∀ X:Act→List Frame→Prop,X ((act ⟨fn.ntmps,[],[],none⟩ (gQ args)).put (some d) v) s→
  (match recoverD (c₀::cs) with
   | some (v,C)=>X ((act ⟨fn.ntmps,[],[],none⟩ (gQ args)).put (some d) v) C
   | none=>X ((act ⟨fn.ntmps,[],[],none⟩ (gQ args)).put (some d) .nilIface) (c₀::cs)):=by
  intro X hX
  rcases M c₀ cs hu with h1 | ⟨h1,h2,h3⟩
  rw [h1]; subst A; exact hX
  rw [h1]; subst h2 h3
  have :({c₀ with mode:=q} :Frame)=c₀:=by subst hu; rfl
  rw [this] at A; subst A; exact hX
 refine J (fun a C=>wpOpsS P _ _ _ a C w) ?_
 rw [fI]
 refine D0 ?_ _ _ _ ?_
 rintro ⟨a,w,h⟩
 simp only [Exit.thenS,bodyPostS] at h
 obtain ⟨_,_,h,_⟩:=h; cases h
 have h1:=wpOps_eq_wpList (P:=P) (ops:=(⟨some d,.call ⟨.builtin .recover,#[],#[]⟩,ty,pos,af,none⟩::rest).toArray) (Q:=fun e a w'=>Exit.thenS (Code.wpS P y (bodyPostS P fn c₀ cs fun e u1 w'=> ∃ v,e= .returned v∧u1=q∧R w')) (bodyPostS P fn c₀ cs fun e u1 w'=> ∃ v,e= .returned v∧u1=q∧R w') e a s w') rest 1 (fun j=>by simp [Nat.add_comm])
 rw [h1]
 unfold cB at h
 refine Dd ?_ p5 _ _ _ h
 intro e a w' hl
 have G:∀ (e:Exit) (σ:Nat→Value) (w':World),fin P fn ⟨fn.ntmps,[],[],none⟩ (fun _ w=>R w) e σ w'→bodyPostS P fn c₀ cs (fun e u1 w'=> ∃ v,e= .returned v∧u1=q∧R w') e (act ⟨fn.ntmps,[],[],none⟩ σ) s w':=by
  intro e σ w' p
  cases e with
  | normal=>obtain ⟨v,hr,E⟩:=p; exact ⟨rfl,q,A,v,hr,v,rfl,rfl,E⟩
  | ret=>obtain ⟨v,hr,E⟩:=p; exact ⟨rfl,q,A,v,hr,v,rfl,rfl,E⟩
  | _=>exact p.elim
 cases e with
 | normal=>
   obtain ⟨σ,rfl,p⟩:=hl
   refine wpS_of_wp ?_
   simp only [hZ] at p
   unfold bL at p
   refine Code.wp_mono ?_ (wpIn_wide.1 p)
   intro e a w' hl
   cases e with
   | panic c=>obtain ⟨σ,rfl,p⟩:=hl; exact (p σ fun _ _=>rfl).elim
   | outgrown=>exact hl.elim
   | _=>obtain ⟨σ,rfl,p⟩:=hl; exact G _ σ w' p
 | panic c=>obtain ⟨σ,rfl,p⟩:=hl; exact (p σ fun _ _=>rfl).elim
 | outgrown=>exact hl.elim
 | ret=>obtain ⟨σ,rfl,p⟩:=hl; exact G .ret σ w' p
 | exit i=>obtain ⟨σ,rfl,p⟩:=hl; exact p.elim
 | goto i=>obtain ⟨σ,rfl,p⟩:=hl; exact p.elim
section
variable {P:Program} {n:Nat} {F:List Nat} {σ:Nat→Value} {w:World} {fn:Func} {R:Value→World→Prop}
theorem Bp {g:FuncId} {caps:Array Value} {M:World→Prop} (hu:(invoke (.fn (.func g) caps) #[]).run P w= .ok (.enter g caps) w)
 (hc:CallsD P g caps .returning w fun e u1 w'=> ∃ v,e= .returned v∧u1= .returning∧M w') (a:∀ w',M w'→∃ v,(results fn (act ⟨n,[{target:= .fn (.func g) caps,args:= #[]}],F,none⟩ σ).tmps).run P w'= .ok v w'∧R v w'):
 qb ⟨n,[{target:= .fn (.func g) caps,args:= #[]}],F,none⟩ (jO P fn R) .ret σ w:=by
 refine leaves_cons (by simp) hu ?_
 refine CallsD.mono hc ?_
 rintro e c w' ⟨v,rfl,rfl,hm⟩
 obtain ⟨v2,h1,h2⟩:=a w' hm
 exact ⟨v2,h1,v2,rfl,h2⟩
theorem Bq {g:FuncId} {caps:Array Value} {M:World→Prop} {v:Value} (hu:(invoke (.fn (.func g) caps) #[]).run P w= .ok (.enter g caps) w)
 (hc:CallsD P g caps (.panicking [{v:=v,recovered:=false}]) w fun e u1 w'=> ∃ x,e= .returned x∧u1= .panicking [{v:=v,recovered:=true}]∧M w') (a:∀ w',M w'→∃ v,(results fn (act ⟨n,[{target:= .fn (.func g) caps,args:= #[]}],F,none⟩ σ).tmps).run P w'= .ok v w'∧R v w'):
 qb ⟨n,[{target:= .fn (.func g) caps,args:= #[]}],F,none⟩ (jO P fn R) (.panic [{v:=v,recovered:=false}]) σ w:=by
 refine leaves_cons (by simp) hu ?_
 refine CallsD.mono hc ?_
 rintro e c w' ⟨x,rfl,rfl,hm⟩
 obtain ⟨v2,h1,h2⟩:=a w' hm
 exact ⟨v2,h1,v2,rfl,h2⟩
end
end Go.Hb
end
section
namespace Go.Hb
open Go.RowKit
def gy (w:World) (B e n:Nat) (v:Value) (xs:List Value):Prop :=
 ∃ a cp,v= .slice a n cp∧n≤cp∧(xs= []∨∃ b o cur z,a=some ⟨b,o,none⟩∧B≤b∧w.heap[b]? =some (.cells cur e z)∧∀ (j:Nat) u,xs[j]? =some u→cur[o+j]? =some u)
theorem Tg.FR {w:World} {B e n:Nat} {v:Value} {xs:List Value} (h:Tg w B e n v xs):gy w B e n v xs:=by
 obtain ⟨a,cp,rfl,hc,hx⟩:=h
 refine ⟨a,cp,rfl,hc,hx.imp id ?_⟩
 rintro ⟨b,cur,z,ha,hb,hg,hx⟩
 exact ⟨b,0,cur,z,ha,hb,hg,fun j u hu=>by rw [Nat.zero_add]; exact hx j u hu⟩
theorem gy.cells {w:World} {B e n cp:Nat} {a:Option Addr} {xs:List Value} (h:gy w B e n (.slice a n cp) xs):n≤cp∧ak w.heap a xs:=by
 obtain ⟨c,i,hv,hc,hx⟩:=h
 cases hv
 rcases hx with h | ⟨b,o,cur,z,rfl,_,hg,hx⟩
 · subst h; exact ⟨hc,ak.nil _ _⟩
 · refine ⟨hc,fun _=>rfl,fun j u hu=> ?_⟩
   show Hb.ay w.heap b (o+j)=_
   rw [aQ hg]; exact hx j u hu
theorem gy.slice {w:World} {B e n:Nat} {v:Value} {xs:List Value} (h:gy w B e n v xs):∃ a cp,v= .slice a n cp:=let ⟨a,cp,hv,_⟩:=h; ⟨a,cp,hv⟩
theorem gy.md {F:Nat→Prop} {w w':World} {B e n:Nat} {v:Value} {xs:List Value} (h:gy w B e n v xs) (hm:Md F w w') (c:∀ k,F k→∀ cur z,w.heap[k]?≠some (.cells cur e z)):gy w' B e n v xs:=by
 obtain ⟨a,cp,rfl,hc,h | ⟨b,o,cur,z,rfl,hb,hg,hx⟩⟩:=h
 · exact ⟨a,cp,rfl,hc,.inl h⟩
 · exact ⟨_,cp,rfl,hc,.inr ⟨b,o,cur,z,rfl,hb,by rw [hm.e0 b (Array.getElem?_eq_some_iff.1 hg).1 (fun hk=>c b hk cur z hg)]; exact hg,hx⟩⟩
theorem gy.k6 {w:World} {B e n m cp:Nat} {a:Option Addr} {xs:List Value} (h:gy w B e (n+1) (.slice a (n+1) cp) xs) (hx:xs.length=(n+1)*m):gy w B e n (.slice (dj a cp 1 m) n (cp - 1)) (xs.drop m):=by
 obtain ⟨i,p,hv,hc,hh⟩:=h
 cases hv
 refine ⟨_,_,rfl,by omega,?_⟩
 rcases hh with rfl | ⟨b,o,cur,z,rfl,hb,hg,c⟩
 · exact .inl (by simp)
 · unfold dj
   by_cases h1:cp=1
   · refine .inl (List.eq_nil_of_length_eq_zero ?_)
     obtain rfl :n=0:=by omega
     rw [List.length_drop,hx]; omega
   · rw [if_neg h1]
     refine .inr ⟨b,o+1 *m,cur,z,?_,hb,hg,fun j u hu=> ?_⟩
     · rw [Option.map_some,gd]
     · rw [List.getElem?_drop] at hu
       have :=c _ u hu
       rw [show o+1 *m+j=o+(m+j) from by omega]; exact this
def bM (w:World) (B e:Nat) (vs:List Value) (ls:List (List Nat)):Prop :=vs.length=ls.length∧∀ (i:Nat) v l,vs[i]? =some v→ls[i]? =some l→Tg w B e l.length v (l.map az)
theorem bM.nil (w:World) (B e:Nat):bM w B e [] []:=⟨rfl,fun i v l hv=>by simp at hv⟩
theorem bM.md {F:Nat→Prop} {w w':World} {B e:Nat} {vs:List Value} {ls:List (List Nat)} (h:bM w B e vs ls) (hm:Md F w w') (a:∀ k,F k→∀ cur z,w.heap[k]?≠some (.cells cur e z)):bM w' B e vs ls:=⟨h.1,fun i v l h1 h2=>(h.2 i v l h1 h2).md hm a⟩
theorem bM.wk {w w':World} {B e:Nat} {vs:List Value} {ls:List (List Nat)} (h:bM w B e vs ls) (hm:Wk w w'):bM w' B e vs ls:=h.md hm fun _ hk=>hk.elim
theorem bM.mono {w:World} {B a e:Nat} {vs:List Value} {ls:List (List Nat)} (h:bM w B e vs ls) (c:a≤B):bM w a e vs ls:=⟨h.1,fun i v l h1 h2=>(h.2 i v l h1 h2).mono c⟩
theorem bM.snoc {w:World} {B e:Nat} {vs:List Value} {ls:List (List Nat)} {v:Value} {l:List Nat} (ha:bM w B e vs ls) (a:Tg w B e l.length v (l.map az)):bM w B e (vs++ [v]) (ls++ [l]):=by
 refine ⟨by rw [List.length_append,List.length_append,ha.1]; rfl,fun i c p h1 h2=> ?_⟩
 have hl:=ha.1
 by_cases hi:i < vs.length
 · rw [List.getElem?_append_left hi] at h1
   rw [List.getElem?_append_left (by omega)] at h2
   exact ha.2 i c p h1 h2
 · rw [List.getElem?_append_right (by omega)] at h1
   rw [List.getElem?_append_right (by omega),← hl] at h2
   cases hj:i - vs.length with
   | zero=>rw [hj] at h1 h2; cases h1; cases h2; exact a
   | succ j=>rw [hj] at h1; simp at h1
def eB (t ln:Nat) (e:Int):List PanicEntry:= [{v:= .iface t (.agg [.int .i64 1,.int .i64 (ln:Nat),.int .i64 e].toArray),recovered:=false}]
theorem bX {h:World} {b:Nat} {isK:Value→Prop} {f:Value→Option Value} (hm:bf h.heap b isK f):tag h b=1:=let ⟨_,h1,_⟩:=hm; FO h1
def Wr (L:List Nat) (ms mt mc B:Nat) (w:World) (k:Nat):Prop :=B≤k∧(k=ms∨k=mt∨k=mc∨L.contains (tag w k)=true)
abbrev Mw (L:List Nat) (ms mt mc B:Nat) (w w':World):Prop :=Md (Wr L ms mt mc B w) w w'
section
variable {L:List Nat} {ms mt mc B:Nat} {w w' w'':World}
theorem Mw.trans (h:Mw L ms mt mc B w w') (a:Mw L ms mt mc B w' w''):Mw L ms mt mc B w w'':=by
 refine Md.trans' h a fun k hk hw=> ?_
 refine Classical.byContradiction fun hn=> ?_
 have :=Md.tag h hk hn
 unfold Wr at hw
 rw [this] at hw
 exact hn hw
theorem Wk.mw (h:Wk w w'):Mw L ms mt mc B w w':=h.mono fun _ _ hf=>hf.elim
theorem Mw.of {F:Nat→Prop} (h:Md F w w') (c:TF w L F) (a:∀ k,F k→B≤k):Mw L ms mt mc B w w':=h.mono fun k _ hf=>⟨a k hf,.inr (.inr (.inr (c k hf)))⟩
theorem Mw.wk {a:World} (h0:Wk a w) (h:Mw L ms mt mc B w w') (c:a.heap.size≤B):Wk a w':=Md.trans' h0 h fun k hk hw=>by have :=hw.1; omega
theorem Wr.ne (hs:tag w ms=1) (a:tag w mt=1) (hc:tag w mc=1) {e:Nat} (hl:L.contains (e+2)=false):∀ k,Wr L ms mt mc B w k→∀ cur z,w.heap[k]?≠some (.cells cur e z):=by
 rintro k ⟨_,rfl | rfl | rfl | h⟩ cur z hg <;> have h9:=cW hg
 · omega
 · omega
 · omega
 · rw [h9,hl] at h; cases h
end
end Go.Hb
end
section
namespace Go.Hb
open Go.RowKit
section
variable {P:Program} {N:Fm} {σ:Nat→Value} {w:World} {dst:Option Nat} {ty:TypeId} {pos :String} {af:Array Edge} {g:Option (Nat×Bool)} {x y:Operand}
theorem Bb (d:Nat) {t e:TypeId} {a:Option Addr} {n c:Nat} (hu:P.underlying t=some (.slice e)):(Op.equalIn (d+1) t (.slice a n c) (.slice none 0 0)).run P w= .ok a.isNone w:=by
 cases a <;> simp [Op.equalIn,bW hu]
theorem Bc {t e:TypeId} {a:Option Addr} {n c:Nat} (hu:P.underlying t=some (.slice e)):(Op.equal t (.slice a n c) (.slice none 0 0)).run P w= .ok a.isNone w:=Bb 9999 hu
theorem k8 {t i e:TypeId} {a:Option Addr} {n c:Nat} (hu:P.underlying t=some (.slice e)) (hx:ev N σ x= .slice a n c) (hy:ev N σ y= .slice none 0 0):
 (execOp (ev N σ) ⟨dst,.binOp .eql t x y i,ty,pos,af,g⟩).run P w= .ok (.value (.bool a.isNone)) w:=by
 have h:(binOp .eql t (.slice a n c) (.slice none 0 0)).run P w= .ok (.bool a.isNone) w:=by
  simp only [binOp]; simp [Bc hu]
 simp [execOp,hx,hy,eqGuard,h]
end
def Rd (h:Array Obj) (v:Value) (n size:Nat) (xs:List Value):Prop := ∃ a c,v= .slice a n c∧ak h a xs∧xs.length=n*size∧(a=none→n=0)
theorem Rd.fW {w:World} {B e size n:Nat} {v:Value} {xs:List Value} (h:w.ownsRow B e size v n xs):Rd w.heap v n size xs:=by
 obtain ⟨a,c,rfl,h1,_,_,h3⟩:=lz h
 refine ⟨a,c,rfl,h1,h.1,fun ha=> ?_⟩
 subst ha
 rcases h.2 with ⟨h4,h5⟩ | ⟨g,cap,cur,h4,_⟩
 · exact h5
 · simp at h4
theorem uU {w:World} {B e size n k cp:Nat} {a:Option Addr} {xs:List Value} (h:w.ownsRow B e size (.slice a n cp) n xs) (hk:k≤n) (ha:a≠none):w.ownsRow B e size (.slice a k cp) k (xs.take (k*size)):=by
 obtain ⟨h0,h⟩:=h
 refine ⟨by rw [List.length_take,h0]; exact Nat.min_eq_left (Nat.mul_le_mul_right _ hk),?_⟩
 rcases h with ⟨h1,_⟩ | ⟨g,cap,cur,h1,h2,h3,h4,h5,c,i⟩
 · simp only [Value.slice.injEq] at h1; exact absurd h1.1 ha
 · simp only [Value.slice.injEq,true_and] at h1
   obtain ⟨rfl,rfl⟩:=h1
   refine .inr ⟨g,_,cur,rfl,h2,h3,by omega,h5,c,?_⟩
   rw [← i,List.take_take,Nat.min_eq_left (Nat.mul_le_mul_right _ hk)]
section
variable {P:Program} {N:Fm} {σ:Nat→Value} {w:World} {dst:Option Nat} {ty:TypeId} {pos :String} {af:Array Edge} {g:Option (Nat×Bool)} {x y z u:Operand} {K:(Nat→Value)→World→Prop}
theorem Fo {t n len cap:Nat} {a:Option Addr} {k c p:IntKind} {i j m:Nat} (he:eA P t=some n) (hx:ev N σ x= .slice a len cap) (hy:ev N σ y= .int k (i:Nat)) (hz:ev N σ z= .int c (j:Nat)) (hu:ev N σ u= .int p (m:Nat)) (h:i≤j∧j≤m∧m≤cap):
 (execOp (ev N σ) ⟨dst,.slice t x (some y) (some z) (some u),ty,pos,af,g⟩).run P w= .ok (.value (.slice (dj a m i n) (j - i) (m - i))) w:=by
 have h1:(0:Int)≤(i:Int):=by omega
 have h2:(0:Int)≤(j:Int):=by omega
 have h3:(0:Int)≤(m:Int):=by omega
 unfold eA at he
 cases hd:P.underlying t with
 | none=>rw [hd] at he; cases he
 | some d=>
   rw [hd] at he
   cases d <;> first | (cases he; done) | skip
   rename_i e
   cases hi':P.info? e with
   | none=>simp [hi'] at he
   | some q=>
     simp only [hi',Option.map_some,Option.some.injEq] at he
     subst he
     simp only [execOp,Instr.sliceAt,Instr.slice,hx,hy,hz,hu,Option.map_some,Instr.sliceBounds,Instr.sliceBound,asIntOf]
     simp [bW hd,ek hi',sizeOf,h.1,h.2.1,h.2.2,dj]
theorem xB {t e size bytes B n m cp c gg:Nat} {xs news:List Value} {a:Option Addr} (C:eo P t e size bytes=true) (p:w.ownsRow B e size (.slice (some ⟨gg,0,none⟩) n cp) n xs) (hx:ev N σ x= .slice (some ⟨gg,0,none⟩) n cp)
 (hy:ev N σ y= .slice a m c) (hc:ak w.heap a news) (ha:a≠none) (hl:news.length=m*size) (h1:news.all Value.oneCell'=true) (A:n+m≤cp)
 (k:∀ w',Md (fun q=>q=gg) w w'→w'.ownsRow B e size (.slice (some ⟨gg,0,none⟩) (n+m) cp) (n+m) (xs++news)→K (dU σ dst (.slice (some ⟨gg,0,none⟩) (n+m) cp)) w'):
 bD P N ⟨dst,.call ⟨.builtin .append,#[x,y],#[t,t]⟩,ty,pos,af,g⟩ σ w K:=by
 obtain ⟨hu,i,zv,hi,hz,hs,hby,G,E⟩:=kG C
 obtain ⟨ad,rfl⟩:∃ ad,a=some ad:=by cases a with | none=>exact absurd rfl ha | some ad=>exact ⟨ad,rfl⟩
 have hn:∀ j v,news[j]? =some v→w.cell? (ad.add j)=some v:=fun j v hj=>by
  have hne:news≠[]:=fun e=>by rw [e] at hj; simp at hj
  have h2:=hc.ok hne
  simp only [Option.some.injEq] at h2
  rw [h2,gd,g5]; exact hc.ay j v hj
 obtain ⟨w',hr,h2,h3⟩:=Go.run_append_fits (P:=P) (w:=w) B t ty e i size hu hi hs gg n cp xs p ad m c news hl hn (lT h1) A
 refine iF (w':=w') (v:= .slice (some ⟨gg,0,none⟩) (n+m) cp) ?_ (k w' ⟨h3.os,h3.output,h3.size,fun q s hne=>h3.block q s (fun e=>hne (Option.some.inj e))⟩ h2)
 simp [execOp,resolve,invoke,builtin,hx,hy,hr]
end
end Go.Hb
end
section
namespace Go.Hb
def ko (P:Program) (t:TypeId):Option (Nat×Nat):=
 match P.underlying t with
 | some (.array n e)=>(P.info? e).map fun i=>(n,i.size)
 | _=>none
section
variable {P:Program} {N:Fm} {σ:Nat→Value} {w:World} {dst:Option Nat} {ty:TypeId} {pos :String} {af:Array Edge} {g:Option (Nat×Bool)} {x y:Operand}
theorem iu {t n a b off :Nat} {k:IntKind} {i:Int} (he:ko P t=some (n,a)) (hx:ev N σ x= .pointer (some ⟨b,off,none⟩)) (hy:ev N σ y= .int k i) (h0:0≤i∧i < n):
 (execOp (ev N σ) ⟨dst,.indexAddr t x y,ty,pos,af,g⟩).run P w= .ok (.value (.pointer (some ⟨b,off+i.toNat*a,none⟩))) w:=by
 unfold ko at he
 cases hd:P.underlying t with
 | none=>rw [hd] at he; cases he
 | some d=>
   rw [hd] at he
   cases d <;> first | (cases he; done) | skip
   rename_i m e
   cases hi:P.info? e with
   | none=>simp [hi] at he
   | some j=>
     simp only [hi,Option.map_some,Option.some.injEq,Prod.mk.injEq] at he
     obtain ⟨rfl,rfl⟩:=he
     simp [execOp,Instr.indexAt,Instr.sureAddr,hx,hy,asIntOf,bW hd,h0.1,h0.2,sizeOf,ek hi,gd]
end
theorem Dv {h:Array Obj} {b:Nat} {a:List UInt8} (i:a9 h b (marksOf a)) (c:UInt8):Hb.ay h b (0 +((c.toNat:Nat):Int).toNat*1)=some (.bool (decide (c∈a))):=by
 rw [i.ay,show 0 +((c.toNat:Nat):Int).toNat*1=c.toNat from by omega]; exact Ds a c
theorem Dw {h:Array Obj} {b:Nat} {a:List UInt8} {c:UInt8} (i:a9 h b ((marksOf a).set (0 +((c.toNat:Nat):Int).toNat*1) (.bool true))):a9 h b (marksOf (a++ [c])):=by
 rw [show 0 +((c.toNat:Nat):Int).toNat*1=c.toNat from by omega,Du] at i; exact i
end Go.Hb
end
section
namespace Go.Hb
theorem CN (c:UInt8):∀ l:List UInt8,Lib.indexByte l c=cG c l:=by
 intro l
 induction l with
 | nil=>rfl
 | cons b l ih=>
   unfold Lib.indexByte
   rw [ih]
   rw [show cG c (b::l)=if (b::l).idxOf c < (b::l).length then ((b::l).idxOf c:Int) else -1 from rfl,List.idxOf_cons]
   by_cases h:(b==c)=true
   · rw [if_pos h,h]; rfl
   · have i:(b==c)=false :=by simpa using h
     rw [if_neg h,i]
     simp only [cond_false,List.length_cons]
     by_cases h1:l.idxOf c < l.length
     · have a:cG c l=l.idxOf c:=if_pos h1
       rw [a,if_neg (fun hb=>by have :=eq_of_beq hb; omega),if_pos (by omega)]; rfl
     · have a:cG c l= -1:=if_neg h1
       rw [a,if_pos (by decide),if_neg (by omega)]
theorem E4 {P:Program} {f:FuncId} {fn:Func} (hf:P.funcs[f]? =some fn) (a:(fn.name== "runtime.NumGoroutine")=false) (hb:fn.body.isNone=true) (hn:Extern.findNext fn=none)
 (he:Extern.find fn=some Extern.BytealgIndexByte.indexByte) (l:List UInt8) (c:UInt8) (w:World):(callFunc f #[str l,.int .u8 c.toNat]).run P w= .ok (.value (.int .i64 (cG c l))) w:=by
 rw [run_callFunc_extern hf a hb hn he]
 unfold str
 rw [Lib.run_indexByteString]
 have h1:((c.toNat:Int)).toNat.toUInt8=c:=UInt8.toNat_inj.1 (by simp)
 rw [h1,CN]
 rfl
theorem E3 {P:Program} {f:FuncId} {fn:Func} (hf:P.funcs[f]? =some fn) (a:(fn.name== "runtime.NumGoroutine")=false) (hb:fn.body.isNone=true) (hn:Extern.findNext fn=none)
 (he:Extern.find fn=some Extern.BytealgCount.count) (l:List UInt8) (c:UInt8) (w:World):(callFunc f #[str l,.int .u8 c.toNat]).run P w= .ok (.value (.int .i64 (l.count c:Nat))) w:=by
 rw [run_callFunc_extern hf a hb hn he]
 unfold str
 rw [Lib.run_countString]
 have h1:((c.toNat:Int)).toNat.toUInt8=c:=UInt8.toNat_inj.1 (by simp)
 rw [h1]
 rfl
section
variable {P:Program} {N:Fm} {σ:Nat→Value} {w:World} {dst:Option Nat} {ty:TypeId} {pos :String} {af:Array Edge} {g:Option (Nat×Bool)}
theorem sx {f:FuncId} {a b v:Value} {args:Array Operand} {c:Array TypeId} (h:(callFunc f #[a,b]).run P w= .ok (.value v) w) (i:args.toList.map (ev N σ)= [a,b]):
 (execOp (ev N σ) ⟨dst,.call ⟨.value (.func f),args,c⟩,ty,pos,af,g⟩).run P w= .ok (.value v) w:=by
 have :args.map (ev N σ)= #[a,b]:=by rw [← Array.toList_inj,Array.toList_map,i]
 simp [execOp,resolve,ev,Deferred.ofValue,invoke,this,h]
end
end Go.Hb
end
section
namespace Go.Hb
open Go.RowKit
theorem Fb {L:List Value} {o:Nat} {v:Value} (h:o < L.length):(L.set o v).take (o+1)=L.take o++ [v]:=by
 rw [List.set_eq_take_append_cons_drop,if_pos h,List.take_append,List.length_take,Nat.min_eq_left (by omega),Nat.add_sub_cancel_left,List.take_of_length_le (by rw [List.length_take]; omega)]
 rfl
theorem Fa {L:List Value} {o m:Nat} {v:Value} (h:o < m):(L.set o v).drop m=L.drop m:=by
 rw [List.drop_set,if_pos h]
theorem vu (b e:Nat):∀ (vs:List Value) (o:Nat) (L:List Value) (w:World),w.heap[b]? =some (.cells L.toArray e (0,0))→o+vs.length≤L.length→
 (w.setCells b o vs).heap[b]? =some (.cells (L.take o++vs++L.drop (o+vs.length)).toArray e (0,0))∧Md (fun k=>k=b) w (w.setCells b o vs):=by
 intro vs
 induction vs with
 | nil=>intro o L w hb _; exact ⟨by simpa [World.setCells] using hb,Md.refl _ _⟩
 | cons v r ih=>
   intro o L w hb hl
   simp only [List.length_cons] at hl
   have h1:(w.setCell ⟨b,o,none⟩ v).heap[b]? =some (.cells (L.set o v).toArray e (0,0)):=by
    have hlt:=(Array.getElem?_eq_some_iff.1 hb).1
    have hv:w.heap[b]= .cells L.toArray e (0,0):=(Array.getElem?_eq_some_iff.1 hb).2
    simp only [World.setCell]
    rw [Array.getElem?_eq_getElem (by simpa using hlt),Array.getElem_modify]
    simp [hv,List.setIfInBounds_toArray]
   have a:Md (fun k=>k=b) w (w.setCell ⟨b,o,none⟩ v):=⟨rfl,rfl,by simp [World.setCell],fun k _ hk=>Below.heap_setCell w _ v k hk⟩
   obtain ⟨h2,h3⟩:=ih (o+1) (L.set o v) _ h1 (by rw [List.length_set]; omega)
   refine ⟨?_,Md.trans a h3⟩
   show ((w.setCell ⟨b,o,none⟩ v).setCells b (o+1) r).heap[b]? =_
   rw [h2,Fb (by omega),Fa (by omega),List.length_cons,show o+1 +r.length=o+(r.length+1) from by omega]
   simp
section
variable {P:Program} {N:Fm} {σ:Nat→Value} {w:World} {ty:TypeId} {pos :String} {af:Array Edge} {g:Option (Nat×Bool)} {x:Operand} {K:(Nat→Value)→World→Prop}
theorem zD {t e B n k cp i m:Nat} {a:Option Addr} {xs:List Value} {z:Value} (I:P.underlying t=some (.slice e)) (hz:zeroV P e=some z) (h1:z.oneCell'=true) (C:w.ownsRow B e 1 (.slice a n cp) n xs)
 (hx:ev N σ x= .slice (dj a cp k 1) m i) (hm:m=n - k) (hk:k < n) (M:∀ w',Md (fun q=>(Value.slice a n cp).ownBlock=some q) w w'→w'.ownsRow B e 1 (.slice a n cp) n (xs.take k++List.replicate (n - k) z)→K σ w'):
 bD P N ⟨none,.call ⟨.builtin .clear,#[x],#[t]⟩,ty,pos,af,g⟩ σ w K:=by
 obtain ⟨h0,h⟩:=C
 subst hm
 rcases h with ⟨h,rfl⟩ | ⟨gg,O,cur,h,s,hg,hle,A,hsz,J⟩
 · omega
 · simp only [Value.slice.injEq,true_and] at h
   obtain ⟨rfl,rfl⟩:=h
   have G:dj (some ⟨gg,0,none⟩) cp k 1=some ⟨gg,k,none⟩:=by
    unfold dj; rw [if_neg (by omega)]; simp [gd]
   rw [G] at hx
   have c:w.heap[gg]? =some (.cells cur.toList.toArray e (0,0)):=by simpa using hg
   have hcl:cur.toList.length=cp*1:=by rw [Array.length_toList]; exact hsz
   have hrun:=Lib.run_clear_slice (P:=P) w t e ty z I (fun w=>oC hz w) (by cases z <;> first | rfl | (cases h1; done)) h1 gg k (n - k) i (by omega)
    (fun j hj=>by rw [g5,aQ c]; simp; omega) (fun j hj=>by simp only [World.frozen?,show w.heap[gg]? =_ from c]; simp)
   obtain ⟨h2,h3⟩:=vu gg e (List.replicate (n - k) z) k cur.toList w c (by rw [List.length_replicate,hcl]; omega)
   refine iF (w':=w.setCells gg k (List.replicate (n - k) z)) (v:= .tuple #[]) ?_ (M _ (h3.mono fun q _ E=>by subst E; rfl) ⟨?_,.inr ⟨gg,cp,_,rfl,s,h2,hle,A,?_,?_⟩⟩)
   · simp [execOp,resolve,invoke,builtin,hx,hrun]
   · rw [List.length_append,List.length_take,List.length_replicate,h0]; omega
   · simp only [List.size_toArray,List.length_append,List.length_take,List.length_drop,List.length_replicate,hcl]; omega
   · rw [List.length_replicate,Nat.mul_one]
     have p:(cur.toList.take k++List.replicate (n - k) z++cur.toList.drop (k+(n - k))).toArray.toList=(cur.toList.take k++List.replicate (n - k) z)++cur.toList.drop (k+(n - k)):=rfl
     rw [p,List.take_append,List.length_append,List.length_take,List.length_replicate,hcl,Nat.min_eq_left (by omega),show n - (k+(n - k))=0 by omega,List.take_zero,List.append_nil,List.take_of_length_le (by rw [List.length_append,List.length_take,List.length_replicate,hcl]; omega)]
     rw [← J,List.take_take,Nat.mul_one,Nat.min_eq_left (by omega)]
theorem zE {t e B n cp i m:Nat} {a:Option Addr} {xs:List Value} {z:Value} (I:P.underlying t=some (.slice e)) (hz:zeroV P e=some z) (h1:z.oneCell'=true) (C:w.ownsRow B e 1 (.slice a n cp) n xs) (ha:a≠none)
 (hx:ev N σ x= .slice (dj a cp n 1) m i) (hm:0 < m∧n+m≤cp) (M:∀ w',Md (fun q=>(Value.slice a n cp).ownBlock=some q) w w'→w'.ownsRow B e 1 (.slice a n cp) n xs→K σ w'):
 bD P N ⟨none,.call ⟨.builtin .clear,#[x],#[t]⟩,ty,pos,af,g⟩ σ w K:=by
 obtain ⟨h0,h⟩:=C
 rcases h with ⟨h,rfl⟩ | ⟨gg,O,cur,h,s,hg,hle,A,hsz,J⟩
 · simp only [Value.slice.injEq] at h; exact absurd h.1 ha
 · simp only [Value.slice.injEq,true_and] at h
   obtain ⟨rfl,rfl⟩:=h
   have G:dj (some ⟨gg,0,none⟩) cp n 1=some ⟨gg,n,none⟩:=by
    unfold dj; rw [if_neg (by omega)]; simp [gd]
   rw [G] at hx
   have c:w.heap[gg]? =some (.cells cur.toList.toArray e (0,0)):=by simpa using hg
   have hcl:cur.toList.length=cp*1:=by rw [Array.length_toList]; exact hsz
   have hrun:=Lib.run_clear_slice (P:=P) w t e ty z I (fun w=>oC hz w) (by cases z <;> first | rfl | (cases h1; done)) h1 gg n m i hm.1
    (fun j hj=>by rw [g5,aQ c]; simp; omega) (fun j hj=>by simp only [World.frozen?,show w.heap[gg]? =_ from c]; simp)
   obtain ⟨h2,h3⟩:=vu gg e (List.replicate m z) n cur.toList w c (by rw [List.length_replicate,hcl]; omega)
   refine iF (w':=w.setCells gg n (List.replicate m z)) (v:= .tuple #[]) ?_ (M _ (h3.mono fun q _ E=>by subst E; rfl) ⟨h0,.inr ⟨gg,cp,_,rfl,s,h2,hle,A,?_,?_⟩⟩)
   · simp [execOp,resolve,invoke,builtin,hx,hrun]
   · simp only [List.size_toArray,List.length_append,List.length_take,List.length_drop,List.length_replicate,hcl]; omega
   · rw [List.length_replicate,Nat.mul_one]
     have p:(cur.toList.take n++List.replicate m z++cur.toList.drop (n+m)).toArray.toList=cur.toList.take n++(List.replicate m z++cur.toList.drop (n+m)):=List.append_assoc _ _ _
     rw [p,List.take_append,List.length_take,hcl,Nat.min_eq_left (by omega),Nat.sub_self,List.take_zero,List.append_nil,List.take_of_length_le (by rw [List.length_take]; omega),← J,Nat.mul_one]
end
end Go.Hb
end
section
namespace Go.Hb
open Go.RowKit
def oK (P:Program) (t:TypeId):Option (List Value):=
 match P.info? t,P.underlying t with
 | some it,some (.array _ e)=>
   match it.zero,P.info? e with
   | some z,some ie=>if ie.size=1 then some z.cells.toList else none
   | _,_=>none
 | _,_=>none
def mu:List Value→List (Nat×Value)→Option (List Value)
 | a,[]=>some a
 | a,(i,v)::r=>if (v.oneCell' && Nat.blt i a.length)=true then mu (a.set i v) r else none
theorem Ev {a L:List Value} {ps:List (Nat×Value)} (h:mu a ps=some L):Instr.fill (fun i=>some (i*1,1)) a.toArray ps=some L.toArray:=by
 induction ps generalizing a with
 | nil=>simp only [mu,Option.some.injEq] at h; subst h; rfl
 | cons q r ih=>
   obtain ⟨i,v⟩:=q
   rw [mu] at h
   split at h
   · rename_i hc
     simp only [Bool.and_eq_true] at hc
     have hv:=j4 hc.1
     have c:i < a.length:=Nat.le_of_ble_eq_true hc.2
     simp only [Instr.fill,hv,Nat.mul_one]
     rw [if_neg (by simp; omega)]
     have :=ih h
     simp only [Nat.mul_one] at this
     rw [← this]
     simp
   · cases h
section
variable {P:Program} {N:Fm} {σ:Nat→Value} {w:World} {dst:Option Nat} {ty:TypeId} {pos :String} {af:Array Edge} {g:Option (Nat×Bool)}
theorem rD {t:TypeId} {parts:Array (Nat×Operand)} {a L:List Value} {ps:List (Nat×Value)} (h:oK P t=some a) (hp:parts.toList.map (fun q=>(q.1,ev N σ q.2))=ps) (c:mu a ps=some L):
 (execOp (ev N σ) ⟨dst,.build t parts,ty,pos,af,g⟩).run P w= .ok (.value (.agg L.toArray)) w:=by
 unfold oK at h
 split at h
 · rename_i it n e hi hu
   split at h
   · rename_i z i hz he
     split at h
     · rename_i hs
       simp only [Option.some.injEq] at h
       subst h
       have hb:P.built t (parts.map (fun q=>(q.1,ev N σ q.2))).toList=some L.toArray:=by
        have :=Ev c
        simp only [Array.toArray_toList] at this
        simp only [Program.built,hi,hu,hz,he,hs,Array.toList_map,hp]; exact this
       simp [execOp,run_build w t _ _ hb]
     · cases h
   · cases h
 · cases h
end
end Go.Hb
end
section
namespace Go.Hb
abbrev bR:Type :=Tx×List Nat
noncomputable def dH (F:aG) (row:List Tx):Except Nat bR:=
 if row.length≠1 then .error 111
 else if (aW (row.getD 0 [])).2.2.2≠0 then .error (aW (row.getD 0 [])).2.2.2
 else if dB (aW (row.getD 0 [])).1=false∨(aW (row.getD 0 [])).1= [] then .error 21
 else if 64 < (aW (row.getD 0 [])).1.length then .error 22
 else if (aW (row.getD 0 [])).2.2.1=false then .ok ((aW (row.getD 0 [])).1,[])
 else match eh F.kind F.aliases (aW (row.getD 0 [])).2.1 with
  | .error e=> .error e
  | .ok set =>if set.all (cQ F)=true then .ok ((aW (row.getD 0 [])).1,set) else .error 120
section
variable {F:aG} {row:List Tx}
theorem AY (h:row.length≠1):dH F row= .error 111:=if_pos h
theorem AZ (h:row.length=1) (h1:(aW (row.getD 0 [])).2.2.2≠0):dH F row= .error (aW (row.getD 0 [])).2.2.2:=by
 unfold dH; rw [if_neg (fun h2=>h2 h),if_pos h1]
variable (h:row.length=1) (h1:(aW (row.getD 0 [])).2.2.2=0)
include h h1
theorem sW (h2:dB (aW (row.getD 0 [])).1=false∨(aW (row.getD 0 [])).1= []):dH F row= .error 21:=by
 unfold dH; rw [if_neg (fun h2=>h2 h),if_neg (fun h2=>h2 h1),if_pos h2]
variable (h2:dB (aW (row.getD 0 [])).1=true) (h3:(aW (row.getD 0 [])).1≠[])
include h2 h3
omit h h1 in
theorem l3:¬(dB (aW (row.getD 0 [])).1=false∨(aW (row.getD 0 [])).1= []):=fun h=>h.elim (fun h=>by rw [h2] at h; cases h) h3
theorem A0 (h4:64 < (aW (row.getD 0 [])).1.length):dH F row= .error 22:=by
 unfold dH; rw [if_neg (fun h2=>h2 h),if_neg (fun h2=>h2 h1),if_neg (l3 h2 h3),if_pos h4]
variable (h4:¬64 < (aW (row.getD 0 [])).1.length)
include h4
theorem pn (h5:(aW (row.getD 0 [])).2.2.1=false):dH F row= .ok ((aW (row.getD 0 [])).1,[]):=by
 unfold dH; rw [if_neg (fun h2=>h2 h),if_neg (fun h2=>h2 h1),if_neg (l3 h2 h3),if_neg h4,if_pos h5]
variable (h5:(aW (row.getD 0 [])).2.2.1=true)
include h5
theorem A1 {e:Nat} (a:eh F.kind F.aliases (aW (row.getD 0 [])).2.1= .error e):dH F row= .error e:=by
 unfold dH; rw [if_neg (fun h2=>h2 h),if_neg (fun h2=>h2 h1),if_neg (l3 h2 h3),if_neg h4,if_neg (by rw [h5]; exact Bool.noConfusion),a]
theorem A2 {set :List Nat} {i:Nat} (a:eh F.kind F.aliases (aW (row.getD 0 [])).2.1= .ok set) (hi:i < set.length) (c:cQ F (set.getD i 0)=false):dH F row= .error 120:=by
 unfold dH; rw [if_neg (fun h2=>h2 h),if_neg (fun h2=>h2 h1),if_neg (l3 h2 h3),if_neg h4,if_neg (by rw [h5]; exact Bool.noConfusion),a]
 exact if_neg (by rw [rl 0 hi c]; exact Bool.noConfusion)
theorem sX {set :List Nat} (a:eh F.kind F.aliases (aW (row.getD 0 [])).2.1= .ok set) (c:∀ i,i < set.length→cQ F (set.getD i 0)=true):dH F row= .ok ((aW (row.getD 0 [])).1,set):=by
 unfold dH; rw [if_neg (fun h2=>h2 h),if_neg (fun h2=>h2 h1),if_neg (l3 h2 h3),if_neg h4,if_neg (by rw [h5]; exact Bool.noConfusion),a]
 exact if_pos (rp 0 c)
end
noncomputable def e6 (F:aG) (eof:Nat):Nat→List Rw→Except (Nat×Nat) (List bR)
 | 0,[]=> .ok []
 | _+1,[]=> .error (eof,116)
 | 0,(ln,_)::_=> .error (ln,116)
 | n+1,(ln,row)::rows=>match dH F row with
   | .error e=> .error (ln,e)
   | .ok x=>match e6 F eof n rows with
     | .error e=> .error e
     | .ok r=> .ok (x::r)
noncomputable def fz (F:aG) (t:Tx):Except (Nat×Nat) (List bR):=
 if 65536 < t.length then .error (0,10)
 else match cI t with
  | []=> .error ((bC t).length+1,116)
  | (ln,row)::rows=>if row.length≠1 then .error (ln,111) else match cH (row.getD 0 []) 8192 with
    | .error e=> .error (ln,e)
    | .ok n=>e6 F ((bC t).length+1) n rows
def eF (F:aG) (eof:Nat) (T:Except (Nat×Nat) (List bR)) (xs:List bR) (n:Nat) (rows:List Rw):Prop :=
 T=match e6 F eof n rows with
  | .error e=> .error e
  | .ok r=> .ok (xs++r)
section
variable {F:aG} {eof n ln:Nat} {T:Except (Nat×Nat) (List bR)} {xs:List bR} {rows:List Rw} {row:List Tx}
theorem eF.start:eF F eof (e6 F eof n rows) [] n rows:=by
 unfold eF; cases e6 F eof n rows <;> rfl
theorem eF.done (h:eF F eof T xs 0 []):T= .ok xs:=by
 unfold eF at h; rw [e6] at h; simpa using h
theorem eF.ends (h:eF F eof T xs n []) (hn:0 < n):T= .error (eof,116):=by
 obtain ⟨m,rfl⟩:∃ m,n=m+1:=⟨n - 1,by omega⟩
 unfold eF at h; rw [e6] at h; exact h
theorem eF.more (h:eF F eof T xs 0 ((ln,row)::rows)):T= .error (ln,116):=by
 unfold eF at h; rw [e6] at h; exact h
theorem eF.bad {e:Nat} (h:eF F eof T xs n ((ln,row)::rows)) (hn:0 < n) (he:dH F row= .error e):T= .error (ln,e):=by
 obtain ⟨m,rfl⟩:∃ m,n=m+1:=⟨n - 1,by omega⟩
 unfold eF at h; rw [e6,he] at h; exact h
theorem eF.step {x:bR} (h:eF F eof T xs n ((ln,row)::rows)) (hn:0 < n) (he:dH F row= .ok x):eF F eof T (xs++ [x]) (n - 1) rows:=by
 obtain ⟨m,rfl⟩:∃ m,n=m+1:=⟨n - 1,by omega⟩
 unfold eF at h ⊢; rw [e6,he] at h
 rw [h,Nat.add_sub_cancel]
 simp only
 cases e6 F eof m rows <;> simp
end
section
variable {F:aG} {t:Tx}
theorem AP (h:65536 < t.length):fz F t= .error (0,10):=if_pos h
theorem AQ (h:¬65536 < t.length) (h1:cI t= []):fz F t= .error ((bC t).length+1,116):=by
 unfold fz; rw [if_neg h,h1]
variable {ln:Nat} {row:List Tx} {rows:List Rw} (h:¬65536 < t.length) (h1:cI t=(ln,row)::rows)
include h h1
theorem AO (h2:row.length≠1):fz F t= .error (ln,111):=by
 unfold fz; rw [if_neg h,h1]; exact if_pos h2
theorem AR (h2:row.length=1) {e:Nat} (h3:cH (row.getD 0 []) 8192= .error e):fz F t= .error (ln,e):=by
 unfold fz; rw [if_neg h,h1]; simp only; rw [if_neg (fun h=>h h2),h3]
theorem pc (h2:row.length=1) {n:Nat} (h3:cH (row.getD 0 []) 8192= .ok n):fz F t=e6 F ((bC t).length+1) n rows:=by
 unfold fz; rw [if_neg h,h1]; simp only; rw [if_neg (fun h=>h h2),h3]
end
theorem pP {α:Type} {a b:List α} {i:Nat} {d:α} (h:i < a.length):(a++b).getD i d=a.getD i d:=by
 rw [List.getD_eq_getElem?_getD,List.getD_eq_getElem?_getD,List.getElem?_append_left h]
def idxs (s:Tx) (xs:List bR):List Nat:=(List.range xs.length).filter fun i=>decide ((xs.getD i ([],[])).1=s)
theorem pS (s:Tx) (xs:List bR) (x:bR):idxs s (xs++ [x])=idxs s xs++(if x.1=s then [xs.length] else []):=by
 unfold idxs
 rw [List.length_append,List.length_singleton,List.range_succ,List.filter_append]
 congr 1
 · refine List.filter_congr fun i hi=> ?_
   have hi:i < xs.length:=by simpa using hi
   rw [pP hi]
 · by_cases hx:x.1=s <;> simp [List.filter,hx]
theorem tU (s:Tx) (xs:List bR):(idxs s xs).length≤xs.length:=by
 unfold idxs; have :=List.length_filter_le (fun i=>decide ((xs.getD i ([],[])).1=s)) (List.range xs.length); simpa using this
end Go.Hb
end
section
namespace Go.Hb
section
variable {P:Program} {N:Fm} {σ:Nat→Value} {w:World} {dst:Option Nat} {ty:TypeId} {pos :String} {af:Array Edge} {g:Option (Nat×Bool)} {x:Operand}
theorem xG {t n a b:Nat} (he:ko P t=some (n,a)) (hx:ev N σ x= .pointer (some ⟨b,0,none⟩)):
 (execOp (ev N σ) ⟨dst,.slice t x none none none,ty,pos,af,g⟩).run P w= .ok (.value (.slice (some ⟨b,0,none⟩) n n)) w:=by
 unfold ko at he
 cases hd:P.underlying t with
 | none=>rw [hd] at he; cases he
 | some d=>
   rw [hd] at he
   cases d <;> first | (cases he; done) | skip
   rename_i m e
   cases hi:P.info? e with
   | none=>simp [hi] at he
   | some j=>
     simp only [hi,Option.map_some,Option.some.injEq,Prod.mk.injEq] at he
     obtain ⟨rfl,rfl⟩:=he
     simp [execOp,Instr.sliceAt,Instr.sureAddr,Instr.sliceBounds,hx,bW hd,sizeOf,ek hi,gd]
def pA (P:Program) (t f:Nat):Option (Nat×Nat):=
 match P.underlying t with
 | some (.struct a)=>(a[f]?).map fun d=>(d.type,d.offset)
 | _=>none
theorem BJ {t f a off n:Nat} {cs vs:List Value} (h:pA P t f=some (a,off)) (ha:bS P a=some (some n)) (hx:ev N σ x= .agg cs.toArray) (hv:(cs.drop off).take n=vs):
 (execOp (ev N σ) ⟨dst,.field t x f,ty,pos,af,g⟩).run P w= .ok (.value (.agg vs.toArray)) w:=by
 subst hv
 unfold pA at h
 cases hd:P.underlying t with
 | none=>rw [hd] at h; cases h
 | some d=>
   rw [hd] at h
   cases d <;> first | (cases h; done) | skip
   rename_i c
   simp only [Option.map_eq_some_iff] at h
   obtain ⟨fd,hf,he⟩:=h
   cases he
   unfold bS at ha
   cases hd2:P.underlying fd.type with
   | none=>rw [hd2] at ha; cases ha
   | some d2=>
     rw [hd2] at ha
     cases hi:P.info? fd.type with
     | none=>simp [Program.underlying,hi] at hd2
     | some i=>
       rw [hi] at ha
       have j:cs.toArray.extract fd.offset (fd.offset+n)=((cs.drop fd.offset).take n).toArray:=by simp
       cases d2 <;> first
        | (cases ha; done)
        | (simp only [Option.map_some,Option.some.injEq] at ha; subst ha
           simp [execOp,Instr.field,bW hd,hf,hx,asAgg,part,isAgg,bW hd2,sizeOf,ek hi])
end
end Go.Hb
end
section
namespace Go.Hb
theorem uw:∀ (l cur r:Tx),10∉l→cR cur (l++10::r)=eO (cur++l)::cR [] r:=by
 intro l
 induction l with
 | nil=>intro cur r _; rw [List.nil_append,ux,List.append_nil]
 | cons b l ih=>
   intro cur r h
   simp only [List.mem_cons,not_or] at h
   rw [List.cons_append,p7 (fun e=>h.1 e.symm),ih _ _ h.2,List.append_assoc]; rfl
theorem BN:∀ (x cur:Tx),(∀ b∈x,jz b=false)→cur++x≠[]→bI cur x= [cur++x]:=by
 intro x
 induction x with
 | nil=>intro cur _ h; rw [List.append_nil] at h ⊢; exact tu h
 | cons b x ih=>
   intro cur h h1
   rw [pF (h b (by simp)),ih _ (fun c hc=>h c (by simp [hc])) (by simp),List.append_assoc]; rfl
def kR (x:Tx):Prop :=x≠[]∧(∀ b∈x,jz b=false)∧kF x=false∧10∉x
theorem kR.row {x:Tx} (h:kR x) (n:Nat):iW x n= [(n,[x])]:=by
 have h1:iy (bI [] x)= [x]:=by
  rw [BN x [] h.2.1 (by simpa using h.1)]
  unfold iy; simp [h.2.2.1]
 unfold iW; rw [h1]; rfl
theorem EW:∀ (xs:List Tx) (n:Nat),(∀ x∈xs,kR x)→fD n xs=(xs.zipIdx n).map fun p=>(p.2,[p.1]):=by
 intro xs
 induction xs with
 | nil=>intro n _; rfl
 | cons x xs ih=>
   intro n h
   rw [fD,(h x (by simp)).row,ih _ (fun y hy=>h y (by simp [hy]))]; rfl
theorem A7 {F:aG} {eof:Nat} :∀ {rows:List Rw} {r:List bR},rows.map (fun q=>dH F q.2)=r.map .ok→e6 F eof rows.length rows= .ok r:=by
 intro rows
 induction rows with
 | nil=>intro r h; cases r with
   | nil=>rw [List.length_nil,e6]
   | cons x r=>cases h
 | cons q rows ih=>
   intro r h
   cases r with
   | nil=>cases h
   | cons x r=>
     rw [List.map_cons,List.map_cons,List.cons.injEq] at h
     rw [List.length_cons,e6,h.1,ih h.2]
def cA:Nat→Nat→Tx
 | 0,_=> []
 | f+1,m=>if m=0 then [] else UInt8.ofNat (48 +m % 10)::cA f (m / 10)
def dG (n:Nat):Tx:=if n=0 then [48] else (cA n n).reverse
theorem Aq:∀ (f g m:Nat),m≤f→m≤g→cA f m=cA g m:=by
 intro f
 induction f with
 | zero=>intro g m hf _; obtain rfl :m=0:=by omega
         cases g <;> simp [cA]
 | succ f ih=>
   intro g m hf hg
   cases g with
   | zero=>obtain rfl :m=0:=by omega
           simp [cA]
   | succ g=>
     rw [cA,cA]
     split
     · rfl
     · rw [ih g (m / 10) (by omega) (by omega)]
theorem lZ {m:Nat} (h:m≠0):cA m m=UInt8.ofNat (48 +m % 10)::cA (m / 10) (m / 10):=by
 obtain ⟨k,rfl⟩:∃ k,m=k+1:=⟨m - 1,by omega⟩
 rw [cA,if_neg h,Aq k ((k+1) / 10) _ (by omega) (Nat.le_refl _)]
theorem sM:cA 0 0= []:=rfl
theorem sL:∀ (f m:Nat),(cA f m).length≤f:=by
 intro f
 induction f with
 | zero=>intro m; simp [cA]
 | succ f ih=>intro m; rw [cA]; split
              · simp
              · have :=ih (m / 10); simp only [List.length_cons]; omega
theorem pd {d:Nat} (h:d < 10):(UInt8.ofNat (48 +d)).toNat=48 +d:=by simp; omega
theorem Ap:∀ (f m:Nat) (b:UInt8),b∈cA f m→48≤b.toNat∧b.toNat≤57:=by
 intro f
 induction f with
 | zero=>intro m b h; cases h
 | succ f ih=>
   intro m b h
   rw [cA] at h
   split at h
   · cases h
   · rcases List.mem_cons.1 h with rfl | h
     · rw [pd (by omega)]; omega
     · exact ih _ b h
theorem Ay (s:Tx) (b:UInt8):c6 (s++ [b])=c6 s*10 +(b.toNat - 48):=by
 unfold c6; rw [List.foldl_append]; rfl
theorem As:∀ (k m:Nat),m≤k→c6 (cA m m).reverse=m:=by
 intro k
 induction k with
 | zero=>intro m h; obtain rfl :m=0:=by omega
         rfl
 | succ k ih=>
   intro m h
   by_cases hm:m=0
   · subst hm; rfl
   · rw [lZ hm,List.reverse_cons,Ay,ih (m / 10) (by omega),pd (by omega)]; omega
theorem Ar:∀ (k m:Nat),m≤k→m≠0→((cA m m).reverse.getD 0 0).toNat≠48:=by
 intro k
 induction k with
 | zero=>intro m h h0; omega
 | succ k ih=>
   intro m h hm
   rw [lZ hm,List.reverse_cons]
   by_cases hd:m / 10=0
   · rw [hd,sM]
     show (UInt8.ofNat (48 +m % 10)).toNat≠48
     rw [pd (by omega)]; omega
   · have h1:0 < (cA (m / 10) (m / 10)).reverse.length:=by rw [lZ hd]; simp
     rw [pP h1]
     exact ih _ (by omega) hd
theorem sO (n:Nat):c6 (dG n)=n:=by
 unfold dG; split
 · rename_i h; subst h; rfl
 · exact As n n (Nat.le_refl _)
theorem k3 {n:Nat} {b:UInt8} (h:b∈dG n):48≤b.toNat∧b.toNat≤57:=by
 unfold dG at h; split at h
 · simp only [List.mem_singleton] at h; subst h; decide
 · exact Ap _ _ b (List.mem_reverse.1 h)
theorem l0 (n:Nat):dG n≠[]:=by
 unfold dG; split
 · simp
 · rename_i h; rw [lZ h]; simp
theorem Av (n:Nat):(dG n).length≤n+1:=by
 unfold dG; split
 · simp
 · rw [List.length_reverse]; have :=sL n n; omega
theorem Au (n:Nat):¬jY (dG n):=by
 rintro (h | ⟨h,h1⟩)
 · exact l0 n h
 · unfold dG at h h1
   split at h
   · simp at h
   · rename_i h0; rw [if_neg h0] at h1; exact Ar n n (Nat.le_refl _) h0 h1
theorem Aw {n most:Nat} (h:n≤most):cH (dG n) most= .ok n:=by
 unfold cH
 rw [qe (Au n) (fun i hi=>decide_eq_true (k3 (du hi))) (by rw [sO]; omega),sO]
 rfl
theorem sN (n:Nat):kR (dG n):=by
 refine ⟨l0 n,fun b hb=> ?_,?_,fun hb=> ?_⟩
 · have :=k3 hb; rw [nI]; exact decide_eq_false (by omega)
 · unfold kF
   have :=k3 (du (d:=0) (List.length_pos_iff.2 (l0 n)))
   exact decide_eq_false (by omega)
 · have :=k3 hb; revert this; decide
theorem Ga {n:Nat} {r:Tx} :nL (dG n++r)=false :=by
 have h:=k3 (du (d:=0) (List.length_pos_iff.2 (l0 n)))
 rw [Dr]
 refine decide_eq_false fun h2=> ?_
 have h3:=h2.2.1
 rw [pP (List.length_pos_iff.2 (l0 n))] at h3
 omega
end Go.Hb
end
section
namespace Go.Hb
def ow:Tx:= [83,70,88,32,65,32,89,32,48,10]
def qK:Tx:= [50,10,102,108,121,47,65,10,105,110,92,47,111,117,116,10]
def lK:aG:=⟨1,[],[],[0,0,0,0,0],3,[],[],[⟨65,2,true,0,0⟩],[]⟩
def kL:List bR:= [([102,108,121],[65]),([105,110,47,111,117,116],[])]
theorem uL {b:UInt8} {m:Int} (h:48≤b.toNat∧b.toNat≤57) (hm:((b.toNat - 48:Nat):Int)≤m):cH [b] m= .ok (b.toNat - 48):=by
 have hv:c6 [b]=b.toNat - 48:=by simp [c6]
 have hz:¬jY [b]:=by rintro (h | ⟨h,_⟩) <;> simp at h
 have hd:pf [b]:=fun i hi=>by
  have hi:i=0:=by simpa using hi
  subst hi
  exact decide_eq_true h
 unfold cH
 rw [qe hz hd (by rw [hv]; omega),hv]
 rfl
theorem Gn:cI ow= [(1,[[83,70,88],[65],[89],[48]])]:=by decide+kernel
theorem Gp:cI qK= [(1,[[50]]),(2,[[102,108,121,47,65]]),(3,[[105,110,92,47,111,117,116]])]:=by decide+kernel
theorem qL:c8 1 [65]=65:=by unfold c8; decide+kernel
theorem Gl:eS dW [65]= .ok 65:=by
 unfold eS eJ dW
 simp only
 rw [qL]
 simp [cQ,dy]
theorem Gj:fR ow= .ok lK:=by
 unfold fR
 rw [if_neg (by decide),Gn]
 simp only [List.length_cons,List.length_nil]
 have hh:bh ((bC ow).length+1) dW [] [] 1 [[83,70,88],[65],[89],[48]]= .ok (lK,[]):=by
  unfold bh
  simp only [List.getD_cons_zero]
  rw [if_neg (by decide),if_neg (by decide),if_neg (by decide),if_neg (by decide),if_neg (by decide),if_neg (by decide),if_neg (by decide)]
  unfold eN
  simp only [List.getD_cons_zero,List.getD_cons_succ]
  rw [Gl]
  simp only
  rw [if_neg (by simp),uL (by decide) (by decide)]
  rfl
 rw [fu]
 simp only [List.getD_cons_zero]
 rw [if_neg (by decide),if_neg (by decide),if_neg (by decide),hh]
 simp only
 rw [fu,if_pos rfl]
 rfl
theorem Gm:iU 1 [65]= .ok [65]:=by
 have h1:cV 1 [65]= [[65]]:=by decide+kernel
 have h:dt 1 [65]=([65],0):=by
  unfold dt
  rw [h1,if_neg (by simp),if_neg (by simp [qL]),if_neg (by simp),List.map_cons,List.map_nil,qL]
  decide+kernel
 unfold iU
 rw [h]; rfl
theorem Gk:fz lK qK= .ok kL:=by
 have a:dH lK [[102,108,121,47,65]]= .ok ([102,108,121],[65]):=by
  have hw:aW [102,108,121,47,65]=([102,108,121],[65],true,0):=by decide+kernel
  refine (sX (row:= [[102,108,121,47,65]]) (set := [65]) rfl ?_ ?_ ?_ ?_ ?_ ?_ ?_).trans ?_
  all_goals try simp only [List.getD_cons_zero,hw]
  · decide
  · decide
  · simp
  · show eh 1 [] [65]=_
    unfold eh; rw [if_pos rfl]; exact Gm
  · intro i hi
    have :i=0:=by simpa using hi
    subst this; decide
 have c:dH lK [[105,110,92,47,111,117,116]]= .ok ([105,110,47,111,117,116],[]):=by
  have hw:aW [105,110,92,47,111,117,116]=([105,110,47,111,117,116],[],false,0):=by decide+kernel
  refine (pn (row:= [[105,110,92,47,111,117,116]]) rfl ?_ ?_ ?_ ?_ ?_).trans ?_
  all_goals try simp only [List.getD_cons_zero,hw]
  · decide
  · decide
  · simp
 have hn:cH [50] 8192= .ok 2:=uL (by decide) (by decide)
 rw [pc (by decide) Gp rfl (show cH ([[50]].getD 0 []) 8192= .ok 2 from hn),e6,a]
 simp only
 rw [e6,c]
 simp only
 rw [e6]
 rfl
end Go.Hb
end
section
set_option maxRecDepth 20000
set_option maxHeartbeats 1000000
namespace Go.Hb.eM
open Go.Proofs
def iz (l:List (Tx×Tx)):List Value:=l.flatMap fun p=> [str p.1,str p.2]
def jt (c:cX):List Value:= [az c.flag,.int .i64 (c.kind:Nat),.bool c.gC,.int .i64 (c.first:Nat),.int .i64 (c.count:Nat)]
def g6 (l:List cX):List Value:=l.flatMap jt
def fY (q:eI×Value):List Value:= [.int .i64 (q.1.kind:Nat),az q.1.flag,.bool q.1.gC,str q.1.strip,str q.1.add,str q.1.cond,q.2]
def eL (l:List (eI×Value)):List Value:=l.flatMap fY
structure bd where
 rb:Nat
 fb:Nat
 ms:Nat
 mt:Nat
 mc:Nat
 eof:Nat
structure c5 where
 v9:Value
 v10:Value
 v11:Value
 dd:Value
 sa:List Value
 rn:List Value
structure dF where
 vr:Value
 vs:List (Nat×Value)
 vn:Value
def iT (F:aG) (V:c5) (mc:Nat):List Value:= [.int .i64 (F.kind:Nat),str F.lY,str F.tr,az (F.sp.getD 0 0),az (F.sp.getD 1 0),az (F.sp.getD 2 0),az (F.sp.getD 3 0),az (F.sp.getD 4 0),.int .i64 (F.least:Nat),V.v9,V.v10,V.v11,V.dd,.map (some mc)]
def mx (H:bd) (R:dF) (ln:Nat):List Value:= [.pointer (some ⟨H.fb,0,none⟩),R.vr,.int .i64 (ln:Nat),.int .i64 (H.eof:Nat),.map (some H.ms),.map (some H.mt),R.vn]
structure bB (w:World) (B fb mc:Nat) (F:aG) (V:c5):Prop where
 cells:w.heap[fb]? =some (.cells (iT F V mc).toArray 89 (0,0))
 o9:World.ownsRow w B 163 2 V.v9 F.bH.length (iz F.bH)
 eK:World.ownsRow w B 54 1 V.v10 F.aliases.length V.sa
 al:bM w B 71 V.sa F.aliases
 dZ:World.ownsRow w B 157 5 V.v11 F.a6.length (g6 F.a6)
 dJ:World.ownsRow w B 155 7 V.dd F.rules.length (eL (F.rules.zip V.rn))
 nx:bM w B 71 V.rn (F.rules.map (·.next))
 cm:∃ f,bf w.heap mc (jD .u16) f∧∀ x:Nat,f (az x)=(F.a6.findIdx? fun c=>decide (c.flag=x)).map fun i:Nat=>Value.int .i64 i
 lo:B≤fb∧B≤mc
 fN:F.sp.length=5
theorem bB.md {G:Nat→Prop} {w w':World} {B fb mc:Nat} {F:aG} {V:c5} (h:bB w B fb mc F V) (hm:Md G w w') {L:List Nat} (hT:TF w L G) (a:(L.contains 91 || L.contains 165 || L.contains 56 || L.contains 73 || L.contains 159 || L.contains 157)=false) (i:¬G mc):bB w' B fb mc F V:=by
 simp only [Bool.or_eq_false_iff] at a
 obtain ⟨⟨⟨⟨⟨h1,h2⟩,h3⟩,h4⟩,h5⟩,h6⟩:=a
 have hfl:∀ k,G k→∀ cur z,w.heap[k]?≠some (.cells cur 71 z):=fun k hk cur z hg=>hT.no (cW hg) h4 hk
 obtain ⟨f,hf,c⟩:=h.cm
 exact ⟨hm.g3 hT h.cells h1,cg h.o9 hm hT h2,cg h.eK hm hT h3,h.al.md hm hfl,cg h.dZ hm hT h5,cg h.dJ hm hT h6,h.nx.md hm hfl,⟨f,hf.md hm i,c⟩,h.lo,h.fN⟩
theorem bB.wk {w w':World} {B fb mc:Nat} {F:aG} {V:c5} (h:bB w B fb mc F V) (hm:Wk w w'):bB w' B fb mc F V:=h.md (L:= []) hm (fun _ hk=>hk.elim) rfl id
structure bg (w:World) (B:Nat) (H:bd) (F:aG) (R:dF) (rows:List Rw) (ln:Nat) (seen:List Tx):Prop where
 cells:w.heap[H.rb]? =some (.cells (mx H R ln).toArray 92 (0,0))
 rws:gy w B 105 rows.length R.vr (gO R.vs)
 rt:ep w B 9 R.vs rows
 sm:∃ f,bf w.heap H.ms eC f∧∀ s:Tx,(f (str s)).getD (.int .i64 0)= .int .i64 (seen.count s:Nat)
 tm:∃ f,bf w.heap H.mt (jD .u16) f∧∀ x:Nat,x≠0→(f (az x)).getD (.int .i64 0)= .int .i64 ((if cQ F x=true then 1 else 0:Nat):Nat)
 on :World.ownsRow w B 3 1 R.vn F.rules.length (F.rules.map fun r=>Value.int .i64 (r.line:Nat))
 lo:B≤H.rb∧B≤H.ms∧B≤H.mt
 ne:H.ms≠H.mt∧H.ms≠H.mc∧H.mt≠H.mc
theorem bg.md {G:Nat→Prop} {w w':World} {B:Nat} {H:bd} {F:aG} {R:dF} {rows:List Rw} {ln:Nat} {seen:List Tx} (h:bg w B H F R rows ln seen) (hm:Md G w w') {L:List Nat} (hT:TF w L G) (a:(L.contains 94 || L.contains 107 || L.contains 11 || L.contains 5)=false) (i:¬G H.ms) (hmt:¬G H.mt):bg w' B H F R rows ln seen:=by
 simp only [Bool.or_eq_false_iff] at a
 obtain ⟨⟨⟨h1,h2⟩,h3⟩,h4⟩:=a
 obtain ⟨f,hf,c⟩:=h.sm
 obtain ⟨g,hg,hg2⟩:=h.tm
 exact ⟨hm.g3 hT h.cells h1,h.rws.md hm (fun k hk cur z hx=>hT.no (cW hx) h2 hk),h.rt.md hm (fun k hk cur z hx=>hT.no (cW hx) h3 hk),⟨f,hf.md hm i,c⟩,⟨g,hg.md hm hmt,hg2⟩,cg h.on hm hT h4,h.lo,h.ne⟩
theorem bg.wk {w w':World} {B:Nat} {H:bd} {F:aG} {R:dF} {rows:List Rw} {ln:Nat} {seen:List Tx} (h:bg w B H F R rows ln seen) (hm:Wk w w'):bg w' B H F R rows ln seen:=h.md (L:= []) hm (fun _ hk=>hk.elim) rfl id id
theorem bg.cy {w:World} {B:Nat} {H:bd} {F:aG} {R:dF} {rows:List Rw} {ln:Nat} {seen:List Tx} (h:bg w B H F R rows ln seen):Hb.ay w.heap H.rb 2=some (.int .i64 (ln:Nat)):=(aQ h.cells).trans rfl
structure fO (F:aG) (rows:List Rw) (seen:List Tx):Prop where
 len:F.bH.length+F.aliases.length+F.a6.length+F.rules.length+rows.length≤70000
 sl:seen.length+rows.length≤70000
 row:∀ q∈rows,q.2≠[]∧q.2.length≤70000∧∀ x∈q.2,x.length≤70000
 kd:F.kind=1∨F.kind=2∨F.kind=3
 al:∀ l∈F.aliases,l.length≤64∧l.Pairwise (· < ·)
def St (w:World) (B:Nat) (H:bd) (F:aG) (rows:List Rw) (ln:Nat) (seen:List Tx):Prop := ∃ V R,bB w B H.fb H.mc F V∧bg w B H F R rows ln seen∧fO F rows seen
abbrev cK (B:Nat) (H:bd) (w w':World):Prop :=Mw [94,91,165,56,159,157,5] H.ms H.mt H.mc B w w'
theorem bg.bY {w w':World} {B:Nat} {H:bd} {F:aG} {R R':dF} {rows a:List Rw} {ln ln':Nat} {seen:List Tx} (h:bg w B H F R rows ln seen) (hm:Md (fun k=>k=H.rb) w w') (hc:w'.heap[H.rb]? =some (.cells (mx H R' ln').toArray 92 (0,0))) (j:R'.vn=R.vn) (hr:gy w B 105 a.length R'.vr (gO R'.vs)) (i:ep w B 9 R'.vs a):bg w' B H F R' a ln' seen:=by
 obtain ⟨f,hf,c⟩:=h.sm
 obtain ⟨g,hg,hg2⟩:=h.tm
 have hT:TF w [94] (fun k=>k=H.rb):=TF.eq (cW h.cells) (by decide)
 exact ⟨hc,hr.md hm (fun k hk cur z hx=>hT.no (cW hx) (by decide) hk),i.md hm (fun k hk cur z hx=>hT.no (cW hx) (by decide) hk),⟨f,hf.md hm (hT.no (bX hf) (by decide)),c⟩,⟨g,hg.md hm (hT.no (bX hg) (by decide)),hg2⟩,j ▸ cg h.on hm hT (by decide),h.lo,h.ne⟩
theorem ep.tl {w:World} {B e:Nat} {q:Nat×Value} {r:Rw} {vs:List (Nat×Value)} {rs:List Rw} (h:ep w B e (q::vs) (r::rs)):ep w B e vs rs:=⟨by have :=h.1; simpa using this,fun i q2 a h1 h2=>h.2 (i+1) q2 a h1 h2⟩
theorem bB.put {w w':World} {B fb mc:Nat} {F F':aG} {V:c5} (h:bB w B fb mc F V) (hm:Md (fun k=>k=fb) w w') (hc:w'.heap[fb]? =some (.cells (iT F' V mc).toArray 89 (0,0))) (h1:F'.bH=F.bH) (h2:F'.aliases=F.aliases) (h3:F'.a6=F.a6) (h4:F'.rules=F.rules) (h5:F'.sp.length=5):bB w' B fb mc F' V:=by
 have hT:TF w [91] (fun k=>k=fb):=TF.eq (cW h.cells) (by decide)
 have hfl:∀ k,k=fb→∀ cur z,w.heap[k]?≠some (.cells cur 71 z):=ez h.cells (by decide)
 obtain ⟨f,hf,a⟩:=h.cm
 exact ⟨hc,h1 ▸ cg h.o9 hm hT (by decide),h2 ▸ cg h.eK hm hT (by decide),h2 ▸ h.al.md hm hfl,h3 ▸ cg h.dZ hm hT (by decide),h4 ▸ cg h.dJ hm hT (by decide),h4 ▸ h.nx.md hm hfl,⟨f,hf.md hm (hT.no (bX hf) (by decide)),h3 ▸ a⟩,h.lo,h5⟩
theorem bg.fb {w w':World} {B:Nat} {H:bd} {F a:aG} {V:c5} {R:dF} {rows:List Rw} {ln:Nat} {seen:List Tx} (h:bg w B H F R rows ln seen) (c:bB w B H.fb H.mc a V) (hm:Md (fun k=>k=H.fb) w w'):bg w' B H F R rows ln seen:=by
 have hT:TF w [91] (fun k=>k=H.fb):=TF.eq (cW c.cells) (by decide)
 obtain ⟨f,hf,i⟩:=h.sm
 obtain ⟨g,hg,hg2⟩:=h.tm
 exact h.md hm hT (by decide) (hT.no (bX hf) (by decide)) (hT.no (bX hg) (by decide))
theorem bB.rb {w w':World} {B:Nat} {H:bd} {F a:aG} {V:c5} {R:dF} {rows:List Rw} {ln:Nat} {seen:List Tx} (h:bB w B H.fb H.mc a V) (c:bg w B H F R rows ln seen) (hm:Md (fun k=>k=H.rb) w w'):bB w' B H.fb H.mc a V:=by
 have hT:TF w [94] (fun k=>k=H.rb):=TF.eq (cW c.cells) (by decide)
 obtain ⟨f,hf,i⟩:=h.cm
 exact h.md hm hT (by decide) (hT.no (bX hf) (by decide))
theorem bg.congr {w:World} {B:Nat} {H:bd} {F F':aG} {R:dF} {rows:List Rw} {ln:Nat} {seen:List Tx} (h:bg w B H F R rows ln seen) (hr:F'.rules=F.rules) (hd:∀ x,cQ F' x=cQ F x):bg w B H F' R rows ln seen:=by
 obtain ⟨g,hg,hg2⟩:=h.tm
 exact ⟨h.cells,h.rws,h.rt,h.sm,⟨g,hg,fun x hx=>by rw [hd]; exact hg2 x hx⟩,hr ▸ h.on,h.lo,h.ne⟩
theorem bg.ml {w w':World} {B:Nat} {H:bd} {F F':aG} {R:dF} {rows:List Rw} {ln:Nat} {seen:List Tx} {f:Value→Option Value} (h:bg w B H F R rows ln seen) (hm:Md (fun k=>k=H.mt) w w') (hf:bf w'.heap H.mt (jD .u16) f) (hr:F'.rules=F.rules) (hd:∀ x:Nat,x≠0→(f (az x)).getD (.int .i64 0)= .int .i64 ((if cQ F' x=true then 1 else 0:Nat):Nat)):bg w' B H F' R rows ln seen:=by
 obtain ⟨g,hg,_⟩:=h.tm
 obtain ⟨f0,a,c⟩:=h.sm
 have hT:TF w [1] (fun k=>k=H.mt):=TF.eq (bX hg) (by decide)
 exact ⟨hm.g3 hT h.cells (by decide),h.rws.md hm (fun k hk cur z hx=>hT.no (cW hx) (by decide) hk),h.rt.md hm (fun k hk cur z hx=>hT.no (cW hx) (by decide) hk),⟨f0,a.md hm h.ne.1,c⟩,⟨f,hf,hd⟩,hr ▸ cg h.on hm hT (by decide),h.lo,h.ne⟩
theorem bB.ml {w w':World} {B:Nat} {H:bd} {F a:aG} {V:c5} {R:dF} {rows:List Rw} {ln:Nat} {seen:List Tx} (h:bB w B H.fb H.mc a V) (c:bg w B H F R rows ln seen) (hm:Md (fun k=>k=H.mt) w w'):bB w' B H.fb H.mc a V:=by
 obtain ⟨g,hg,_⟩:=c.tm
 exact h.md (L:= [1]) hm (TF.eq (bX hg) (by decide)) (by decide) (fun h=>c.ne.2.2 h.symm)
theorem cK.fb {w w':World} {B:Nat} {H:bd} {c:aG} {V:c5} (a:bB w B H.fb H.mc c V) (hm:Md (fun k=>k=H.fb) w w'):cK B H w w':=Mw.of hm (TF.eq (cW a.cells) (by decide)) (fun k hk=>hk ▸ a.lo.1)
theorem cK.rb {w w':World} {B:Nat} {H:bd} {F:aG} {R:dF} {rows:List Rw} {ln:Nat} {seen:List Tx} (a:bg w B H F R rows ln seen) (hm:Md (fun k=>k=H.rb) w w'):cK B H w w':=Mw.of hm (TF.eq (cW a.cells) (by decide)) (fun k hk=>hk ▸ a.lo.1)
theorem cK.mt {w w':World} {B:Nat} {H:bd} {F:aG} {R:dF} {rows:List Rw} {ln:Nat} {seen:List Tx} (a:bg w B H F R rows ln seen) (hm:Md (fun k=>k=H.mt) w w'):cK B H w w':=hm.mono fun k _ hk=>⟨hk ▸ a.lo.2.2,.inr (.inl hk)⟩
def eH (B:Nat) (H:bd) (seen:List Tx) (X:Except (Nat×Nat) (aG×List Rw)) (w:World) (v:Value) (w':World):Prop :=v= .tuple #[]∧∃ F' a ln',X= .ok (F',a)∧St w' B H F' a ln' seen∧cK B H w w'
def eG (B:Nat) (H:bd) (X:Except (Nat×Nat) (aG×List Rw)) (w:World) (c:List PanicEntry) (w':World):Prop := ∃ l e,X= .error (l,e)∧c=eB 25 l (e:Nat)∧cK B H w w'
def fj (F:aG) (seen:List Tx):Prop := ∀ k∈dE,k∉seen→F.sp.getD (dE.idxOf k) 0=0
theorem AE {F:aG} {i x:Nat} (hi:i < F.sp.length) (h0:F.sp.getD i 0=0) (y:Nat) (hy:y≠0):cQ {F with sp:=F.sp.set i x} y=(decide (y=x) || cQ F y):=by
 unfold cQ
 show (decide (y∈F.sp.set i x) || _)=_
 rw [← Bool.or_assoc]
 congr 1
 rw [← Bool.decide_or,decide_eq_decide]
 constructor
 · intro h
   rcases List.mem_or_eq_of_mem_set h with h | h
   · exact .inr h
   · exact .inl h
 · rintro (h | h)
   · subst h; exact List.mem_set hi _
   · obtain ⟨j,hj⟩:=List.getElem?_of_mem h
     by_cases a:i=j
     · subst a
       rw [List.getD_eq_getElem?_getD,hj] at h0
       exact absurd h0 hy
     · exact List.mem_of_getElem? (i:=j) (by rw [List.getElem?_set,if_neg a]; exact hj)
theorem Tg.mm {w:World} {B e e' n cp b:Nat} {a:Option Addr} {xs:List Value} {cs:Array Value} {z:Nat×Nat} (h:Tg w B e n (.slice a n cp) xs) (hx:xs≠[]) (hb:w.heap[b]? =some (.cells cs e' z)) (hne:e≠e'):¬(bk a=b):=by
 obtain ⟨i,j,hv,_,hh⟩:=h
 cases hv
 rcases hh with rfl | ⟨c,cur,p,rfl,_,hg,_⟩
 · exact absurd rfl hx
 · rintro rfl
   rw [show (bk (some ⟨c,0,none⟩))=c from rfl] at hb
   rw [hg] at hb
   simp only [Option.some.injEq,Obj.cells.injEq] at hb
   exact hne hb.2.1
theorem BA {F:aG} {V:c5} {mc i o x:Nat} (h5:F.sp.length=5) (hi:i < 5) (j:o=3 +i):(iT F V mc).set o (az x)=iT {F with sp:=F.sp.set i x} V mc:=by
 subst j
 obtain ⟨k,cs,tr,sp,le,p,al,cl,q⟩:=F
 match sp,h5 with
 | [a,b,c,d,e],_=>
   match i,hi with
   | 0,_=>rfl
   | 1,_=>rfl
   | 2,_=>rfl
   | 3,_=>rfl
   | 4,_=>rfl
theorem sK (b:Bool):decide (((if b=true then 1 else 0:Nat):Int)=0)= !b:=by cases b <;> rfl
theorem vQ {x y:Nat} (h:az x=az y):x=y:=by unfold az at h; injection h with _ h; omega
theorem vK {F F':aG} {f:Value→Option Value} {x:Nat} (hd:cQ F x=false) (hf:∀ y:Nat,y≠0→(f (az y)).getD (.int .i64 0)= .int .i64 ((if cQ F y=true then 1 else 0:Nat):Nat)) (a:∀ y,y≠0→cQ F' y=(decide (y=x) || cQ F y)) (y:Nat) (hy:y≠0):(aX f (az x) (.int .i64 (1:Nat)) (az y)).getD (.int .i64 0)= .int .i64 ((if cQ F' y=true then 1 else 0:Nat):Nat):=by
 rw [a y hy]
 by_cases h:y=x
 · subst h; rw [mr]; simp
 · rw [lA (fun h2=>h (vQ h2)),hf y hy]; simp [h]
theorem eW {G:Nat→Prop} {w w':World} (h:Md G w.drew w'):Md G w w':=⟨h.os,h.output,h.size,h.e0⟩
theorem bM.get {w:World} {B e i:Nat} {vs:List Value} {ls:List (List Nat)} (h:bM w B e vs ls) (hi:i < ls.length):∃ v,vs[i]? =some v∧Tg w B e (ls.getD i []).length v ((ls.getD i []).map az):=by
 have h1:i < vs.length:=by rw [h.1]; exact hi
 refine ⟨vs[i],List.getElem?_eq_getElem h1,h.2 i _ _ (List.getElem?_eq_getElem h1) ?_⟩
 rw [List.getD_eq_getElem?_getD,List.getElem?_eq_getElem hi]; rfl
theorem Tg.nM {w:World} {B e n cp:Nat} {a:Option Addr} {xs:List Value} (h:Tg w B e n (.slice a n cp) xs) (hl:xs.length=n) (ha:a=none):n=0:=by
 obtain ⟨c,j,hv,_,hh⟩:=h
 cases hv
 rcases hh with rfl | ⟨i,cur,p,h2,_⟩
 · exact hl.symm
 · rw [ha] at h2; cases h2
theorem Tg.uA {G:Nat→Prop} {w w':World} {B e n:Nat} {v:Value} {xs:List Value} (h:Tg w B e n v xs) (hm:Md G w w') (c:∀ k,G k→k < B):Tg w' B e n v xs:=by
 obtain ⟨a,cp,rfl,hc,h | ⟨b,cur,z,rfl,hb,hg,hx⟩⟩:=h
 · exact ⟨a,cp,rfl,hc,.inl h⟩
 · exact ⟨_,cp,rfl,hc,.inr ⟨b,cur,z,rfl,hb,by rw [hm.e0 b (Array.getElem?_eq_some_iff.1 hg).1 (fun hk=>by have :=c b hk; omega)]; exact hg,hx⟩⟩
end Go.Hb.eM
end
section
namespace Go.Hb
abbrev U (n:Nat):Value:= .int .i64 (n:Nat)
abbrev aU (b:Nat):Value:= .pointer (some ⟨b,0,none⟩)
variable {P:Program} {N:Fm} {ops:Array Oper} {Q:Exit→(Nat→Value)→World→Prop} {σ:Nat→Value} {w:World} {S:World→Prop} {r fuel:Nat} {aC:Array Bool} {d:Nat} {op:Op} {ty:TypeId} {pos :String} {af:Array Edge} {v:Value}
theorem aK (i:Nat) (hi:ops[i]? =some ⟨some d,op,ty,pos,af,none⟩) (hy:∀ w,S w→(execOp (ev N σ) ⟨some d,op,ty,pos,af,none⟩).run P w= .ok (.value v) w) (a:S w) (k:dM P N ops Q S fuel (aC.setIfInBounds i true) (bY σ d v) w) (hf:gp N.F ops aC i=true :=by kernel_rfl):dM P N ops Q S (fuel+1) aC σ w:=hp i hi hf hy a k
theorem cT (i:Nat) (hi:ops[i]? =some ⟨some d,op,ty,pos,af,none⟩) (hy:∀ w,S w→(execOp (ev N σ) ⟨some d,op,ty,pos,af,none⟩).run P w= .ok (.value v) w) (a:S w) (k:dV P N ops Q S r fuel (aC.setIfInBounds i true) (bY σ d v) w) (hf:pM N.F ops aC r i=true :=by kernel_rfl):dV P N ops Q S r (fuel+1) aC σ w:=fq i hi hf hy a k
theorem a5 (i:Nat) (hi:ops[i]? =some ⟨some d,op,ty,pos,af,none⟩) (hy:∀ w,(execOp (ev N σ) ⟨some d,op,ty,pos,af,none⟩).run P w= .ok (.value v) w) (a:aC.getD r false =false→S w) (k:dV P N ops Q S r fuel (aC.setIfInBounds i true) (bY σ d v) w) (hf:nH N.F ops aC r i=true :=by kernel_rfl):dV P N ops Q S r (fuel+1) aC σ w:=bj i hi hf hy a k
theorem bm {x:Operand} (i:Nat) (hi:ops[i]? =some ⟨some d,.move x,ty,pos,af,none⟩) (v:Value) (a:S w) (k:dM P N ops Q S fuel (aC.setIfInBounds i true) (bY σ d v) w) (hx:ev N σ x=v:=by exact rfl) (hf:gp N.F ops aC i=true :=by kernel_rfl):dM P N ops Q S (fuel+1) aC σ w:=hp i hi hf (fun _ _=>ao v hx) a k
theorem aJ {x:Operand} (i:Nat) (hi:ops[i]? =some ⟨some d,.move x,ty,pos,af,none⟩) (v:Value) (a:S w) (k:dV P N ops Q S r fuel (aC.setIfInBounds i true) (bY σ d v) w) (hx:ev N σ x=v:=by exact rfl) (hf:nH N.F ops aC r i=true :=by kernel_rfl):dV P N ops Q S r (fuel+1) aC σ w:=bj i hi hf (fun _=>ao v hx) (fun _=>a) k
theorem aR {P:Program} {f:FuncId} {fn:Func} (hf:P.funcs[f]? =some fn) (hn:(fn.name== "runtime.NumGoroutine")=false :=by kernel_rfl) (hb:fn.body.isNone=false :=by kernel_rfl):aM P f:=y6 hf hn hb
section
variable {rest:List Oper} {x:Operand} {K:(Nat→Value)→World→Prop} {l:List Oper} {id:Nat} {y:Code}
theorem ab (h:∀ K:(Nat→Value)→World→Prop,(∀ σ w,bL P N y Q σ w→K σ w)→cB P N l.toArray (hZ K Q) l σ w) (hr:ly N.r l=true :=by exact rfl):bL P N (.seq (.region id l.toArray false) y) Q σ w:=sq fun K a=>rg hr (h K a)
theorem aj (h:K σ w):cB P N ops (hZ K Q) [] σ w:=nl (tn h)
theorem ag (h:K (bY σ d (ev N σ x)) w):cB P N ops (hZ K Q) [⟨some d,.assign x,ty,pos,af,none⟩] σ w:=p aw (nl (tn h))
theorem ae (v:Value) (h:cB P N ops Q rest (bY σ d v) w) (hx:ev N σ x=v:=by exact rfl):cB P N ops Q (⟨some d,.move x,ty,pos,af,none⟩::rest) σ w:=p (ao v hx) h
end
end Go.Hb
end
section
namespace Go.Hb.cJ
open Go.Proofs
theorem mV:bS Tryz.prog 105=some (some 2):=by kernel_rfl
theorem q8:bS Tryz.prog 106=some none:=by kernel_rfl
theorem oF:bS Tryz.prog 139=some none:=by kernel_rfl
theorem q9:bS Tryz.prog 141=some none:=by kernel_rfl
theorem oG:bS Tryz.prog 155=some (some 7):=by kernel_rfl
theorem lQ:bS Tryz.prog 157=some (some 5):=by kernel_rfl
theorem lR:bS Tryz.prog 211=some none:=by kernel_rfl
theorem jR:bS Tryz.prog 213=some (some 1):=by kernel_rfl
theorem dx:bS Tryz.prog 22=some none:=by kernel_rfl
theorem kT:bS Tryz.prog 225=some none:=by kernel_rfl
theorem fJ:bS Tryz.prog 227=some (some 4):=by kernel_rfl
theorem gz:bS Tryz.prog 25=some (some 3):=by kernel_rfl
theorem kh:bS Tryz.prog 266=some none:=by kernel_rfl
theorem eu:bS Tryz.prog 3=some none:=by kernel_rfl
theorem mW:bS Tryz.prog 39=some none:=by kernel_rfl
theorem ra:bS Tryz.prog 4=some none:=by kernel_rfl
theorem ki:bS Tryz.prog 48=some none:=by kernel_rfl
theorem mX:bS Tryz.prog 5=some none:=by kernel_rfl
theorem gZ:bS Tryz.prog 54=some none:=by kernel_rfl
theorem ic:bS Tryz.prog 56=some (some 2):=by kernel_rfl
theorem rf:bS Tryz.prog 64=some none:=by kernel_rfl
theorem ba:bS Tryz.prog 71=some none:=by kernel_rfl
theorem kU:bS Tryz.prog 74=some none:=by kernel_rfl
theorem lS:bS Tryz.prog 80=some none:=by kernel_rfl
theorem rh:bS Tryz.prog 81=some (some 5):=by kernel_rfl
theorem ri:bS Tryz.prog 82=some none:=by kernel_rfl
theorem kj:bS Tryz.prog 83=some none:=by kernel_rfl
theorem mY:bS Tryz.prog 84=some none:=by kernel_rfl
theorem km:bS Tryz.prog 85=some none:=by kernel_rfl
theorem oH:bS Tryz.prog 87=some (some 13):=by kernel_rfl
theorem bQ:bS Tryz.prog 9=some none:=by kernel_rfl
theorem kV:bS Tryz.prog 90=some none:=by kernel_rfl
theorem rj:bS Tryz.prog 97=some none:=by kernel_rfl
theorem rz:ko Tryz.prog 204=some (256,1):=by kernel_rfl
theorem kn:ko Tryz.prog 227=some (4,1):=by kernel_rfl
theorem oJ:ko Tryz.prog 81=some (5,1):=by kernel_rfl
theorem rA:oK Tryz.prog 227=some ([.int .u64 0,.int .u64 0,.int .u64 0,.int .u64 0]):=by kernel_rfl
theorem m6:m7 Tryz.prog 139 5 9=true :=by kernel_rfl
theorem gk:aM Tryz.prog 10:=aR Tryz.func10
theorem rJ:aM Tryz.prog 100:=aR Tryz.func100
theorem rK:aM Tryz.prog 101:=aR Tryz.func101
theorem xY:aM Tryz.prog 102:=aR Tryz.func102
theorem rL:aM Tryz.prog 103:=aR Tryz.func103
theorem rM:aM Tryz.prog 104:=aR Tryz.func104
theorem xZ:aM Tryz.prog 105:=aR Tryz.func105
theorem gl:aM Tryz.prog 11:=aR Tryz.func11
theorem x0:aM Tryz.prog 111:=aR Tryz.func111
theorem x1:aM Tryz.prog 112:=aR Tryz.func112
theorem x2:aM Tryz.prog 113:=aR Tryz.func113
theorem x3:aM Tryz.prog 114:=aR Tryz.func114
theorem x4:aM Tryz.prog 115:=aR Tryz.func115
theorem rN:aM Tryz.prog 116:=aR Tryz.func116
theorem rO:aM Tryz.prog 117:=aR Tryz.func117
theorem x5:aM Tryz.prog 118:=aR Tryz.func118
theorem rP:aM Tryz.prog 119:=aR Tryz.func119
theorem g4:aM Tryz.prog 12:=aR Tryz.func12
theorem x6:aM Tryz.prog 120:=aR Tryz.func120
theorem x7:aM Tryz.prog 121:=aR Tryz.func121
theorem x8:aM Tryz.prog 122:=aR Tryz.func122
theorem x9:aM Tryz.prog 123:=aR Tryz.func123
theorem rQ:aM Tryz.prog 129:=aR Tryz.func129
theorem ya:aM Tryz.prog 13:=aR Tryz.func13
theorem rR:aM Tryz.prog 130:=aR Tryz.func130
theorem yb:aM Tryz.prog 131:=aR Tryz.func131
theorem yc:aM Tryz.prog 132:=aR Tryz.func132
theorem oO:aM Tryz.prog 133:=aR Tryz.func133
theorem yd:aM Tryz.prog 134:=aR Tryz.func134
theorem oP:aM Tryz.prog 135:=aR Tryz.func135
theorem rS:aM Tryz.prog 136:=aR Tryz.func136
theorem ye:aM Tryz.prog 137:=aR Tryz.func137
theorem oQ:aM Tryz.prog 138:=aR Tryz.func138
theorem rT:aM Tryz.prog 139:=aR Tryz.func139
theorem rU:aM Tryz.prog 144:=aR Tryz.func144
theorem yf:aM Tryz.prog 148:=aR Tryz.func148
theorem yg:aM Tryz.prog 149:=aR Tryz.func149
theorem m8:aM Tryz.prog 15:=aR Tryz.func15
theorem yh:aM Tryz.prog 150:=aR Tryz.func150
theorem yi:aM Tryz.prog 151:=aR Tryz.func151
theorem rV:aM Tryz.prog 152:=aR Tryz.func152
theorem rW:aM Tryz.prog 153:=aR Tryz.func153
theorem yj:aM Tryz.prog 154:=aR Tryz.func154
theorem yl:aM Tryz.prog 155:=aR Tryz.func155
theorem ym:aM Tryz.prog 156:=aR Tryz.func156
theorem yn:aM Tryz.prog 157:=aR Tryz.func157
theorem yo:aM Tryz.prog 158:=aR Tryz.func158
theorem yp:aM Tryz.prog 159:=aR Tryz.func159
theorem rX:aM Tryz.prog 16:=aR Tryz.func16
theorem yq:aM Tryz.prog 160:=aR Tryz.func160
theorem yr:aM Tryz.prog 161:=aR Tryz.func161
theorem gn:aM Tryz.prog 162:=aR Tryz.func162
theorem ys:aM Tryz.prog 163:=aR Tryz.func163
theorem yt:aM Tryz.prog 164:=aR Tryz.func164
theorem yu:aM Tryz.prog 166:=aR Tryz.func166
theorem yv:aM Tryz.prog 17:=aR Tryz.func17
theorem yw:aM Tryz.prog 172:=aR Tryz.func172
theorem yx:aM Tryz.prog 173:=aR Tryz.func173
theorem yy:aM Tryz.prog 174:=aR Tryz.func174
theorem rY:aM Tryz.prog 175:=aR Tryz.func175
theorem yz:aM Tryz.prog 176:=aR Tryz.func176
theorem yA:aM Tryz.prog 177:=aR Tryz.func177
theorem oR:aM Tryz.prog 178:=aR Tryz.func178
theorem rZ:aM Tryz.prog 179:=aR Tryz.func179
theorem yB:aM Tryz.prog 180:=aR Tryz.func180
theorem oS:aM Tryz.prog 186:=aR Tryz.func186
theorem yC:aM Tryz.prog 20:=aR Tryz.func20
theorem yD:aM Tryz.prog 21:=aR Tryz.func21
theorem yE:aM Tryz.prog 27:=aR Tryz.func27
theorem yF:aM Tryz.prog 28:=aR Tryz.func28
theorem r3:aM Tryz.prog 29:=aR Tryz.func29
theorem r4:aM Tryz.prog 30:=aR Tryz.func30
theorem yG:aM Tryz.prog 31:=aR Tryz.func31
theorem yH:aM Tryz.prog 32:=aR Tryz.func32
theorem r5:aM Tryz.prog 33:=aR Tryz.func33
theorem dN:aM Tryz.prog 34:=aR Tryz.func34
theorem yI:aM Tryz.prog 35:=aR Tryz.func35
theorem jV:aM Tryz.prog 36:=aR Tryz.func36
theorem yJ:aM Tryz.prog 37:=aR Tryz.func37
theorem yK:aM Tryz.prog 38:=aR Tryz.func38
theorem yL:aM Tryz.prog 39:=aR Tryz.func39
theorem yM:aM Tryz.prog 48:=aR Tryz.func48
theorem m9:aM Tryz.prog 49:=aR Tryz.func49
theorem yN:aM Tryz.prog 51:=aR Tryz.func51
theorem yO:aM Tryz.prog 52:=aR Tryz.func52
theorem r6:aM Tryz.prog 53:=aR Tryz.func53
theorem na:aM Tryz.prog 54:=aR Tryz.func54
theorem nb:aM Tryz.prog 55:=aR Tryz.func55
theorem r7:aM Tryz.prog 56:=aR Tryz.func56
theorem yP:aM Tryz.prog 57:=aR Tryz.func57
theorem yQ:aM Tryz.prog 58:=aR Tryz.func58
theorem yR:aM Tryz.prog 59:=aR Tryz.func59
theorem yS:aM Tryz.prog 60:=aR Tryz.func60
theorem lX:aM Tryz.prog 61:=aR Tryz.func61
theorem yT:aM Tryz.prog 62:=aR Tryz.func62
theorem yU:aM Tryz.prog 63:=aR Tryz.func63
theorem yV:aM Tryz.prog 64:=aR Tryz.func64
theorem r8:aM Tryz.prog 65:=aR Tryz.func65
theorem iO:aM Tryz.prog 66:=aR Tryz.func66
theorem r9:aM Tryz.prog 67:=aR Tryz.func67
theorem nd:aM Tryz.prog 68:=aR Tryz.func68
theorem yW:aM Tryz.prog 69:=aR Tryz.func69
theorem yX:aM Tryz.prog 70:=aR Tryz.func70
theorem yY:aM Tryz.prog 71:=aR Tryz.func71
theorem yZ:aM Tryz.prog 72:=aR Tryz.func72
theorem oT:aM Tryz.prog 73:=aR Tryz.func73
theorem sc:aM Tryz.prog 74:=aR Tryz.func74
theorem sd:aM Tryz.prog 75:=aR Tryz.func75
theorem y0:aM Tryz.prog 76:=aR Tryz.func76
theorem y1:aM Tryz.prog 87:=aR Tryz.func87
theorem se:aM Tryz.prog 88:=aR Tryz.func88
theorem y2:aM Tryz.prog 89:=aR Tryz.func89
theorem y3:aM Tryz.prog 90:=aR Tryz.func90
theorem y4:aM Tryz.prog 91:=aR Tryz.func91
theorem oU:aM Tryz.prog 92:=aR Tryz.func92
theorem sg:aM Tryz.prog 93:=aR Tryz.func93
theorem oV:aM Tryz.prog 94:=aR Tryz.func94
theorem y5:aM Tryz.prog 95:=aR Tryz.func95
theorem oW:aM Tryz.prog 96:=aR Tryz.func96
theorem nf:aM Tryz.prog 97:=aR Tryz.func97
theorem oX:aM Tryz.prog 98:=aR Tryz.func98
theorem sh:aM Tryz.prog 99:=aR Tryz.func99
theorem zP:∀ (l:List UInt8) (c:UInt8) (w:World),(callFunc 185 #[str l,.int .u8 c.toNat]).run Tryz.prog w= .ok (.value (.int .i64 (l.count c:Nat))) w:=E3 Tryz.func185 (by kernel_rfl) (by kernel_rfl) (by kernel_rfl) (by kernel_rfl)
theorem Ae:∀ v w,(callFunc 110 #[v]).run Tryz.prog w= .ok (.value v) w:=fun v w=>by kernel_rfl
theorem sy:cE Tryz.prog 105=some 2:=by kernel_rfl
theorem Af:cE Tryz.prog 139=some 1:=by kernel_rfl
theorem Ag:cE Tryz.prog 141=some 1:=by kernel_rfl
theorem o7:cE Tryz.prog 155=some 7:=by kernel_rfl
theorem k0:cE Tryz.prog 157=some 5:=by kernel_rfl
theorem sA:cE Tryz.prog 211=some 1:=by kernel_rfl
theorem kq:cE Tryz.prog 213=some 1:=by kernel_rfl
theorem o8:cE Tryz.prog 22=some 1:=by kernel_rfl
theorem Ah:cE Tryz.prog 225=some 1:=by kernel_rfl
theorem ju:cE Tryz.prog 227=some 4:=by kernel_rfl
theorem fy:cE Tryz.prog 25=some 3:=by kernel_rfl
theorem nn:cE Tryz.prog 266=some 1:=by kernel_rfl
theorem iR:cE Tryz.prog 3=some 1:=by kernel_rfl
theorem Ai:cE Tryz.prog 39=some 1:=by kernel_rfl
theorem sB:cE Tryz.prog 4=some 1:=by kernel_rfl
theorem Aj:cE Tryz.prog 48=some 1:=by kernel_rfl
theorem np:cE Tryz.prog 54=some 1:=by kernel_rfl
theorem iS:cE Tryz.prog 56=some 2:=by kernel_rfl
theorem Ak:cE Tryz.prog 64=some 1:=by kernel_rfl
theorem di:cE Tryz.prog 71=some 1:=by kernel_rfl
theorem sD:cE Tryz.prog 74=some 1:=by kernel_rfl
theorem Al:cE Tryz.prog 81=some 5:=by kernel_rfl
theorem sE:cE Tryz.prog 82=some 1:=by kernel_rfl
theorem sF:cE Tryz.prog 83=some 1:=by kernel_rfl
theorem sG:cE Tryz.prog 84=some 1:=by kernel_rfl
theorem sH:cE Tryz.prog 85=some 1:=by kernel_rfl
theorem sI:cE Tryz.prog 87=some 13:=by kernel_rfl
theorem kr:cE Tryz.prog 9=some 1:=by kernel_rfl
theorem Am:cE Tryz.prog 99=some 2:=by kernel_rfl
theorem jW:eA Tryz.prog 139=some 1:=by kernel_rfl
theorem Bg:eA Tryz.prog 169=some 1:=by kernel_rfl
theorem Bi:eA Tryz.prog 211=some 4:=by kernel_rfl
theorem kt:eA Tryz.prog 39=some 2:=by kernel_rfl
theorem bZ:eA Tryz.prog 48=some 1:=by kernel_rfl
theorem aY:eA Tryz.prog 54=some 1:=by kernel_rfl
theorem Bj:eA Tryz.prog 64=some 1:=by kernel_rfl
theorem k9:eA Tryz.prog 74=some 2:=by kernel_rfl
theorem po:eA Tryz.prog 83=some 1:=by kernel_rfl
theorem Bk:eA Tryz.prog 84=some 5:=by kernel_rfl
theorem pq:eA Tryz.prog 85=some 7:=by kernel_rfl
theorem nB:cw Tryz.prog 105 0=some 0:=by kernel_rfl
theorem l7:cw Tryz.prog 105 1=some 1:=by kernel_rfl
theorem l8:cw Tryz.prog 108 0=some 0:=by kernel_rfl
theorem tw:cw Tryz.prog 108 1=some 1:=by kernel_rfl
theorem pG:cw Tryz.prog 143 0=some 0:=by kernel_rfl
theorem nC:cw Tryz.prog 143 1=some 1:=by kernel_rfl
theorem BO:cw Tryz.prog 155 3=some 3:=by kernel_rfl
theorem BP:cw Tryz.prog 155 4=some 4:=by kernel_rfl
theorem BQ:cw Tryz.prog 155 5=some 5:=by kernel_rfl
theorem nD:cw Tryz.prog 155 6=some 6:=by kernel_rfl
theorem pH:cw Tryz.prog 157 0=some 0:=by kernel_rfl
theorem nE:cw Tryz.prog 157 1=some 1:=by kernel_rfl
theorem tx:cw Tryz.prog 157 2=some 2:=by kernel_rfl
theorem BR:cw Tryz.prog 157 3=some 3:=by kernel_rfl
theorem pI:cw Tryz.prog 157 4=some 4:=by kernel_rfl
theorem ku:cw Tryz.prog 213 0=some 0:=by kernel_rfl
theorem lf:cw Tryz.prog 56 0=some 0:=by kernel_rfl
theorem jw:cw Tryz.prog 56 1=some 1:=by kernel_rfl
theorem lg:cw Tryz.prog 87 0=some 0:=by kernel_rfl
theorem BS:cw Tryz.prog 87 1=some 1:=by kernel_rfl
theorem BT:cw Tryz.prog 87 2=some 2:=by kernel_rfl
theorem tz:cw Tryz.prog 87 3=some 3:=by kernel_rfl
theorem pJ:cw Tryz.prog 87 4=some 8:=by kernel_rfl
theorem nG:cw Tryz.prog 87 5=some 9:=by kernel_rfl
theorem jx:cw Tryz.prog 87 6=some 10:=by kernel_rfl
theorem lh:cw Tryz.prog 87 7=some 11:=by kernel_rfl
theorem jy:cw Tryz.prog 87 8=some 12:=by kernel_rfl
theorem dz:cw Tryz.prog 89 0=some 0:=by kernel_rfl
theorem tA:cw Tryz.prog 89 1=some 13:=by kernel_rfl
theorem dI:cw Tryz.prog 92 0=some 0:=by kernel_rfl
theorem l9:cw Tryz.prog 92 1=some 1:=by kernel_rfl
theorem ma:cw Tryz.prog 92 2=some 2:=by kernel_rfl
theorem BU:cw Tryz.prog 92 3=some 3:=by kernel_rfl
theorem lj:cw Tryz.prog 92 4=some 4:=by kernel_rfl
theorem pK:cw Tryz.prog 92 5=some 5:=by kernel_rfl
theorem pL:cw Tryz.prog 92 6=some 6:=by kernel_rfl
theorem tB:cw Tryz.prog 99 0=some 0:=by kernel_rfl
theorem tC:cw Tryz.prog 99 1=some 1:=by kernel_rfl
theorem CD:(Tryz.prog.info? 143).isSome=true :=by kernel_rfl
theorem CR:∀ (l:List UInt8) (c:UInt8) (w:World),(callFunc 169 #[str l,.int .u8 c.toNat]).run Tryz.prog w= .ok (.value (.int .i64 (cG c l))) w:=E4 Tryz.func169 (by kernel_rfl) (by kernel_rfl) (by kernel_rfl) (by kernel_rfl)
theorem kv:iJ Tryz.prog 71 (jD .u16):=CV (q:= .u16) (by kernel_rfl)
theorem ei:iJ Tryz.prog 9 eC:=CW (by kernel_rfl)
theorem qa:kA Tryz.prog 25=true :=by kernel_rfl
theorem Et:ptrTo Tryz.prog 183 5=true :=by kernel_rfl
theorem gR:eo Tryz.prog 139 5 1 1=true :=by kernel_rfl
theorem n0:eo Tryz.prog 211 227 4 32=true :=by kernel_rfl
theorem n2:eo Tryz.prog 39 56 2 40=true :=by kernel_rfl
theorem fE:eo Tryz.prog 48 9 1 16=true :=by kernel_rfl
theorem n3:eo Tryz.prog 54 71 1 2=true :=by kernel_rfl
theorem n4:eo Tryz.prog 64 3 1 8=true :=by kernel_rfl
theorem vB:eo Tryz.prog 74 105 2 32=true :=by kernel_rfl
theorem n5:eo Tryz.prog 82 163 2 32=true :=by kernel_rfl
theorem n6:eo Tryz.prog 83 54 1 24=true :=by kernel_rfl
theorem n7:eo Tryz.prog 84 157 5 40=true :=by kernel_rfl
theorem n8:eo Tryz.prog 85 155 7 88=true :=by kernel_rfl
theorem FC:gT Tryz.prog 105=some ([(0,1),(1,1)],[.int .i64 0,.slice none 0 0]):=by kernel_rfl
theorem FD:gT Tryz.prog 108=some ([(0,1),(1,1)],[.slice none 0 0,.map none]):=by kernel_rfl
theorem FE:gT Tryz.prog 155=some ([(0,1),(1,1),(2,1),(3,1),(4,1),(5,1),(6,1)],[.int .i64 0,.int .u16 0,.bool false,.string ⟨⟨[]⟩⟩,.string ⟨⟨[]⟩⟩,.string ⟨⟨[]⟩⟩,.slice none 0 0]):=by kernel_rfl
theorem qF:gT Tryz.prog 157=some ([(0,1),(1,1),(2,1),(3,1),(4,1)],[.int .u16 0,.int .i64 0,.bool false,.int .i64 0,.int .i64 0]):=by kernel_rfl
theorem FF:gT Tryz.prog 163=some ([(0,1),(1,1)],[.string ⟨⟨[]⟩⟩,.string ⟨⟨[]⟩⟩]):=by kernel_rfl
theorem mD:gT Tryz.prog 213=some ([(0,1)],[.slice none 0 0]):=by kernel_rfl
theorem kH:gT Tryz.prog 25=some ([(0,1),(1,1),(2,1)],[.int .i64 0,.int .i64 0,.int .i64 0]):=by kernel_rfl
theorem jd:gT Tryz.prog 56=some ([(0,1),(1,1)],[.string ⟨⟨[]⟩⟩,.slice none 0 0]):=by kernel_rfl
theorem FG:gT Tryz.prog 89=some ([(0,13),(13,1)],[.int .i64 0,.string ⟨⟨[]⟩⟩,.string ⟨⟨[]⟩⟩,.int .u16 0,.int .u16 0,.int .u16 0,.int .u16 0,.int .u16 0,.int .i64 0,.slice none 0 0,.slice none 0 0,.slice none 0 0,.slice none 0 0,.map none]):=by kernel_rfl
theorem FH:gT Tryz.prog 92=some ([(0,1),(1,1),(2,1),(3,1),(4,1),(5,1),(6,1)],[.pointer none,.slice none 0 0,.int .i64 0,.int .i64 0,.map none,.map none,.slice none 0 0]):=by kernel_rfl
theorem gS:gT Tryz.prog 99=some ([(0,1),(1,1)],[.int .i64 0,.nilFunc]):=by kernel_rfl
theorem vO:Tryz.prog.underlying 106=some (.map 9 64):=by kernel_rfl
theorem jK:Tryz.prog.underlying 139=some (.slice 5):=by kernel_rfl
theorem vP:Tryz.prog.underlying 141=some (.pointer 143):=by kernel_rfl
theorem F3:Tryz.prog.underlying 169=some (.slice 71):=by kernel_rfl
theorem qG:Tryz.prog.underlying 211=some (.slice 227):=by kernel_rfl
theorem oe:Tryz.prog.underlying 22=some (.pointer 89):=by kernel_rfl
theorem vR:Tryz.prog.underlying 224=some (.int .u64):=by kernel_rfl
theorem F4:Tryz.prog.underlying 266=some (.int .u64):=by kernel_rfl
theorem og:Tryz.prog.underlying 28=some (.pointer 108):=by kernel_rfl
theorem u3:Tryz.prog.underlying 3=some (.int .i64):=by kernel_rfl
theorem kI:Tryz.prog.underlying 39=some (.slice 56):=by kernel_rfl
theorem dT:Tryz.prog.underlying 48=some (.slice 9):=by kernel_rfl
theorem u5:Tryz.prog.underlying 5=some (.int .u8):=by kernel_rfl
theorem gV:Tryz.prog.underlying 54=some (.slice 71):=by kernel_rfl
theorem u64:Tryz.prog.underlying 64=some (.slice 3):=by kernel_rfl
theorem oh:Tryz.prog.underlying 71=some (.int .u16):=by kernel_rfl
theorem om:Tryz.prog.underlying 74=some (.slice 105):=by kernel_rfl
theorem db:Tryz.prog.underlying 80=some (.map 71 3):=by kernel_rfl
theorem F5:Tryz.prog.underlying 82=some (.slice 163):=by kernel_rfl
theorem oo:Tryz.prog.underlying 83=some (.slice 54):=by kernel_rfl
theorem vT:Tryz.prog.underlying 84=some (.slice 157):=by kernel_rfl
theorem oq:Tryz.prog.underlying 85=some (.slice 155):=by kernel_rfl
theorem u9:Tryz.prog.underlying 9=some (.string):=by kernel_rfl
theorem j7:Tryz.prog.underlying 90=some (.map 9 3):=by kernel_rfl
theorem gv:Tryz.prog.underlying 94=some (.map 9 99):=by kernel_rfl
theorem vW:mG Tryz.prog 141 202 143 2=true :=by kernel_rfl
theorem Gd:(Tryz.prog.underlying 224).isSome=true :=by kernel_rfl
theorem Ge:(Tryz.prog.underlying 225).isSome=true :=by kernel_rfl
theorem kK:(Tryz.prog.underlying 3).isSome=true :=by kernel_rfl
theorem mH:(Tryz.prog.underlying 5).isSome=true :=by kernel_rfl
theorem wide:Tryz.prog.follows .mixedOrders=true :=by kernel_rfl
theorem wy:zeroOf Tryz.prog 105=some (some [.int .i64 0,.slice none 0 0]):=by kernel_rfl
theorem qR:zeroOf Tryz.prog 143=some (some [.pointer none,.slice none 0 0]):=by kernel_rfl
theorem qS:zeroOf Tryz.prog 155=some (some [.int .i64 0,.int .u16 0,.bool false,.string ⟨⟨[]⟩⟩,.string ⟨⟨[]⟩⟩,.string ⟨⟨[]⟩⟩,.slice none 0 0]):=by kernel_rfl
theorem mK:zeroOf Tryz.prog 157=some (some [.int .u16 0,.int .i64 0,.bool false,.int .i64 0,.int .i64 0]):=by kernel_rfl
theorem qT:zeroOf Tryz.prog 213=some (some [.slice none 0 0]):=by kernel_rfl
theorem GD:zeroOf Tryz.prog 22=some (some [.pointer none]):=by kernel_rfl
theorem kM:zeroOf Tryz.prog 227=some (some [.int .u64 0,.int .u64 0,.int .u64 0,.int .u64 0]):=by kernel_rfl
theorem jM:zeroOf Tryz.prog 25=some (some [.int .i64 0,.int .i64 0,.int .i64 0]):=by kernel_rfl
theorem GF:zeroOf Tryz.prog 266=some (some [.int .u64 0]):=by kernel_rfl
theorem GG:zeroOf Tryz.prog 3=some (some [.int .i64 0]):=by kernel_rfl
theorem GH:zeroOf Tryz.prog 48=some (some [.slice none 0 0]):=by kernel_rfl
theorem wz:zeroOf Tryz.prog 56=some (some [.string ⟨⟨[]⟩⟩,.slice none 0 0]):=by kernel_rfl
theorem GI:zeroOf Tryz.prog 74=some (some [.slice none 0 0]):=by kernel_rfl
theorem GJ:zeroOf Tryz.prog 81=some (some [.int .u16 0,.int .u16 0,.int .u16 0,.int .u16 0,.int .u16 0]):=by kernel_rfl
theorem wH:zeroOf Tryz.prog 87=some (some [.int .i64 0,.string ⟨⟨[]⟩⟩,.string ⟨⟨[]⟩⟩,.int .u16 0,.int .u16 0,.int .u16 0,.int .u16 0,.int .u16 0,.int .i64 0,.slice none 0 0,.slice none 0 0,.slice none 0 0,.slice none 0 0]):=by kernel_rfl
theorem GK:zeroOf Tryz.prog 9=some (some [.string ⟨⟨[]⟩⟩]):=by kernel_rfl
theorem GL:zeroOf Tryz.prog 99=some (some [.int .i64 0,.nilFunc]):=by kernel_rfl
theorem GM:zeroOf Tryz.prog 204=some (some (List.replicate 256 (.bool false))):=by kernel_rfl
theorem GN:zeroV Tryz.prog 25=some (.agg #[.int .i64 0,.int .i64 0,.int .i64 0]):=by kernel_rfl
theorem jj:zeroV Tryz.prog 3=some (.int .i64 0):=by kernel_rfl
theorem GO:zeroV Tryz.prog 5=some (.int .u8 0):=by kernel_rfl
theorem GP:zeroV Tryz.prog 64=some (.slice none 0 0):=by kernel_rfl
theorem GQ:zeroV Tryz.prog 71=some (.int .u16 0):=by kernel_rfl
theorem GR:zeroV Tryz.prog 99=some (.agg #[.int .i64 0,.nilFunc]):=by kernel_rfl
end Go.Hb.cJ
end
section
set_option maxRecDepth 20000
set_option maxHeartbeats 1000000
namespace Go.Hb.Builder
open Go.Hb.cJ
open Go.Proofs
theorem zY (b:Nat) (a:Option Addr) (i:Value) (w:World) (hb:w.heap[b]? =some (.cells [Value.pointer a,i].toArray 143 (0,0))) (hp:a=none∨a=some ⟨b,0,none⟩):
 aT Tryz.prog 87 (List.toArray [aU b]) w (fun v w'=>v= .tuple #[]∧w'.heap[b]? =some (.cells [Value.pointer (some ⟨b,0,none⟩),i].toArray 143 (0,0))∧Md (fun k=>k=b) w w'):=by
 refine enter Tryz.func87 rfl Tryz.ntmps87 rfl ?_
 refine ab (fun _ j=>(ae (aU b) (p (nc rfl) (p (fa pG rfl) (p (ld q9 rfl ((aQ hb).trans rfl)) (p (jv vP rfl rfl) (nl ?_)))))))
 refine tn (j _ _ (cb rfl (fun c=> ?_) (fun c=> ?_)))
 obtain rfl :a=none:=by simpa using c
 refine rg rfl (ae (aU b) (ae (aU b) (p (FT vW rfl hb rfl) (p (zN Ae rfl) (p (B2 vW rfl hb rfl) (p (nc rfl) (p (fa pG rfl) ?_)))))))
 refine e (c4 Ag rfl rfl rfl hb (by simp) fun w1 A s=>nl (f0 rfl ?_))
 exact ⟨rfl,s,A⟩
 obtain rfl :a=some ⟨b,0,none⟩:=hp.resolve_left (by rintro rfl; simp at c)
 refine ab (fun _ q=>(ae (aU b) (p (nc rfl) (p (fa pG rfl) (p (ld q9 rfl ((aQ hb).trans rfl)) (ae (aU b) (p (DE vP CD rfl rfl) ?_)))))))
 refine aj ((q _ _ (cf rfl (aA (f0 rfl ?_)))))
 exact ⟨rfl,hb,Md.refl _ _⟩
theorem oA (b:Nat) (i:Value) (l:List UInt8) (c:UInt8) (w:World) (hb:Bd 143 5 w b i l) (hl:l.length≤70368744177664):
 aT Tryz.prog 54 (List.toArray [aU b,.int .u8 c.toNat]) w (fun v w'=>v= .nilIface∧∃ A,Bd 143 5 w' b A (l++ [c])∧Md (BF b i) w w'∧∀ k,BF b A k→BF b i k∨w.heap.size≤k):=by
 obtain ⟨⟨ah,hbl,ad⟩,hown,hnil⟩:=hb
 have hlt:b < w.heap.size:=(Array.getElem?_eq_some_iff.1 hbl).1
 have I:∀ k,i.ownBlock=some k→k≠b∧k < w.heap.size:=fun k hk=>by have :=hown.lt k hk; exact ⟨by omega,this.2⟩
 refine enter Tryz.func54 rfl Tryz.ntmps54 rfl ?_
 refine ab (fun _ M=>(ag (((M _ _ (ab (fun _ O=>(ae (aU b) ?_))))))))
 refine e (cl y1 (zY b ah i w hbl ad) rfl fun v6 w6 hR6=> ?_)
 obtain ⟨_,G,q⟩:=hR6
 have ho1:=bA hown q (fun k hk=>(I k hk).1)
 have hs1:=q.size
 refine aj ((O _ _ (ab (fun _ U=>(ae (aU b) (ae (aU b) (p (nc rfl) (p (fa nC rfl) ?_))))))))
 refine p (ld oF rfl ((aQ G).trans rfl)) (ae (.int .u8 c.toNat) (e (gj gR rfl rfl fun ai w13 al j Z=>e (ap gR (aE ho1 j.md) rfl (by have :=j.size; omega) rfl (ak.ea Z) (rfl) (rfl) (by omega) (by omega) fun J w14 s C hz14 ac=> ?_))))
 have hb14:=C.au (Wk.au j.md G) (fun h=>(I b h).1 rfl)
 refine p (nc rfl) (p (fa nC rfl) (e (c4 Af rfl rfl (by obtain ⟨a,c,h,_⟩:=lz s; exact congrArg Value.oneCell' h) hb14 (by simp) fun w3 E aa=>aj ((U _ _ (ab (fun _ V=>(p aw ?_))))))))
 refine aj ((V _ _ (rt (f1 rfl rfl ?_))))
 have Y:∀ k,J.ownBlock=some k→k≠b:=fun k hk=>by have :=s.lt k hk; omega
 refine ⟨rfl,J,⟨⟨_,aa,.inr rfl⟩,?_,?_⟩,?_,?_⟩
 rw [List.length_append,mS]; exact bA s E (fun k hk=>Y k hk)
 rw [hz14]; simp
 refine Md.trans' (Md.trans' (Md.trans' (q.mono (fun k _ h=> .inl h)) j.md (fun _ _ h=>h.elim)) C (fun k _ h=> .inr h)) E (fun k _ h=> .inl h)
 rintro k (rfl | hk)
 exact .inl (.inl rfl)
 by_cases h:i.ownBlock=some k
 exact .inl (.inr h)
 have :=ac k hk; have h1:=q.size; have h2:=j.md.size; exact .inr (by rcases this with h3 | h3; exact absurd h3 h; omega)
theorem oc (b:Nat) (q:Value) (l:List UInt8) (w:World) (hb:Bd 143 5 w b q l) (hl:l.length≤70368744177664):
 aT Tryz.prog 55 (List.toArray [aU b]) w (fun v w'=>v=str l∧Md (fun k=>q.ownBlock=some k) w w'):=by
 obtain ⟨⟨J,hbl,G⟩,hown,hnil⟩:=hb
 obtain ⟨a,c,rfl,hcs,hle,hk,E⟩:=lz hown
 refine enter Tryz.func55 rfl Tryz.ntmps55 rfl ?_
 refine ab (fun _ s=>(ag (((s _ _ (sq (fun _ A=> ?_)))))))
 have i:(fun w'=>Md (fun k=>(Value.slice a l.length c).ownBlock=some k) w w') w.drew:=(Md.refl _ _).drew
 refine bF (fun w'=>Md (fun k=>(Value.slice a l.length c).ownBlock=some k) w w') rfl wide i (bm 0 rfl (aU b) i (aK 1 rfl (fun _ _=>nc rfl) i (aK 2 rfl (fun _ _=>fa nC rfl) i (aK 3 rfl (fun w' j=>ld oF rfl (j.ay ((aQ hbl).trans rfl) (fun h=>by have :=hown.lt _ h; omega))) i (bm 5 rfl (aU b) i (aK 6 rfl (fun _ _=>nc rfl) i (aK 7 rfl (fun _ _=>fa nC rfl) i ?_)))))))
 refine aK 8 rfl (fun w' j=>ld oF rfl (j.ay ((aQ hbl).trans rfl) (fun h=>by have :=hown.lt _ h; omega))) i (aK 9 rfl (fun _ _=>bl jK rfl rfl) i ?_)
 refine aK 4 rfl (fun _ _=>Gf (v:= .nilFunc) rfl (by
  by_cases h:l= []
  have :=hnil.2 h; simp only [Value.slice.injEq] at this; exact .inl this.1
  right; have :0 < l.length:=List.length_pos_iff.2 h; omega)) i ?_
 refine he 10 rfl (by kernel_rfl) (Gg Et rfl rfl hown rfl (by omega) fun w13 C I=> ?_)
 have p:(fun w'=>Md (fun k=>(Value.slice a l.length c).ownBlock=some k) w w') w13:=i.trans' C (fun _ _ h=>h)
 refine ⟨p,?_⟩
 exact aK 11 rfl (fun _ _=>aw) p (hn (by kernel_rfl) (tn (A _ _ (rt (f1 rfl rfl (⟨rfl,p⟩))))))
end Go.Hb.Builder
end
section
set_option maxRecDepth 20000
set_option maxHeartbeats 1000000
namespace Go.Hb.ib
open Go.Hb.cJ
open Go.Proofs
open Go.Hb.Builder
theorem g7 (b:UInt8):fS b=decide ((b.toNat:Int)=92∨(b.toNat:Int)=47∨(b.toNat:Int)=35):=by
 unfold fS; exact decide_eq_decide.2 (by omega)
theorem pC (b:UInt8):dX b=decide (32 < (b.toNat:Int)∧(b.toNat:Int)≠127):=by
 unfold dX; exact decide_eq_decide.2 (by omega)
theorem Bz {b:UInt8} (h:32 < (b.toNat:Int)) (h1:(b.toNat:Int)≠127):dX b=true :=by rw [pC]; exact decide_eq_true ⟨h,h1⟩
theorem pB {b:UInt8} (h:¬(32 < (b.toNat:Int)∧(b.toNat:Int)≠127)):dX b=false :=by rw [pC]; exact decide_eq_false h
theorem th (b:UInt8) (w:World):
 aT Tryz.prog 103 (List.toArray [.int .u8 b.toNat]) w (fun v w'=>v= .bool (dX b)∧Wk w w'):=by
 refine enter Tryz.func103 rfl Tryz.ntmps103 rfl ?_
 refine ab (fun _ c=>(ag (((c _ _ (ab (fun _ a=>(ae (.int .u8 b.toNat) ?_))))))))
 refine p (gt rfl rfl) (p mv (gs (t:=5) rfl (fun hg5=> ?_) (fun hg5=> ?_)))
 refine pg rfl rfl rfl (ao (.int .u8 b.toNat) rfl) (pg rfl rfl rfl (ej rfl rfl) (p (bu rfl) (ag (((a _ _ (rt (f1 rfl rfl ?_))))))))
 exact ⟨by show Value.bool (decide _)=_; rw [pC]; exact bv (by constructor <;> intro h <;> first | exact ⟨by omega,h⟩ | exact h.2),Md.refl _ _⟩
 refine sk rfl rfl rfl rfl (sk rfl rfl rfl rfl (p (bc rfl) (ag (((a _ _ (rt (f1 rfl rfl ?_))))))))
 exact ⟨by show Value.bool false =_; rw [pB (by omega)],Md.refl _ _⟩
theorem uy (b:UInt8) (w:World):
 aT Tryz.prog 53 (List.toArray [.int .u8 b.toNat]) w (fun v w'=>v= .bool (fS b)∧Wk w w'):=by
 refine enter Tryz.func53 rfl Tryz.ntmps53 rfl ?_
 refine ab (fun _ s=>(ag (((s _ _ (sq (fun _ j=>ab (fun _ A=> ?_))))))))
 refine ae (.int .u8 b.toNat) (aj ((A _ _ (au (sq (fun _ q=>ab (fun _ C=>(p (bo rfl rfl) ?_))))))))
 refine ag (((C _ _ (cd rfl (fun a=> ?_) (fun a=> ?_)))))
 refine aA (tn (q _ _ (cd rfl (fun a=> ?_) (fun a=> ?_))))
 refine ab (fun _ i=>(ag (((i _ _ (rt (br (tr ?_))))))))
 refine f1 rfl rfl ?_
 first | exact ⟨by show Value.bool true =_; rw [g7,decide_eq_true (by omega)],Md.refl _ _⟩ | exact ⟨by show Value.bool false =_; rw [g7,decide_eq_false (by omega)],Md.refl _ _⟩
 refine aA (bn (tn (j _ _ (ab (fun _ i=>(ag (((i _ _ ?_)))))))))
 refine rt (f1 rfl rfl ?_)
 first | exact ⟨by show Value.bool true =_; rw [g7,decide_eq_true (by omega)],Md.refl _ _⟩ | exact ⟨by show Value.bool false =_; rw [g7,decide_eq_false (by omega)],Md.refl _ _⟩
 refine ab (fun _ i=>(p (bo rfl rfl) (ag (((i _ _ (cd rfl (fun a=> ?_) (fun a=> ?_))))))))
 refine aA (tn (q _ _ (cd rfl (fun a=> ?_) (fun a=> ?_))))
 refine ab (fun _ c=>(ag (((c _ _ (rt (br (tr ?_))))))))
 refine f1 rfl rfl ?_
 first | exact ⟨by show Value.bool true =_; rw [g7,decide_eq_true (by omega)],Md.refl _ _⟩ | exact ⟨by show Value.bool false =_; rw [g7,decide_eq_false (by omega)],Md.refl _ _⟩
 refine aA (bn (tn (j _ _ (ab (fun _ c=>(ag (((c _ _ ?_)))))))))
 refine rt (f1 rfl rfl ?_)
 first | exact ⟨by show Value.bool true =_; rw [g7,decide_eq_true (by omega)],Md.refl _ _⟩ | exact ⟨by show Value.bool false =_; rw [g7,decide_eq_false (by omega)],Md.refl _ _⟩
 refine rg rfl (p (bo rfl rfl) (ag (((q _ _ (cd rfl (fun a=> ?_) (fun a=> ?_)))))))
 refine ab (fun _ c=>(ag (((c _ _ (rt (br (tr ?_))))))))
 refine f1 rfl rfl ?_
 first | exact ⟨by show Value.bool true =_; rw [g7,decide_eq_true (by omega)],Md.refl _ _⟩ | exact ⟨by show Value.bool false =_; rw [g7,decide_eq_false (by omega)],Md.refl _ _⟩
 refine aA (bn (tn (j _ _ (ab (fun _ c=>(ag (((c _ _ ?_)))))))))
 refine rt (f1 rfl rfl ?_)
 first | exact ⟨by show Value.bool true =_; rw [g7,decide_eq_true (by omega)],Md.refl _ _⟩ | exact ⟨by show Value.bool false =_; rw [g7,decide_eq_false (by omega)],Md.refl _ _⟩
theorem wc (s:List UInt8) (w:World) (hs:s.length≤1048576):
 aT Tryz.prog 74 (List.toArray [str s]) w (fun v w'=>v= .bool (eX s)∧Wk w w'):=by
 refine enter Tryz.func74 rfl Tryz.ntmps74 rfl ?_
 refine ab (fun _ J=>(ag (((J _ _ (sq (fun _ U=>ab (fun _ E=> ?_))))))))
 refine ae (str s) (p (e7 rfl rfl) (p mv (gs (t:=6) rfl (fun hg6=> ?_) (fun hg6=> ?_))))
 refine sk rfl rfl rfl rfl (sk rfl rfl rfl rfl (sk rfl rfl rfl rfl (p (bu rfl) (aj ((E _ _ (ct rfl (sq (fun _ a=> ?_)))))))))
 exact rg rfl (ag (((a _ _ (rt (tr (f1 rfl rfl (⟨by show Value.bool false =_; unfold eX; rw [decide_eq_false (by rw [hg6]; simp)],Md.refl _ _⟩))))))))
 refine pg rfl rfl rfl (ao (str s) rfl) (pg rfl rfl rfl (bV u9 rfl rfl) (pg rfl rfl rfl (gt rfl rfl) (p (bc rfl) (aj ((E _ _ (cd rfl (fun hc10=> ?_) (fun hc10=> ?_))))))))
 refine ab (fun _ a=>(ag (((a _ _ (rt (tr (f1 rfl rfl ?_))))))))
 exact ⟨by show Value.bool false =_; unfold eX; rw [decide_eq_false (by omega)],Md.refl _ _⟩
 refine aA (tn (U _ _ (sq (fun _ a=>ab (fun _ V=>(ae (str s) (p (bV u9 rfl rfl) (p mv ?_))))))))
 refine aj ((V _ _ (au (lp (fun G c wI=> ∃ (i:Nat),(i≤s.length∧1≤s.length∧s.length≤64)∧(∀ j,j < i→dX (s.getD j 0)=true)∧(Wk w wI)∧(c 0=str s)∧(c 12= .int .i64 s.length)∧(c 13= .int .i64 i)∧(s.length - i=G)) _ ⟨0,(⟨by omega,by rcases Nat.eq_zero_or_pos s.length with h | h <;> first | exact absurd (List.length_eq_zero_iff.1 h) hg6 | exact h,by omega⟩),((fun j hj=>by omega)),(Md.refl _ _),rfl,rfl,rfl,rfl⟩ ?_))))
 rintro G c wI ⟨i,hi,hp,A,ai,ak,al,rfl⟩
 refine fx 0 ai (fx 12 ak (fx 13 al (ab (fun _ Y=>(p (lt rfl rfl) (aj ((Y _ _ (sq (fun _ Z=>cd rfl (fun ah=> ?_) (fun ah=> ?_)))))))))))
 refine aA (tn (Z _ _ (sq (fun _ q=>au (ab (fun _ aa=>(ae (.int .i64 i) (p (bw (.int .i64 i) rfl) ?_))))))))
 refine aj ((aa _ _ (ab (fun _ M=>(ae (str s) (ae (.int .i64 i) (p (eY u9 rfl rfl (by omega)) (e (cl rL (th (s.getD i 0) _) rfl fun am w19 ac=> ?_)))))))))
 obtain ⟨rfl,I⟩:=ac
 refine p (no rfl) (aj ((M _ _ (cb rfl (fun C=> ?_) (fun C=> ?_)))))
 have hx:dX (s.getD i 0)=false :=by simpa using C
 refine ab (fun _ O=>(ag (((O _ _ (rt (br (tr ?_))))))))
 exact tr (br (tr (f1 rfl rfl (⟨by show Value.bool false =_; unfold eX; rw [kZ (i:=i) (by omega) hx,decide_eq_false (by simp)],Md.trans A I⟩))))
 have hx:dX (s.getD i 0)=true :=by simpa using C
 refine aA (bn (tn (q _ _ (rg rfl (p (ad rfl rfl (bp (by omega))) (p mv (nl (tn ?_))))))))
 exact ⟨_,by omega,i+1,(by omega),((fun j hj=>by rcases Nat.lt_or_ge j i with h | h <;> first | exact hp j h | (rw [show j=i by omega]; exact hx))),(Md.trans A I),rfl,rfl,rfl,rfl⟩
 refine ext (te _ (te _ (be (tn (a _ _ (ab (fun _ q=>(p aw ?_))))))))
 exact aj ((q _ _ (rt (f1 rfl rfl (⟨by show Value.bool true =_; unfold eX; rw [lW (fun j hj=>hp j (by omega)),decide_eq_true ⟨hi.2.1,hi.2.2,rfl⟩],A⟩)))))
theorem GA (s:List UInt8) (w:World) (hs:s.length≤1048576):
 aT Tryz.prog 28 (List.toArray [str s]) w (fun v w'=>v=str (bP s)∧Wk w w'):=by
 refine enter Tryz.func28 rfl Tryz.ntmps28 rfl ?_
 refine ab (fun _ V=>(ag (((V _ _ (ab (fun _ Y=>(e (fK qR fun a w3 aN ax an=> ?_)))))))))
 refine aj ((Y _ _ (sq (fun _ Z=>ab (fun _ aa=>(ae (str s) (p (bV u9 rfl rfl) (p mv ?_))))))))
 refine aj ((aa _ _ (au (lp (fun O A wI=> ∃ (i:Nat) (j:Value),(i≤s.length)∧(Bd 143 5 wI a j (bP (s.take i)))∧(Wk w wI)∧(A 0=str s)∧(A 3=aU a)∧(A 6= .int .i64 s.length)∧(A 7= .int .i64 i)∧(s.length - i=O)) _ ⟨0,.slice none 0 0,(by omega),(Bd.new an),ax.md,rfl,rfl,rfl,rfl,rfl⟩ ?_))))
 rintro O A wI ⟨i,j,hi,G,I,aE,aF,aG,aH,rfl⟩
 refine fx 0 aE (fx 3 aF (fx 6 aG (fx 7 aH (ab (fun _ ac=>(p (lt rfl rfl) (aj ((ac _ _ (sq (fun _ ah=>cd rfl (fun hc8=> ?_) (fun hc8=> ?_))))))))))))
 refine aA (tn (ah _ _ (sq (fun _ C=>au (ab (fun _ ai=>(ae (.int .i64 i) (p (bw (.int .i64 i) rfl) ?_))))))))
 refine aj ((ai _ _ ?_))
 refine dm (fun c wC=> ∃ (E:Value) (q:List UInt8),(q.length≤2 *i+1)∧(Bd 143 5 wC a E q)∧(Wk w wC)∧(q++ [s.getD i 0]=bP (s.take (i+1)))∧(c 0=str s)∧(c 3=aU a)∧(c 4= .int .i64 i)∧(c 6= .int .i64 s.length)∧(c 7= .int .i64 i)) ?_ ?_
 refine ab (fun _ ak=>(ae (str s) (ae (.int .i64 i) (p (eY u9 rfl rfl (by omega)) (e (cl r6 (uy (s.getD i 0) _) rfl fun aR w13 ay=> ?_))))))
 obtain ⟨rfl,J⟩:=ay
 have hBd13:=G.md J (fun _ _ h=>h)
 have hwl:=oB (s.take i)
 rw [List.length_take] at hwl
 refine aj ((ak _ _ (cb rfl (fun M=> ?_) (fun M=> ?_))))
 refine rg rfl (e (cl na (oA a j (bP (s.take i)) (92) _ hBd13 (by omega)) rfl fun aS w14 az=> ?_))
 obtain ⟨rfl,al,ao,ar,aO⟩:=az
 exact aj ((⟨al,bP (s.take i)++ [92],((by rw [List.length_append,List.length_singleton]; omega)),ao,(hBd13.step (Md.trans I J) ar (by omega)),((by rw [wx (by omega),if_pos M,List.append_assoc]; rfl)),rfl,rfl,rfl,rfl,rfl⟩))
 exact aA (tn (⟨j,bP (s.take i),(by omega),hBd13,(Md.trans I J),((by rw [wx (by omega),if_neg (by rw [M]; exact Bool.noConfusion)])),rfl,rfl,rfl,rfl,rfl⟩))
 rintro c wC ⟨E,q,aQ,U,aq,aD,aI,aJ,aK,aL,aM⟩
 refine fx 0 aI (fx 3 aJ (fx 4 aK (fx 6 aL (fx 7 aM (rg rfl (ae (str s) (ae (.int .i64 i) (p (eY u9 rfl rfl (by omega)) (e (cl na (oA a E (q) (s.getD i 0) _ U (by omega)) rfl fun aV w18 aB=> ?_))))))))))
 obtain ⟨rfl,am,ap,av,aP⟩:=aB
 refine nl (bn (tn (C _ _ (rg rfl (p (ad rfl rfl (bp (by omega))) (p mv (nl (tn ?_))))))))
 exact ⟨_,by omega,i+1,am,(by omega),((by rw [← aD]; exact ap)),(U.step aq av (by omega)),rfl,rfl,rfl,rfl,rfl⟩
 refine ext (te _ (te _ (be (tn (Z _ _ (ab (fun _ C=>(e (cl nb (oc a j (bP (s.take i)) _ G (by have :=oB (s.take i); rw [List.length_take] at this; omega)) rfl fun v20 w20 aC=> ?_)))))))))
 obtain ⟨rfl,aw⟩:=aC
 exact ag (((C _ _ (rt (f1 rfl rfl (⟨by show str (bP (s.take i))=_; rw [show s.take i=s from List.take_of_length_le (by omega)],G.oa I aw (by omega)⟩))))))
theorem qO (s:List UInt8) (w:World) (hs:s.length≤1048576):
 aT Tryz.prog 73 (List.toArray [str s]) w (fun v w'=>v=Ex (aW s)∧Wk w w'):=by
 refine enter Tryz.func73 rfl Tryz.ntmps73 rfl ?_
 refine ab (fun _ ah=>(p aw (p aw (p aw (ag (((ah _ _ ?_))))))))
 refine ab (fun _ an=>(e (fK qR fun a w6 hb6 aF hB6=>aj ((an _ _ (sq (fun _ ap=>ab (fun _ aq=> ?_))))))))
 refine ag (((aq _ _ (au (lp (fun aa E wI=> ∃ (i:Nat) (acc:List UInt8) (c:Value),(i≤s.length∧acc.length≤i)∧(Bd 143 5 wI a c acc)∧(Wk w wI)∧(ec acc (s.drop i)=aW s)∧(E 0=str s)∧(E 6=aU a)∧(E 7= .int .i64 i)∧(s.length - i=aa)) _ ⟨0,[],.slice none 0 0,(by simp),(Bd.new hB6),aF.md,rfl,rfl,rfl,rfl,rfl⟩ ?_)))))
 rintro aa E wI ⟨i,acc,c,hi,j,q,hd,aS,aV,aX,rfl⟩
 refine fx 0 aS (fx 6 aV (fx 7 aX (sq (fun _ ar=>ab (fun _ av=>(ae (.int .i64 i) (ae (str s) (p (bV u9 rfl rfl) (p (lt rfl rfl) ?_)))))))))
 refine aj ((av _ _ (cd rfl (fun aN=> ?_) (fun aN=> ?_))))
 refine aA (tn (ar _ _ (sq (fun _ M=>au (ab (fun _ ax=>(ae (str s) (ae (.int .i64 i) ?_))))))))
 refine p (eY u9 rfl rfl (by omega)) (aj ((ax _ _ (au ?_))))
 refine dm (fun G wC=> ∃ (k:Nat),(k < s.length∧i≤k∧k≤i+1)∧(Bd 143 5 wC a c acc)∧(Wk w wC)∧(ec (acc++ [s.getD k 0]) (s.drop (k+1))=aW s)∧(G 0=str s)∧(G 6=aU a)∧(G 7= .int .i64 k)) ?_ ?_
 refine au (sq (fun _ O=>au (sq (fun _ ai=>au (sq (fun _ ak=>sq (fun _ al=>sq (fun _ am=> ?_))))))))
 refine rg rfl (p (bo rfl rfl) (ag (((am _ _ (cd rfl (fun aO=> ?_) (fun aO=> ?_)))))))
 have aM:(s.getD i 0).toNat=47:=by omega
 refine ext (te _ (te _ (be (tn (ai _ _ (sq (fun _ Y=>sq (fun _ I=> ?_))))))))
 have A:(fun w'=>True) wI.drew:=trivial
 refine bF (fun w'=>True) rfl wide A (bm 1 rfl (str s) A (bm 2 rfl (.int .i64 i) A (aK 3 rfl (fun _ _=>a8 ((i+1:Nat):Int) rfl rfl (aI (by omega) (by omega))) A (aK 4 rfl (fun _ _=>j6 u9 rfl rfl (by omega)) A (he 0 rfl (by kernel_rfl) (cl nb (oc a c acc _ (j.md (Md.refl (fun _=>False) _).drew (fun _ _ h=>h)) (by omega)) rfl fun a2 w21 aG=> ?_))))))
 obtain ⟨rfl,aC⟩:=aG
 have C:(fun w'=>True) w21:=trivial
 refine ⟨C,?_⟩
 refine aK 5 rfl (fun _ _=>aw) C (aK 6 rfl (fun _ _=>aw) C (aK 7 rfl (fun _ _=>aw) C (aK 8 rfl (fun _ _=>aw) C (hn (by kernel_rfl) (tn (I _ _ (rt (tr ?_))))))))
 refine br (tr (br (tr (br (br (tr (tr ?_)))))))
 refine br (tr (f4 rfl rfl rfl rfl rfl ?_))
 skip
 exact ⟨by rw [← hd,drop_cons 0 (by omega :i < s.length),wq aM]; rfl,j.oa q (Md.trans (Md.refl _ _).drew aC) (by omega)⟩
 refine aA (tn (al _ _ (ab (fun _ Y=>(p (bo rfl rfl) (ag (((Y _ _ ?_)))))))))
 refine cd rfl (fun aP=> ?_) (fun aP=> ?_)
 have U:(s.getD i 0).toNat=92:=by omega
 refine ext (te _ (iN (by decide) (te _ (be (tn (O _ _ (ab (fun _ I=> ?_))))))))
 refine ae (.int .i64 i) (p (a8 ((i+1:Nat):Int) rfl rfl (aI (by omega) (by omega))) (ag (((I _ _ (ab (fun _ Z=>(p mv ?_))))))))
 refine ae (str s) (p (bV u9 rfl rfl) (p (bo rfl rfl) (p mv (gs (t:=32) rfl (fun aR=> ?_) (fun aR=> ?_)))))
 refine sk rfl rfl rfl rfl (sk rfl rfl rfl rfl (sk rfl rfl rfl rfl (sk rfl rfl rfl rfl (sk rfl rfl rfl rfl (p (bu rfl) (aj ((Z _ _ ?_))))))))
 refine ct rfl (ab (fun _ J=>(p aw (p aw (p aw (p aw (nl ?_)))))))
 refine tn (J _ _ (rt (br (tr (br (br (tr (tr ?_))))))))
 refine br (tr (f4 rfl rfl rfl rfl rfl ?_))
 exact ⟨by rw [← hd,drop_cons 0 (by omega :i < s.length),List.drop_eq_nil_of_le (by omega),wm U]; rfl,q⟩
 refine pg rfl rfl rfl (ao (str s) rfl) (pg rfl rfl rfl mv (pg rfl rfl rfl (eY u9 rfl rfl (by omega)) (eg rfl rfl rfl (cl r6 (uy (s.getD (i+1) 0) _) rfl fun a3 w36 aH=> ?_))))
 obtain ⟨rfl,hE36⟩:=aH
 refine pg rfl rfl rfl (no rfl) (p (bc rfl) (aj ((Z _ _ (cb rfl (fun V=> ?_) (fun V=> ?_))))))
 refine ab (fun _ J=>(p aw (p aw (p aw (ag (((J _ _ ?_))))))))
 refine rt (br (tr (br (br (tr (tr (br ?_)))))))
 refine tr (f4 rfl rfl rfl rfl rfl ?_)
 exact ⟨by rw [← hd,drop_cons 0 (by omega :i < s.length),drop_cons 0 (by omega :i+1 < s.length),wo U (by simpa using V)]; rfl,Md.trans q hE36⟩
 exact aA (bn (tn (⟨i+1,(by omega),(j.md hE36 (fun _ _ h=>h)),(Md.trans q hE36),((by rw [← hd,drop_cons 0 (by omega :i < s.length),drop_cons 0 (by omega :i+1 < s.length),qM U (by simpa using V)])),rfl,rfl,rfl⟩)))
 refine aA (tn (ak _ _ (ext (iN (by decide) (te _ (iN (by decide) (te _ (be ?_))))))))
 exact tn (⟨i,(by omega),j,q,((by rw [← hd,drop_cons 0 (by omega :i < s.length),qN (by omega) (by omega)])),rfl,rfl,rfl⟩)
 rintro G wC ⟨k,hk,ac,aB,aQ,aY,aZ,a0⟩
 refine fx 0 aY (fx 6 aZ (fx 7 a0 (ab (fun _ O=>(ae (str s) (ae (.int .i64 k) (p (eY u9 rfl rfl (by omega)) (e (cl na (oA a c (acc) (s.getD k 0) _ ac (by omega)) rfl fun a4 w42 aJ=> ?_)))))))))
 obtain ⟨rfl,ay,az,aD,a1⟩:=aJ
 refine aj ((O _ _ (ext (be (bn (tn (M _ _ (rg rfl (ae (.int .i64 k) ?_)))))))))
 exact p (ad rfl rfl (bp (by omega))) (ag (((⟨_,by omega,k+1,acc++ [s.getD k 0],ay,(by rw [List.length_append,List.length_singleton]; omega),az,(ac.step aB aD (by omega)),aQ,rfl,rfl,rfl,rfl⟩))))
 refine ext (te _ (te _ (be (tn (ap _ _ (ab (fun _ M=>(e (cl nb (oc a c acc _ j (by omega)) rfl fun a5 w43 aL=> ?_)))))))))
 obtain ⟨rfl,aE⟩:=aL
 refine p aw (p aw (p aw (ag (((M _ _ (rt (f4 rfl rfl rfl rfl rfl ?_))))))))
 exact ⟨by rw [← hd,List.drop_eq_nil_of_le (by omega),mJ]; rfl,j.oa q aE (by omega)⟩
theorem Db (s:List UInt8) (w:World) (hs:s.length≤1048576):
 aT Tryz.prog 95 (List.toArray [str s]) w (fun v w'=>v= .tuple #[str (letE s).1,.int .i64 (letE s).2]∧Wk w w'):=by
 refine enter Tryz.func95 rfl Tryz.ntmps95 rfl ?_
 refine ab (fun _ ak=>(p aw (ag (((ak _ _ (ab (fun _ aq=> ?_))))))))
 refine e (al GM fun J w4 aR E Y=> ?_)
 have hB4x:a9 w4.heap J (marksOf []):=by rw [Dt]; exact Y
 refine aj ((aq _ _ (sq (fun _ ar=>ab (fun _ av=>(ae (str s) (p (e7 rfl rfl) (nl ?_))))))))
 refine tn (av _ _ (cd rfl (fun hc8=> ?_) (fun hc8=> ?_)))
 refine ab (fun _ I=>(p aw (ag (((I _ _ (rt (tr ?_))))))))
 exact f2 rfl rfl rfl (⟨by show Value.tuple #[str [],.int .i64 21]=_; unfold letE; rw [if_pos (.inl hc8)]; rfl,E.md⟩)
 refine aA (tn (ar _ _ (ab (fun _ I=>(e (fK qR fun C w5 hb5 ai aE=>aj ((I _ _ (sq (fun _ ax=> ?_))))))))))
 refine ab (fun _ ay=>(ae (str s) (p (bV u9 rfl rfl) (p mv (aj ((ay _ _ (au ?_))))))))
 have hb4l:=Y.lt
 refine lp (fun V a wI=> ∃ (i:Nat) (c:Value),(i≤s.length)∧(∀ j,j < i→dX (s.getD j 0)=true)∧(a9 wI.heap J (marksOf (lets (s.take i))))∧(Bd 143 5 wI C c (lets (s.take i)))∧(Wk w wI)∧(a 0=str s)∧(a 4=aU J)∧(a 5=aU C)∧(a 10= .int .i64 s.length)∧(a 11= .int .i64 i)∧(s.length - i=V)) _ ⟨0,.slice none 0 0,(by omega),((fun j hj=>by omega)),(ai.md.B hB4x),(Bd.new aE),(Md.trans E.md ai.md),rfl,rfl,rfl,rfl,rfl,rfl⟩ ?_
 rintro V a wI ⟨i,c,hi,hp,ah,M,O,aM,aP,aQ,aN,aO,rfl⟩
 refine fx 0 aM (fx 4 aP (fx 5 aQ (fx 10 aN (fx 11 aO ?_))))
 have hll:=uq (s.take i)
 rw [List.length_take] at hll
 have hbl4:=ah.lt
 refine ab (fun _ az=>(p (lt rfl rfl) (aj ((az _ _ (sq (fun _ aB=>cd rfl (fun aL=> ?_) (fun aL=> ?_))))))))
 refine aA (tn (aB _ _ (sq (fun _ A=>au (ab (fun _ am=>(ae (.int .i64 i) (p (bw (.int .i64 i) rfl) ?_))))))))
 refine aj ((am _ _ (sq (fun _ an=>ab (fun _ ao=>(ae (str s) (ae (.int .i64 i) (p (eY u9 rfl rfl (by omega)) ?_))))))))
 refine e (cl rL (th (s.getD i 0) _) rfl fun aV w17 aI=> ?_)
 obtain ⟨rfl,hE17⟩:=aI
 refine p (no rfl) (aj ((ao _ _ (cb rfl (fun hc18=> ?_) (fun hc18=> ?_)))))
 have hx:dX (s.getD i 0)=false :=by simpa using hc18
 refine ab (fun _ G=>(p aw (ag (((G _ _ (rt (tr ?_))))))))
 exact br (tr (tr (br (tr (f2 rfl rfl rfl (⟨by show Value.tuple #[str [],.int .i64 21]=_; unfold letE; rw [if_pos (.inr (kZ (by omega) hx))]; rfl,Md.trans O hE17⟩))))))
 have hx:dX (s.getD i 0)=true :=by simpa using hc18
 have Z:Wk w w17:=Md.trans O hE17
 have hB17:=hE17.B ah
 have hBd17:=M.md hE17 (fun _ _ h=>h)
 have hsz17:=hE17.size
 refine aA (tn (an _ _ (ab (fun _ G=>(ae (str s) (ae (.int .i64 i) (p (eY u9 rfl rfl (by omega)) (p (iu rz rfl rfl (by have :=UInt8.toNat_lt (s.getD i 0); omega)) ?_))))))))
 refine p (ld ra rfl (Dv hB17 _)) (p (no rfl) (aj ((G _ _ (cb rfl (fun U=> ?_) (fun U=> ?_))))))
 have q:¬s.getD i 0∈lets (s.take i):=of_decide_eq_false (by simpa using U)
 refine ab (fun _ ap=>(ae (str s) (ae (.int .i64 i) (p (eY u9 rfl rfl (by omega)) (p (iu rz rfl rfl (by have :=UInt8.toNat_lt (s.getD i 0); omega)) (e (st sB rfl rfl (rfl) (hB17) (by rw [uz]; have :=UInt8.toNat_lt (s.getD i 0); omega) fun wt11_4 aa aD=> ?_)))))))
 have hMk11:=Dw aD
 have aG:Wk w wt11_4:=Md.trans' Z aa (fun k hk h=>by omega)
 have hBd11:=hBd17.md aa (fun k hk h=>by have :=hBd17.eB hk; omega)
 refine aj ((ap _ _ (rg rfl (ae (str s) (ae (.int .i64 i) (p (eY u9 rfl rfl (by omega)) (e (cl na (oA C c (lets (s.take i)) (s.getD i 0) _ hBd11 (by omega)) rfl fun aW aY aJ=> ?_))))))))
 obtain ⟨rfl,aC,aF,ac,aS⟩:=aJ
 refine nl (bn (tn (A _ _ (rg rfl (p (ad rfl rfl (bp (by omega))) (p mv (nl (tn ?_))))))))
 exact ⟨_,by omega,i+1,aC,(by omega),((fun j hj=>by rcases Nat.lt_or_ge j i with h | h <;> first | exact hp j h | (rw [show j=i by omega]; exact hx))),((by rw [nK (by omega),if_neg q]; exact ac.B hMk11 (fun h=>by have :=hBd11.eB h; omega))),((by rw [nK (by omega),if_neg q]; exact aF)),(hBd11.step aG ac (by have :=E.md.size; omega)),rfl,rfl,rfl,rfl,rfl,rfl⟩
 have q:s.getD i 0∈lets (s.take i):=by simpa using U
 refine aA (bn (tn (A _ _ (rg rfl (p (ad rfl rfl (bp (by omega))) (p mv (nl (tn ?_))))))))
 exact ⟨_,by omega,i+1,c,(by omega),((fun j hj=>by rcases Nat.lt_or_ge j i with h | h <;> first | exact hp j h | (rw [show j=i by omega]; exact hx))),((by rw [nK (by omega),if_pos q]; exact hB17)),((by rw [nK (by omega),if_pos q]; exact hBd17)),Z,rfl,rfl,rfl,rfl,rfl,rfl⟩
 refine ext (te _ (te _ (be (tn (ax _ _ (ab (fun _ A=>(e (cl nb (oc C c (lets (s.take i)) _ M (by have :=uq (s.take i); rw [List.length_take] at this; omega)) rfl fun aX aZ aK=> ?_)))))))))
 obtain ⟨rfl,aH⟩:=aK
 exact p aw (ag (((A _ _ (rt (f2 rfl rfl rfl (⟨by show Value.tuple #[str (lets (s.take i)),.int .i64 0]=_; unfold letE; rw [if_neg (by rw [lW (fun j hj=>hp j (by omega))]; exact fun h=>h.elim hc8 Bool.noConfusion),show s.take i=s from List.take_of_length_le (by omega)]; rfl,M.oa O aH (by have :=E.md.size; omega)⟩)))))))
end Go.Hb.ib
end
section
set_option maxRecDepth 20000
set_option maxHeartbeats 1000000
namespace Go.Hb.gX
open Go.Hb.cJ
open Go.Proofs
theorem tS {s:List UInt8} (h:¬s= []) (h1:¬(1 < s.length∧(s.getD 0 0).toNat=48)):¬jY s:=fun hz=>hz.elim h h1
theorem Er {s:List UInt8} (h:¬jY s):0 < s.length:=List.length_pos_iff.2 (fun e=>h (.inl e))
theorem nP (s:List UInt8) (most:Int) (w:World) (hs:s.length≤1048576) (hm: -9223372036854775808≤most∧most≤9223372036854775807):
 aT Tryz.prog 68 (List.toArray [str s,.int .i64 most]) w (fun v w'=>v= .tuple #[.int .i64 (dv s most).1,.int .i64 (dv s most).2]∧Wk w w'):=by
 refine enter Tryz.func68 rfl Tryz.ntmps68 rfl ?_
 refine ab (fun _ O=>(p aw (ag (((O _ _ ?_))))))
 refine dm (fun I G=>(¬jY s)∧(G=w)∧(I 0=str s)∧(I 1= .int .i64 most)) ?_ ?_
 refine ab (fun _ q=>(ae (str s) (p (e7 rfl rfl) (p mv (gs (t:=11) rfl (fun hg11=> ?_) (fun hg11=> ?_))))))
 refine sk rfl rfl rfl rfl (sk rfl rfl rfl rfl (sk rfl rfl rfl rfl (sk rfl rfl rfl rfl (lD rfl rfl rfl (lD rfl rfl rfl (lD rfl rfl rfl (sk rfl rfl rfl rfl ?_)))))))
 refine p (bu rfl) (aj ((q _ _ (ct rfl (ab (fun _ A=>(p aw (p aw ?_))))))))
 exact aj ((A _ _ (rt (tr (f2 rfl rfl rfl (⟨by show Value.tuple #[.int .i64 0,.int .i64 13]=_; rw [uJ (.inl hg11)]; rfl,Md.refl _ _⟩))))))
 refine pg rfl rfl rfl (ao (str s) rfl) (pg rfl rfl rfl (bV u9 rfl rfl) (pg rfl rfl rfl (gt rfl rfl) (pg rfl rfl rfl mv (gs (t:=15) rfl (fun aq=> ?_) (fun aq=> ?_)))))
 refine pg rfl rfl rfl (ao (str s) rfl) (pg rfl rfl rfl (iw 0 u9 rfl rfl (by omega)) (pg rfl rfl rfl (bo rfl rfl) (pg rfl rfl rfl (bu rfl) (p (bc rfl) (aj ((q _ _ (cd rfl (fun al=> ?_) (fun al=> ?_)))))))))
 refine ab (fun _ A=>(p aw (ag (((A _ _ (rt (tr ?_))))))))
 exact f2 rfl rfl rfl (⟨by show Value.tuple #[.int .i64 0,.int .i64 13]=_; rw [uJ (.inr ⟨by omega,by omega⟩)]; rfl,Md.refl _ _⟩)
 have hh:=tS (s:=s) hg11 (by omega)
 exact aA (tn (⟨hh,rfl,rfl,rfl⟩))
 refine sk rfl rfl rfl rfl (sk rfl rfl rfl rfl (sk rfl rfl rfl rfl (pg rfl rfl rfl (bc rfl) (p (bc rfl) (aj ((q _ _ (cf rfl ?_))))))))
 exact aA (tn (⟨(tS (s:=s) hg11 (by omega)),rfl,rfl,rfl⟩))
 rintro I G ⟨hh,ai,ay,az⟩
 refine fx 0 ay (fx 1 az ?_)
 subst ai
 have hp:=Er hh
 refine ab (fun _ q=>(ag (((q _ _ (sq (fun _ A=>ab (fun _ Y=> ?_))))))))
 refine ae (str s) (p (bV u9 rfl rfl) (p mv (aj ((Y _ _ (au (lp (fun J c wI=> ∃ (i:Nat),(i≤s.length)∧(wI=G)∧((c6 (s.take i):Int)≤max 0 most∧(0 < i→(c6 (s.take i):Int)≤most))∧(∀ j,j < i→l2 (s.getD j 0)=true)∧(c 0=str s)∧(c 1= .int .i64 most)∧(c 6=U (c6 (s.take i)))∧(c 22= .int .i64 s.length)∧(c 23= .int .i64 i)∧(s.length - i=J)) _ ⟨0,(by omega),rfl,((by rw [List.take_zero]; show (0:Int)≤_∧_; omega)),((fun j hj=>by omega)),rfl,rfl,(iv (by first | rfl | (rw [l1 (by omega)]))),rfl,rfl,rfl⟩ ?_)))))))
 rintro J c wI ⟨i,hi,ak,hn,M,aB,aC,aF,aD,aE,rfl⟩
 refine fx 0 aB (fx 1 aC (fx 6 aF (fx 22 aD (fx 23 aE ?_))))
 subst ak
 have hb8:=UInt8.toNat_lt (s.getD i 0)
 refine ab (fun _ Z=>(p (lt rfl rfl) (aj ((Z _ _ (sq (fun _ aa=>cd rfl (fun am=> ?_) (fun am=> ?_))))))))
 refine aA (tn (aa _ _ (sq (fun _ E=>au (ab (fun _ ac=>(ae (.int .i64 i) (p (bw (.int .i64 i) rfl) ?_))))))))
 refine aj ((ac _ _ (ab (fun _ ah=>(ae (str s) (ae (.int .i64 i) (p (eY u9 rfl rfl (by omega)) (p (o6 u3 mH rfl (bp (by omega))) ?_))))))))
 refine p (sb rfl rfl (bp (by omega))) (ag (((ah _ _ (sq (fun _ V=>ab (fun _ C=>(p mv ?_))))))))
 refine p (lt rfl rfl) (p mv (gs (t:=33) rfl (fun ar=> ?_) (fun ar=> ?_)))
 refine sk rfl rfl rfl rfl (sk rfl rfl rfl rfl (p (bu rfl) (p mv (sk rfl rfl rfl rfl (sk rfl rfl rfl rfl (sk rfl rfl rfl rfl (p (bu rfl) ?_)))))))
 refine p mv (sk rfl rfl rfl rfl (sk rfl rfl rfl rfl (sk rfl rfl rfl rfl (sk rfl rfl rfl rfl (sk rfl rfl rfl rfl (sk rfl rfl rfl rfl (p (bu rfl) ?_)))))))
 refine aj ((C _ _ (ct rfl (ab (fun _ a=>(p aw (p aw (nl ?_))))))))
 refine tn (a _ _ (rt (tr (br (tr (tr (br (tr ?_))))))))
 exact f2 rfl rfl rfl (⟨by show Value.tuple #[.int .i64 0,.int .i64 13]=_; rw [uI (i:=i) (by omega) (sR (by omega))]; rfl,Md.refl _ _⟩)
 refine pg rfl rfl rfl mv (pg rfl rfl rfl (gt rfl rfl) (p (bc rfl) (p mv (gs (t:=37) rfl (fun av=> ?_) (fun av=> ?_)))))
 refine sk rfl rfl rfl rfl (sk rfl rfl rfl rfl (sk rfl rfl rfl rfl (p (bu rfl) (p mv (sk rfl rfl rfl rfl (sk rfl rfl rfl rfl (sk rfl rfl rfl rfl ?_)))))))
 refine sk rfl rfl rfl rfl (sk rfl rfl rfl rfl (sk rfl rfl rfl rfl (p (bu rfl) (aj ((C _ _ (ct rfl (sq (fun _ a=> ?_)))))))))
 refine rg rfl (p aw (ag (((a _ _ (rt (tr (br ?_))))))))
 exact tr (tr (br (tr (f2 rfl rfl rfl (⟨by show Value.tuple #[.int .i64 0,.int .i64 13]=_; rw [uI (i:=i) (by omega) (sR (by omega))]; rfl,Md.refl _ _⟩)))))
 refine pg rfl rfl rfl (ao (.int .i64 most) rfl) (pg rfl rfl rfl mv (pg rfl rfl rfl (lt rfl rfl) (p (bc rfl) (p mv (gs (t:=42) rfl (fun ax=> ?_) (fun ax=> ?_))))))
 refine sk rfl rfl rfl rfl (sk rfl rfl rfl rfl (sk rfl rfl rfl rfl (sk rfl rfl rfl rfl (sk rfl rfl rfl rfl (sk rfl rfl rfl rfl (p (bu rfl) (nl ?_)))))))
 refine tn (C _ _ (ct rfl (ab (fun _ a=>(p aw (ag (((a _ _ ?_)))))))))
 refine rt (tr (br (tr (tr (br (tr (f2 rfl rfl rfl ?_)))))))
 exact ⟨by show Value.tuple #[.int .i64 0,.int .i64 13]=_; rw [uG (i+1) (by rw [l1 (by omega)]; omega)]; rfl,Md.refl _ _⟩
 have aG:((s.getD i 0).toNat:Int) - 48≤most:=by omega
 refine pg rfl rfl rfl (ao (U (c6 (s.take i))) rfl) (pg rfl rfl rfl (ao (.int .i64 most) rfl) (pg rfl rfl rfl mv (pg rfl rfl rfl (sb rfl rfl (bp (by omega))) (pg rfl rfl rfl (jG (((most - (((s.getD i 0).toNat:Int) - 48)).toNat / 10:Nat):Int) rfl rfl (by omega) (aI (by omega) (by omega))) (pg rfl rfl rfl (gt rfl rfl) (p (bc rfl) (nl ?_)))))))
 refine tn (C _ _ (cd rfl (fun an=> ?_) (fun an=> ?_)))
 refine ab (fun _ a=>(p aw (ag (((a _ _ (rt (tr ?_))))))))
 exact br (tr (tr (br (tr (f2 rfl rfl rfl (⟨by show Value.tuple #[.int .i64 0,.int .i64 13]=_; rw [uG (i+1) (by rw [l1 (by omega)]; omega)]; rfl,Md.refl _ _⟩))))))
 have ap:l2 (s.getD i 0)=true :=decide_eq_true (by omega)
 refine aA (tn (V _ _ (rg rfl (ae (U (c6 (s.take i))) (p (kB ((c6 (s.take i)*10:Nat):Int) rfl rfl (aI (by omega) (by omega))) (p mv (p (a8 ((c6 (s.take i)*10 +((s.getD i 0).toNat - 48):Nat):Int) rfl rfl (aI (by omega) (by omega))) (p aw ?_))))))))
 refine nl (bn (tn (E _ _ (rg rfl (p (ad rfl rfl (bp (by omega))) (p mv (nl (tn ?_))))))))
 exact ⟨_,by omega,i+1,(by omega),rfl,((by rw [l1 (by omega)]; omega)),((fun j hj=>by rcases Nat.lt_or_ge j i with h | h <;> first | exact M j h | (rw [show j=i by omega]; exact ap))),rfl,rfl,(iv (by first | rfl | (rw [l1 (by omega)]))),rfl,rfl,rfl⟩
 refine ext (te _ (te _ (be (tn (A _ _ (ab (fun _ E=>(ae (U (c6 (s.take i))) ?_))))))))
 exact p (bw (U (c6 (s.take i))) rfl) (ag (((E _ _ (rt (f2 rfl rfl rfl (⟨by show Value.tuple #[U (c6 (s.take i)),.int .i64 0]=_; rw [show s.take i=s from List.take_of_length_le (by omega),qe hh (fun j hj=>M j (by omega)) (by rw [show s.take i=s from List.take_of_length_le (by omega)] at hn; omega)],Md.refl _ _⟩)))))))
end Go.Hb.gX
end
section
set_option maxRecDepth 20000
set_option maxHeartbeats 1000000
namespace Go.Hb.fQ
open Go.Hb.cJ
open Go.Proofs
theorem qu {s pr:List UInt8} (h:s.take pr.length=pr):pr.length≤s.length:=by
 have :=congrArg List.length h
 rw [List.length_take] at this; omega
theorem FK {s:List UInt8} (h:decide (1≤s.length∧s.drop (s.length - 1)= [13])=true):eO s=s.take (s.length - 1):=by
 have h1:=of_decide_eq_true h
 rw [ui (by omega)] at h1
 exact AV (by omega) (by simpa using h1.2)
theorem FL {s:List UInt8} (h:decide (1≤s.length∧s.drop (s.length - 1)= [13])=false):eO s=s:=by
 have h1:=of_decide_eq_false h
 refine pk fun h2=>h1 ⟨by omega,?_⟩
 rw [ui (by omega),h2.2]
theorem CO (c:UInt8):cG c [c]=0:=by unfold cG; simp
theorem tM (s pr:List UInt8) (w:World) (hs:s.length≤1099511627776) (hp:pr.length≤1099511627776):
 aT Tryz.prog 129 (List.toArray [str s,str pr]) w (fun v w'=>v= .bool (decide (s.take pr.length=pr))∧Wk w w'):=by
 refine enter Tryz.func129 rfl Tryz.ntmps129 rfl ?_
 refine ab (fun _ c=>(ag (((c _ _ (ab (fun _ a=>(ae (str s) ?_))))))))
 refine p (bV u9 rfl rfl) (ae (str pr) (p (bV u9 rfl rfl) (p (ge rfl rfl) (p mv (gs (t:=10) rfl (fun hg10=> ?_) (fun hg10=> ?_))))))
 refine pg rfl rfl rfl (ao (str s) rfl) (pg rfl rfl rfl (ao (str pr) rfl) (pg rfl rfl rfl (bV u9 rfl rfl) (pg rfl rfl rfl (nZ u9 rfl rfl (by omega)) (pg rfl rfl rfl (ao (str pr) rfl) (pg rfl rfl rfl (e7 rfl rfl) (p (bu rfl) (p aw ?_)))))))
 exact aj ((a _ _ (rt (f1 rfl rfl (⟨rfl,Md.refl _ _⟩)))))
 refine sk rfl rfl rfl rfl (sk rfl rfl rfl rfl (sk rfl rfl rfl rfl (sk rfl rfl rfl rfl (sk rfl rfl rfl rfl (sk rfl rfl rfl rfl (p (bc rfl) (p aw ?_)))))))
 exact aj ((a _ _ (rt (f1 rfl rfl (⟨by show Value.bool false =_; rw [decide_eq_false (fun h=>by have :=qu h; omega)],Md.refl _ _⟩)))))
theorem FV (s pr:List UInt8) (w:World) (hs:s.length≤1099511627776) (hp:pr.length≤1099511627776):
 aT Tryz.prog 111 (List.toArray [str s,str pr]) w (fun v w'=>v=str (dK s pr)∧Wk w w'):=by
 refine enter Tryz.func111 rfl Tryz.ntmps111 rfl ?_
 refine ab (fun _ i=>(ag (((i _ _ (sq (fun _ j=>ab (fun _ q=> ?_))))))))
 refine ae (str s) (ae (str pr) (e (cl rQ (tM s pr _ hs hp) rfl fun A w7 hR7=> ?_)))
 obtain ⟨rfl,hE7⟩:=hR7
 refine aj ((q _ _ (cb rfl (fun c=> ?_) (fun c=> ?_))))
 have hpp:=of_decide_eq_true c
 have hpl:=qu hpp
 refine ab (fun _ a=>(ae (str s) (ae (str pr) (p (bV u9 rfl rfl) (p (j6 u9 rfl rfl (by omega)) (p aw (nl ?_)))))))
 exact tn (a _ _ (rt (tr (f1 rfl rfl (⟨by show str (s.drop (pr.length:Int).toNat)=_; unfold dK; rw [if_pos hpp]; rfl,hE7⟩)))))
 have hpp:=of_decide_eq_false c
 refine aA (tn (j _ _ (ab (fun _ a=>(ae (str s) (p (bw (str s) rfl) (aj ((a _ _ ?_)))))))))
 exact rt (f1 rfl rfl (⟨by show str s=_; unfold dK; rw [if_neg hpp],hE7⟩))
theorem FW (s pr:List UInt8) (w:World) (hs:s.length≤1099511627776) (hp:pr.length≤1099511627776):
 aT Tryz.prog 89 (List.toArray [str s,str pr]) w (fun v w'=>v=str (dK s pr)∧Wk w w'):=by
 refine enter Tryz.func89 rfl Tryz.ntmps89 rfl ?_
 refine ab (fun _ a=>(ag (((a _ _ (ab (fun _ c=>(ae (str s) ?_))))))))
 refine ae (str pr) (e (cl x0 (FV s pr _ hs hp) rfl fun i w7 hR7=> ?_))
 obtain ⟨rfl,hE7⟩:=hR7
 exact ag (((c _ _ (rt (f1 rfl rfl (⟨rfl,hE7⟩))))))
theorem B8 (s pr:List UInt8) (w:World) (hs:s.length≤1099511627776) (hp:pr.length≤1099511627776):
 aT Tryz.prog 131 (List.toArray [str s,str pr]) w (fun v w'=>v= .bool (decide (pr.length≤s.length∧s.drop (s.length - pr.length)=pr))∧Wk w w'):=by
 refine enter Tryz.func131 rfl Tryz.ntmps131 rfl ?_
 refine ab (fun _ c=>(ag (((c _ _ (ab (fun _ a=>(ae (str s) ?_))))))))
 refine p (bV u9 rfl rfl) (ae (str pr) (p (bV u9 rfl rfl) (p (ge rfl rfl) (p mv (gs (t:=10) rfl (fun hg10=> ?_) (fun hg10=> ?_))))))
 refine pg rfl rfl rfl (ao (str s) rfl) (pg rfl rfl rfl (ao (str s) rfl) (pg rfl rfl rfl (bV u9 rfl rfl) (pg rfl rfl rfl (ao (str pr) rfl) (pg rfl rfl rfl (bV u9 rfl rfl) (pg rfl rfl rfl (sb rfl rfl (bp (by omega))) (pg rfl rfl rfl (j6 u9 rfl rfl (by omega)) (pg rfl rfl rfl (ao (str pr) rfl) ?_)))))))
 exact pg rfl rfl rfl (e7 rfl rfl) (p (bu rfl) (ag (((a _ _ (rt (f1 rfl rfl (⟨by show Value.bool (decide (s.drop ((s.length:Int) - (pr.length:Int)).toNat=pr))=_; rw [show ((s.length:Int) - (pr.length:Int)).toNat=s.length - pr.length from by omega]; exact bv (by constructor <;> intro h <;> first | exact ⟨by omega,h⟩ | exact h.2),Md.refl _ _⟩))))))))
 refine sk rfl rfl rfl rfl (sk rfl rfl rfl rfl (sk rfl rfl rfl rfl (sk rfl rfl rfl rfl (sk rfl rfl rfl rfl (sk rfl rfl rfl rfl (sk rfl rfl rfl rfl (sk rfl rfl rfl rfl ?_)))))))
 exact sk rfl rfl rfl rfl (p (bc rfl) (ag (((a _ _ (rt (f1 rfl rfl (⟨by show Value.bool false =_; rw [decide_eq_false (by omega)],Md.refl _ _⟩))))))))
theorem FX (s:List UInt8) (w:World) (hs:s.length≤1099511627776):
 aT Tryz.prog 113 (List.toArray [str s,str [13]]) w (fun v w'=>v=str (eO s)∧Wk w w'):=by
 refine enter Tryz.func113 rfl Tryz.ntmps113 rfl ?_
 refine ab (fun _ i=>(ag (((i _ _ (sq (fun _ j=>ab (fun _ q=> ?_))))))))
 refine ae (str s) (ae (str [13]) (e (cl yb (B8 s [13] _ hs (by decide)) rfl fun A w7 hR7=> ?_)))
 obtain ⟨rfl,hE7⟩:=hR7
 refine aj ((q _ _ (cb rfl (fun a=> ?_) (fun a=> ?_))))
 have hpl:=(of_decide_eq_true a).1
 have hl1:([13]:List UInt8).length=1:=rfl
 refine ab (fun _ c=>(ae (str s) (ae (str s) (p (bV u9 rfl rfl) (ae (str [13]) (p (bV u9 rfl rfl) (p (sb rfl rfl (bp (by omega))) ?_)))))))
 exact p (nZ u9 rfl rfl (by omega)) (ag (((c _ _ (rt (tr (f1 rfl rfl (⟨by show str (s.take ((s.length:Int) - (([13]:List UInt8).length:Int)).toNat)=_; rw [FK a,show ((s.length:Int) - (([13]:List UInt8).length:Int)).toNat=s.length - 1 from by simp only [List.length_singleton]; omega],hE7⟩))))))))
 refine aA (tn (j _ _ (ab (fun _ c=>(ae (str s) (p (bw (str s) rfl) (aj ((c _ _ ?_)))))))))
 exact rt (f1 rfl rfl (⟨by show str s=_; rw [FL a],hE7⟩))
theorem FY (s:List UInt8) (w:World) (hs:s.length≤1099511627776):
 aT Tryz.prog 91 (List.toArray [str s,str [13]]) w (fun v w'=>v=str (eO s)∧Wk w w'):=by
 refine enter Tryz.func91 rfl Tryz.ntmps91 rfl ?_
 refine ab (fun _ a=>(ag (((a _ _ (ab (fun _ c=>(ae (str s) ?_))))))))
 refine ae (str [13]) (e (cl x2 (FX s _ hs) rfl fun i w7 hR7=> ?_))
 obtain ⟨rfl,hE7⟩:=hR7
 exact ag (((c _ _ (rt (f1 rfl rfl (⟨rfl,hE7⟩))))))
theorem tW (s:List UInt8) (c:UInt8) (w:World):
 aT Tryz.prog 144 (List.toArray [str s,.int .u8 c.toNat]) w (fun v w'=>v= .int .i64 (cG c s)∧Wk w w'):=by
 refine enter Tryz.func144 rfl Tryz.ntmps144 rfl ?_
 refine ab (fun _ a=>(ag (((a _ _ (ab (fun _ i=>(ae (str s) ?_))))))))
 exact ae (.int .u8 c.toNat) (p (sx (CR s c _) rfl) (ag (((i _ _ (rt (f1 rfl rfl (⟨rfl,Md.refl _ _⟩))))))))
theorem tV (s:List UInt8) (c:UInt8) (w:World):
 aT Tryz.prog 130 (List.toArray [str s,str [c]]) w (fun v w'=>v= .int .i64 (cG c s)∧Wk w w'):=by
 refine enter Tryz.func130 rfl Tryz.ntmps130 rfl ?_
 refine ab (fun _ j=>(ag (((j _ _ (ab (fun _ q=>(ae (str [c]) ?_))))))))
 refine p (bV u9 rfl rfl) (ag (((q _ _ (sq (fun _ I=>au (ab (fun _ A=> ?_))))))))
 refine p mv (p (bo rfl rfl) (p mv (gs (t:=19) rfl (fun h=>absurd h (by simp)) (fun M=> ?_))))
 refine pg rfl rfl rfl (ao (str [c]) rfl) (pg rfl rfl rfl (ao (str s) rfl) (pg rfl rfl rfl (e7 rfl rfl) (p (bc rfl) (ag (((A _ _ (cd rfl (fun i=> ?_) (fun i=> ?_)))))))))
 refine ab (fun _ a=>(ag (((a _ _ (rt (br (tr ?_))))))))
 exact f1 rfl rfl (⟨by show Value.int .i64 0=_; rw [← i,CO],Md.refl _ _⟩)
 refine ab (fun _ a=>(p mv (p (bo rfl rfl) (ag (((a _ _ (cd rfl (fun J=> ?_) (fun h=>absurd rfl h)))))))))
 refine ab (fun _ C=>(ae (str s) (ae (str [c]) (p (iw 0 u9 rfl rfl (by simp)) (e (cl rU (tW s c _) rfl fun v30 w30 G=> ?_))))))
 obtain ⟨rfl,E⟩:=G
 exact ag (((C _ _ (rt (br (tr (f1 rfl rfl (⟨rfl,E⟩))))))))
theorem CC (s:List UInt8) (c:UInt8) (w:World):
 aT Tryz.prog 173 (List.toArray [str s,str [c]]) w (fun v w'=>v= .int .i64 (cG c s)∧Wk w w'):=by
 refine enter Tryz.func173 rfl Tryz.ntmps173 rfl ?_
 refine ab (fun _ a=>(ag (((a _ _ (ab (fun _ i=>(ae (str s) ?_))))))))
 refine ae (str [c]) (e (cl rR (tV s c _) rfl fun j w7 hR7=> ?_))
 obtain ⟨rfl,hE7⟩:=hR7
 exact ag (((i _ _ (rt (f1 rfl rfl (⟨rfl,hE7⟩))))))
theorem z8 (s:List UInt8) (c:UInt8) (w:World) (hs:s.length≤1099511627776):
 aT Tryz.prog 112 (List.toArray [str s,str [c]]) w (fun v w'=>v= .tuple #[str (gE c s),str (ij c s),.bool (!decide (cG c s < 0))]∧Wk w w'):=by
 refine enter Tryz.func112 rfl Tryz.ntmps112 rfl ?_
 refine ab (fun _ q=>(p aw (p aw (ag (((q _ _ (sq (fun _ A=> ?_)))))))))
 refine ab (fun _ C=>(ae (str s) (ae (str [c]) (e (cl rR (tV s c _) rfl fun v10 w10 hR10=> ?_)))))
 obtain ⟨rfl,j⟩:=hR10
 refine ag (((C _ _ (ab (fun _ E=>(p mv (p (ge rfl rfl) (nl ?_))))))))
 refine tn (E _ _ (cd rfl (fun G=> ?_) (fun G=> ?_)))
 have hix:=ll (c:=c) (l:=s) (by omega)
 have hl1:[c].length=1:=rfl
 refine sq (fun _ i=> ?_)
 have a:(fun w'=>Wk w10 w') w10.drew:=(Md.refl _ _).drew
 refine bF (fun w'=>Wk w10 w') rfl wide a (bm 0 rfl (str s) a (aK 1 rfl (fun _ _=>mv) a (aK 2 rfl (fun _ _=>nZ u9 rfl rfl (by omega)) a (bm 3 rfl (str s) a (aK 4 rfl (fun _ _=>mv) a (bm 5 rfl (str [c]) a (aK 6 rfl (fun _ _=>bV u9 rfl rfl) a ?_)))))))
 refine aK 7 rfl (fun _ _=>a8 ((s.idxOf c+1:Nat):Int) rfl rfl (aI (by omega) (by omega))) a (aK 8 rfl (fun _ _=>j6 u9 rfl rfl (by omega)) a (aK 9 rfl (fun _ _=>aw) a (aK 10 rfl (fun _ _=>aw) a (aK 11 rfl (fun _ _=>aw) a (hn (by kernel_rfl) (tn (i _ _ (rt ?_))))))))
 exact tr (f3 rfl rfl rfl rfl (⟨by show Value.tuple #[str (s.take (cG c s).toNat),str (s.drop (s.idxOf c+1)),.bool true]=_; unfold gE ij; rw [if_neg (by omega),if_neg (by omega),hix.1,decide_eq_false (by omega)]; rfl,Md.trans j (Md.refl _ _).drew⟩))
 refine aA (tn (A _ _ (ab (fun _ i=>(ae (str s) (p (bw (str s) rfl) (p aw (p aw ?_))))))))
 exact aj ((i _ _ (rt (f3 rfl rfl rfl rfl (⟨by show Value.tuple #[str s,str [],.bool false]=_; unfold gE ij; rw [if_pos (by omega),if_pos (by omega),decide_eq_true (by omega)]; rfl,j⟩)))))
theorem Ac (s:List UInt8) (c:UInt8) (w:World) (hs:s.length≤1099511627776):
 aT Tryz.prog 90 (List.toArray [str s,str [c]]) w (fun v w'=>v= .tuple #[str (gE c s),str (ij c s),.bool (!decide (cG c s < 0))]∧Wk w w'):=by
 refine enter Tryz.func90 rfl Tryz.ntmps90 rfl ?_
 refine ab (fun _ a=>(p aw (p aw (ag (((a _ _ (sq (fun _ i=> ?_)))))))))
 refine rg rfl (ae (str s) (ae (str [c]) (e (cl x1 (z8 s c _ hs) rfl fun v9 w9 hR9=> ?_))))
 obtain ⟨rfl,j⟩:=hR9
 refine p (xt rfl rfl) (p (xt rfl rfl) (p (xt rfl rfl) (p aw (p aw (ag (((i _ _ ?_))))))))
 exact rt (f3 rfl rfl rfl rfl (⟨rfl,j⟩))
end Go.Hb.fQ
end
section
set_option maxRecDepth 20000
set_option maxHeartbeats 1000000
namespace Go.Hb.kg
open Go.Hb.cJ
open Go.Proofs
theorem CL (x:Nat) (w:World):
 aT Tryz.prog 180 (List.toArray [az x]) w (fun v w'=>v= .bool false∧Wk w w'):=by
 refine enter Tryz.func180 rfl Tryz.ntmps180 rfl ?_
 refine ab (fun _ a=>(ag (((a _ _ (ab (fun _ c=>(ae (az x) ?_))))))))
 exact ae (az x) (p (ej rfl rfl) (ag (((c _ _ (rt (f1 rfl rfl (⟨congrArg Value.bool (decide_eq_false (fun h=>h rfl)),Md.refl _ _⟩))))))))
theorem gu (x y:Nat) (w:World):
 aT Tryz.prog 162 (List.toArray [az x,az y]) w (fun v w'=>v= .bool (a4 x y)∧Wk w w'):=by
 refine enter Tryz.func162 rfl Tryz.ntmps162 rfl ?_
 refine ab (fun _ a=>(ag (((a _ _ (ab (fun _ c=>(ae (az x) ?_))))))))
 refine e (cl yB (CL x _) rfl fun v6 w6 hR6=> ?_)
 obtain ⟨rfl,i⟩:=hR6
 refine p mv (sk rfl rfl rfl rfl (sk rfl rfl rfl rfl (sk rfl rfl rfl rfl (p (bc rfl) (p mv (pg rfl rfl rfl (ao (az x) rfl) (pg rfl rfl rfl (ao (az y) rfl) ?_)))))))
 exact pg rfl rfl rfl (lt rfl rfl) (p (bc rfl) (ag (((c _ _ (rt (f1 rfl rfl (⟨by show Value.bool (decide ((x:Int) < (y:Int)))=_; unfold a4; exact congrArg Value.bool (decide_eq_decide.2 (by omega)),i⟩))))))))
theorem CK (d:Array Nat) (a b:Nat) (B n cp:Nat) (s:Option Addr) (w:World) (am:w.ownsRow B 71 1 (.slice s n cp) n (LE az d)) (a1:a≤b∧b≤n) (a2:n≤1099511627776):
 aT Tryz.prog 156 (List.toArray [.slice s n cp,U a,U b]) w (fun v w'=>v= .tuple #[]∧w'.ownsRow B 71 1 (.slice s n cp) n (LE az (Go.Sort.insertionSort a4 d a b))∧Md (fun q=>(Value.slice s n cp).ownBlock=some q) w w'):=by
 have hdn:=cY am
 refine enter Tryz.func156 rfl Tryz.ntmps156 rfl ?_
 refine ab (fun _ ap=>(ae (U a) (p (a8 ((a+1:Nat):Int) rfl rfl (aI (by omega) (by omega))) (ag (((ap _ _ (au ?_))))))))
 refine lp (fun V Y ad=> ∃ (i:Nat) (O:Array Nat),(a+1≤i∧i≤n+1)∧(Go.Sort.insOuter a4 a b i O=Go.Sort.insertionSort a4 d a b)∧(ad.ownsRow B 71 1 (.slice s n cp) n (LE az O))∧(Md (fun q=>(Value.slice s n cp).ownBlock=some q) w ad)∧(Y 0= .slice s n cp)∧(Y 1=U a)∧(Y 2=U b)∧(Y 6=U i)∧(b - i=V)) _ ⟨a+1,d,(by omega),rfl,am,(Md.refl _ _),rfl,rfl,rfl,rfl,rfl⟩ ?_
 rintro V Y ad ⟨i,O,hi,ac,an,al,aP,aQ,aR,aS,rfl⟩
 refine fx 0 aP (fx 1 aQ (fx 2 aR (fx 6 aS (sq (fun _ aq=>ab (fun _ ar=>(ae (U i) (ae (U b) (p (lt rfl rfl) (nl ?_))))))))))
 refine tn (ar _ _ (cd rfl (fun aM=> ?_) (fun aM=> ?_)))
 refine aA (tn (aq _ _ (sq (fun _ ah=>au (ab (fun _ av=>(ae (U i) (p (bw (U i) rfl) ?_))))))))
 refine aj ((av _ _ (au (lp (fun V M I=> ∃ (j:Nat) (C:Array Nat),(a≤j∧j≤i)∧(Go.Sort.insInner a4 a j C=Go.Sort.insInner a4 a i O)∧(I.ownsRow B 71 1 (.slice s n cp) n (LE az C))∧(Md (fun q=>(Value.slice s n cp).ownBlock=some q) w I)∧(M 0= .slice s n cp)∧(M 1=U a)∧(M 2=U b)∧(M 6=U i)∧(M 7=U j)∧(j=V)) _ ⟨i,O,(by omega),rfl,an,al,rfl,rfl,rfl,rfl,rfl,rfl⟩ ?_))))
 rintro V M I ⟨j,C,hj,hq2,G,Z,aU,aW,aX,aZ,a0,rfl⟩
 refine fx 0 aU (fx 1 aW (fx 2 aX (fx 6 aZ (fx 7 a0 (sq (fun _ ax=>sq (fun _ ai=> ?_)))))))
 have hden:=cY G
 have c:(fun w'=>Wk I w') I.drew:=(Md.refl _ _).drew
 refine bF (fun w'=>Wk I w') rfl wide c (bm 0 rfl (U j) c (bm 1 rfl (U a) c (aK 2 rfl (fun _ _=>gt rfl rfl) c (aK 3 rfl (fun _ _=>mv) c (ir (t:=19) rfl (fun aL=> ?_) (fun aL=> ?_))))))
 refine a3 4 rfl (by kernel_rfl) rfl rfl rfl (fun _ _=>ao (.slice s n cp) rfl) c (a3 5 rfl (by kernel_rfl) rfl rfl rfl (fun _ _=>ao (U j) rfl) c (a3 6 rfl (by kernel_rfl) rfl rfl rfl (fun _ _=>aH aY rfl rfl (by omega) (ak.ok ((aB G).2) (a7 (by omega)))) c (a3 7 rfl (by kernel_rfl) rfl rfl rfl (fun w' E=>ld ba rfl (bq (i:=j) ((aB G).2.wk E) (by omega))) c (a3 8 rfl (by kernel_rfl) rfl rfl rfl (fun _ _=>ao (.slice s n cp) rfl) c (a3 9 rfl (by kernel_rfl) rfl rfl rfl (fun _ _=>ao (U j) rfl) c (a3 10 rfl (by kernel_rfl) rfl rfl rfl (fun _ _=>bK ((j - 1:Nat):Int) rfl rfl (aI (by omega) (by omega))) c (a3 11 rfl (by kernel_rfl) rfl rfl rfl (fun _ _=>aH aY rfl rfl (by omega) (ak.ok ((aB G).2) (a7 (by omega)))) c ?_)))))))
 refine a3 12 rfl (by kernel_rfl) rfl rfl rfl (fun w' E=>ld ba rfl (bq (i:=j - 1) ((aB G).2.wk E) (by omega))) c (iV 13 rfl (by kernel_rfl) rfl rfl rfl (cl gn (gu C[j]! C[j - 1]! _) rfl fun a6 w29 aG=> ?_))
 obtain ⟨rfl,hE29⟩:=aG
 have J:(fun w'=>Wk I w') w29:=Md.trans c hE29
 refine ⟨J,?_⟩
 refine aK 14 rfl (fun _ _=>bu rfl) J (hn (by kernel_rfl) (tn (ai _ _ (cb rfl (fun aa=> ?_) (fun aa=> ?_)))))
 refine aA (tn (ax _ _ (sq (fun _ ay=>au ?_))))
 have hO6:=aE G J
 have A:(fun w'=>Wk w29 w') w29.drew:=(Md.refl _ _).drew
 refine da (fun w'=>Wk w29 w') 15 rfl wide A (aJ 0 rfl (.slice s n cp) A (aJ 1 rfl (U j) A (aJ 2 rfl (.slice s n cp) A (aJ 3 rfl (U j) A (a5 4 rfl (fun _=>bK ((j - 1:Nat):Int) rfl rfl (aI (by omega) (by omega))) (fun _=>A) (aJ 5 rfl (.slice s n cp) A (aJ 6 rfl (U j) A ?_)))))))
 refine a5 7 rfl (fun _=>bK ((j - 1:Nat):Int) rfl rfl (aI (by omega) (by omega))) (fun _=>A) (a5 8 rfl (fun _=>aH aY rfl rfl (by omega) (ak.ok ((aB hO6).2) (a7 (by omega)))) (fun _=>A) (cT 9 rfl (fun w' E=>ld ba rfl (bq (i:=j - 1) ((aB hO6).2.wk E) (by omega))) A (aJ 10 rfl (.slice s n cp) A (aJ 11 rfl (U j) A (a5 12 rfl (fun _=>aH aY rfl rfl (by omega) (ak.ok ((aB hO6).2) (a7 (by omega)))) (fun _=>A) (cT 13 rfl (fun w' E=>ld ba rfl (bq (i:=j) ((aB hO6).2.wk E) (by omega))) A (a5 14 rfl (fun _=>aH aY rfl rfl (by omega) (ak.ok ((aB hO6).2) (a7 (by omega)))) (fun _=>A) ?_)))))))
 refine bJ 15 rfl (by kernel_rfl) (by kernel_rfl) (dq (u:=C[j - 1]!) (j) (aE hO6 A) di rfl rfl rfl (by omega) fun a9 aD aN=> ?_)
 refine a5 16 rfl (fun _=>aH aY rfl rfl (by omega) (ak.ok ((aB hO6).2) (a7 (by omega)))) (fun h=>Bool.noConfusion ((show true =_ from by kernel_rfl).trans h)) (bJ 17 rfl (by kernel_rfl) (by kernel_rfl) (dq (u:=C[j]!) (j - 1) aN di rfl rfl rfl (by omega) fun wS2 aF aO=> ?_))
 have E:wS2.ownsRow B 71 1 (.slice s n cp) n (LE az (Go.Sort.swp C (j) (j - 1))):=aO
 have aC:Md (fun q=>(Value.slice s n cp).ownBlock=some q) w29 wS2:=Md.trans (A.mono (fun _ _ h=>h.elim)) (Md.trans aD aF)
 refine c9 (by kernel_rfl) ?_
 refine bn (tn (ay _ _ (rg rfl (ae (U j) (p (bK ((j - 1:Nat):Int) rfl rfl (aI (by omega) (by omega))) (p aw (nl (tn ?_))))))))
 exact ⟨_,by omega,j - 1,Go.Sort.swp C j (j - 1),(by omega),((by rw [← hq2,CH (show a < j by omega) aa])),E,(Md.trans Z (Md.trans (J.mono (fun _ _ h=>h.elim)) aC)),rfl,rfl,rfl,rfl,rfl,rfl⟩
 refine ext (te _ (te _ (be (bn (tn (ah _ _ (rg rfl (ae (U i) ?_))))))))
 exact p (a8 ((i+1:Nat):Int) rfl rfl (aI (by omega) (by omega))) (ag (((⟨_,by omega,i+1,C,(by omega),((by rw [← ac,tZ (show i < b by omega),← hq2,CI (by simpa using aa)])),(aE G J),(Md.trans Z (J.mono (fun _ _ h=>h.elim))),rfl,rfl,rfl,rfl,rfl⟩))))
 refine aV 4 rfl (by kernel_rfl) rfl rfl rfl rfl c ?_
 refine aV 5 rfl (by kernel_rfl) rfl rfl rfl rfl c ?_
 refine aV 6 rfl (by kernel_rfl) rfl rfl rfl rfl c ?_
 refine aV 7 rfl (by kernel_rfl) rfl rfl rfl rfl c ?_
 refine aV 8 rfl (by kernel_rfl) rfl rfl rfl rfl c ?_
 refine aV 9 rfl (by kernel_rfl) rfl rfl rfl rfl c ?_
 refine aV 10 rfl (by kernel_rfl) rfl rfl rfl rfl c ?_
 refine aV 11 rfl (by kernel_rfl) rfl rfl rfl rfl c ?_
 refine aV 12 rfl (by kernel_rfl) rfl rfl rfl rfl c ?_
 refine aV 13 rfl (by kernel_rfl) rfl rfl rfl rfl c ?_
 refine aK 14 rfl (fun _ _=>bc rfl) c (hn (by kernel_rfl) (tn (ai _ _ (cf rfl (ext (te _ (te _ (be ?_))))))))
 refine bn (tn (ah _ _ (rg rfl (ae (U i) (p (a8 ((i+1:Nat):Int) rfl rfl (aI (by omega) (by omega))) (p aw (nl (tn ?_))))))))
 exact ⟨_,by omega,i+1,C,(by omega),((by rw [← ac,tZ (show i < b by omega),← hq2,CJ (by omega)])),(aE G (Md.refl _ _).drew),Z.drew,rfl,rfl,rfl,rfl,rfl⟩
 refine ext (te _ (te _ (be (f0 rfl ?_))))
 exact ⟨rfl,by rw [← ac,CG (by omega)]; exact an,al⟩
theorem Fl (d:Array Nat) (lo hi first :Nat) (B n cp:Nat) (s:Option Addr) (w:World) (aG:w.ownsRow B 71 1 (.slice s n cp) n (LE az d)) (a6:lo≤hi∧first+hi≤n) (a9:n≤1099511627776):
 aT Tryz.prog 175 (List.toArray [.slice s n cp,U lo,U hi,U first]) w (fun v w'=>v= .tuple #[]∧w'.ownsRow B 71 1 (.slice s n cp) n (LE az (Go.Sort.siftDown a4 hi first lo d))∧Md (fun q=>(Value.slice s n cp).ownBlock=some q) w w'):=by
 refine enter Tryz.func175 rfl Tryz.ntmps175 rfl ?_
 refine ab (fun _ an=>(ae (U lo) (p (bw (U lo) rfl) (aj ((an _ _ (au (lp (fun ai Y J=> ∃ (r:Nat) (A:Array Nat),(r≤hi)∧(Go.Sort.siftDown a4 hi first r A=Go.Sort.siftDown a4 hi first lo d)∧(J.ownsRow B 71 1 (.slice s n cp) n (LE az A))∧(Md (fun q=>(Value.slice s n cp).ownBlock=some q) w J)∧(Y 0= .slice s n cp)∧(Y 2=U hi)∧(Y 3=U first)∧(Y 8=U r)∧(hi - r=ai)) _ ⟨lo,d,(by omega),rfl,aG,(Md.refl _ _),rfl,rfl,rfl,rfl,rfl⟩ ?_))))))))
 rintro ai Y J ⟨r,A,hr,ah,G,aa,aR,aS,aU,aW,rfl⟩
 refine fx 0 aR (fx 2 aS (fx 3 aU (fx 8 aW (au (ab (fun _ ap=>(ae (U r) (p (kB ((2 *r:Nat):Int) rfl rfl (aI (by omega) (by omega))) (p (a8 ((2 *r+1:Nat):Int) rfl rfl (aI (by omega) (by omega))) (p aw ?_))))))))))
 refine aj ((ap _ _ (sq (fun _ aq=>ab (fun _ ar=>(p mv (ae (U hi) (p (ge rfl rfl) ?_))))))))
 refine aj ((ar _ _ (cd rfl (fun aN=> ?_) (fun aN=> ?_))))
 refine ext (te _ (iN (by decide) (te _ (be (f0 rfl ?_)))))
 exact ⟨rfl,by rw [← ah,Fj (by omega)]; exact G,aa⟩
 refine aA (tn (aq _ _ ?_))
 refine dm (fun V wC=> ∃ (c:Nat),(r < c∧c < hi)∧(Go.Sort.siftDown a4 hi first r A=if (!a4 A[first+r]! A[first+c]!)=true then A else Go.Sort.siftDown a4 hi first c (Go.Sort.swp A (first+r) (first+c)))∧(wC.ownsRow B 71 1 (.slice s n cp) n (LE az A))∧(Md (fun q=>(Value.slice s n cp).ownBlock=some q) w wC)∧(V 0= .slice s n cp)∧(V 2=U hi)∧(V 3=U first)∧(V 8=U r)∧(V 9=U c)) ?_ ?_
 refine sq (fun _ Z=> ?_)
 have hdcn:=cY G
 have a:(fun w'=>Wk J w') J.drew:=(Md.refl _ _).drew
 refine bF (fun w'=>Wk J w') rfl wide a (aK 0 rfl (fun _ _=>mv) a (aK 1 rfl (fun _ _=>a8 ((2 *r+1 +1:Nat):Int) rfl rfl (aI (by omega) (by omega))) a (bm 2 rfl (U hi) a (aK 3 rfl (fun _ _=>lt rfl rfl) a (aK 4 rfl (fun _ _=>mv) a (ir (t:=21) rfl (fun aO=> ?_) (fun aO=> ?_)))))))
 refine a3 5 rfl (by kernel_rfl) rfl rfl rfl (fun _ _=>ao (.slice s n cp) rfl) a (a3 6 rfl (by kernel_rfl) rfl rfl rfl (fun _ _=>ao (U first) rfl) a (a3 7 rfl (by kernel_rfl) rfl rfl rfl (fun _ _=>mv) a (a3 8 rfl (by kernel_rfl) rfl rfl rfl (fun _ _=>a8 ((first+(2 *r+1):Nat):Int) rfl rfl (aI (by omega) (by omega))) a (a3 9 rfl (by kernel_rfl) rfl rfl rfl (fun _ _=>aH aY rfl rfl (by omega) (ak.ok ((aB G).2) (a7 (by omega)))) a (a3 10 rfl (by kernel_rfl) rfl rfl rfl (fun w' E=>ld ba rfl (bq (i:=first+(2 *r+1)) ((aB G).2.wk E) (by omega))) a (a3 11 rfl (by kernel_rfl) rfl rfl rfl (fun _ _=>ao (.slice s n cp) rfl) a (a3 12 rfl (by kernel_rfl) rfl rfl rfl (fun _ _=>ao (U first) rfl) a ?_)))))))
 refine a3 13 rfl (by kernel_rfl) rfl rfl rfl (fun _ _=>mv) a (a3 14 rfl (by kernel_rfl) rfl rfl rfl (fun _ _=>a8 ((first+(2 *r+1):Nat):Int) rfl rfl (aI (by omega) (by omega))) a (a3 15 rfl (by kernel_rfl) rfl rfl rfl (fun _ _=>a8 ((first+(2 *r+1)+1:Nat):Int) rfl rfl (aI (by omega) (by omega))) a (a3 16 rfl (by kernel_rfl) rfl rfl rfl (fun _ _=>aH aY rfl rfl (by omega) (ak.ok ((aB G).2) (a7 (by omega)))) a (a3 17 rfl (by kernel_rfl) rfl rfl rfl (fun w' E=>ld ba rfl (bq (i:=first+(2 *r+1)+1) ((aB G).2.wk E) (by omega))) a (iV 18 rfl (by kernel_rfl) rfl rfl rfl (cl gn (gu A[first+(2 *r+1)]! A[first+(2 *r+1)+1]! _) rfl fun bb w35 aL=> ?_))))))
 obtain ⟨rfl,hE35⟩:=aL
 have M:(fun w'=>Wk J w') w35:=Md.trans a hE35
 refine ⟨M,?_⟩
 refine aK 19 rfl (fun _ _=>bu rfl) M (hn (by kernel_rfl) (tn (Z _ _ (cb rfl (fun ac=> ?_) (fun ac=> ?_)))))
 exact rg rfl (p mv (p (a8 ((2 *r+2:Nat):Int) rfl rfl (aI (by omega) (by omega))) (ag (((⟨2 *r+2,(by omega),(Fk (by omega) ac),(aE G M),(Md.trans aa (M.mono (fun _ _ h=>h.elim))),rfl,rfl,rfl,rfl,rfl⟩))))))
 exact aA (tn (⟨2 *r+1,(by omega),(vy (by omega) (.inr ac)),(aE G M),(Md.trans aa (M.mono (fun _ _ h=>h.elim))),rfl,rfl,rfl,rfl,rfl⟩))
 refine aV 5 rfl (by kernel_rfl) rfl rfl rfl rfl a ?_
 refine aV 6 rfl (by kernel_rfl) rfl rfl rfl rfl a ?_
 refine aV 7 rfl (by kernel_rfl) rfl rfl rfl rfl a ?_
 refine aV 8 rfl (by kernel_rfl) rfl rfl rfl rfl a ?_
 refine aV 9 rfl (by kernel_rfl) rfl rfl rfl rfl a ?_
 refine aV 10 rfl (by kernel_rfl) rfl rfl rfl rfl a ?_
 refine aV 11 rfl (by kernel_rfl) rfl rfl rfl rfl a ?_
 refine aV 12 rfl (by kernel_rfl) rfl rfl rfl rfl a ?_
 refine aV 13 rfl (by kernel_rfl) rfl rfl rfl rfl a ?_
 refine aV 14 rfl (by kernel_rfl) rfl rfl rfl rfl a ?_
 refine aV 15 rfl (by kernel_rfl) rfl rfl rfl rfl a ?_
 refine aV 16 rfl (by kernel_rfl) rfl rfl rfl rfl a ?_
 refine aV 17 rfl (by kernel_rfl) rfl rfl rfl rfl a ?_
 refine aV 18 rfl (by kernel_rfl) rfl rfl rfl rfl a ?_
 exact aK 19 rfl (fun _ _=>bc rfl) a (hn (by kernel_rfl) (tn (Z _ _ (cf rfl (aA (tn (⟨2 *r+1,(by omega),(vy (by omega) (.inl (by omega))),(aE G (Md.refl _ _).drew),aa.drew,rfl,rfl,rfl,rfl,rfl⟩)))))))
 rintro V wC ⟨c,hc,am,I,al,aX,aZ,a0,a1,a2⟩
 refine fx 0 aX (fx 2 aZ (fx 3 a0 (fx 8 a1 (fx 9 a2 (sq (fun _ Z=>sq (fun _ av=> ?_)))))))
 have hdcn:=cY I
 have C:(fun w'=>Wk wC w') wC.drew:=(Md.refl _ _).drew
 refine bF (fun w'=>Wk wC w') rfl wide C (bm 0 rfl (.slice s n cp) C (bm 1 rfl (U first) C (bm 2 rfl (U r) C (aK 3 rfl (fun _ _=>a8 ((first+r:Nat):Int) rfl rfl (aI (by omega) (by omega))) C (aK 4 rfl (fun _ _=>aH aY rfl rfl (by omega) (ak.ok ((aB I).2) (a7 (by omega)))) C (aK 5 rfl (fun w' E=>ld ba rfl (bq (i:=first+r) ((aB I).2.wk E) (by omega))) C (bm 6 rfl (.slice s n cp) C ?_)))))))
 refine bm 7 rfl (U first) C (bm 8 rfl (U c) C (aK 9 rfl (fun _ _=>a8 ((first+c:Nat):Int) rfl rfl (aI (by omega) (by omega))) C (aK 10 rfl (fun _ _=>aH aY rfl rfl (by omega) (ak.ok ((aB I).2) (a7 (by omega)))) C (aK 11 rfl (fun w' E=>ld ba rfl (bq (i:=first+c) ((aB I).2.wk E) (by omega))) C (he 12 rfl (by kernel_rfl) (cl gn (gu A[first+r]! A[first+c]! _) rfl fun bd w51 aM=> ?_))))))
 obtain ⟨rfl,ay⟩:=aM
 have O:(fun w'=>Wk wC w') w51:=Md.trans C ay
 refine ⟨O,?_⟩
 refine aK 13 rfl (fun _ _=>no rfl) O (hn (by kernel_rfl) (tn (av _ _ (cb rfl (fun ad=> ?_) (fun ad=> ?_)))))
 refine rt (tr (br (tr (br (ny rfl ?_)))))
 exact ⟨rfl,by rw [← ah,am,if_pos ad]; exact aE I O,Md.trans al (O.mono (fun _ _ h=>h.elim))⟩
 refine aA (tn (Z _ _ (sq (fun _ ax=> ?_))))
 have hO6:=aE I O
 have j:(fun w'=>Wk w51 w') w51.drew:=(Md.refl _ _).drew
 refine da (fun w'=>Wk w51 w') 21 rfl wide j (aJ 0 rfl (.slice s n cp) j (aJ 1 rfl (U first) j (aJ 2 rfl (U r) j (a5 3 rfl (fun _=>a8 ((first+r:Nat):Int) rfl rfl (aI (by omega) (by omega))) (fun _=>j) (aJ 4 rfl (.slice s n cp) j (aJ 5 rfl (U first) j (aJ 6 rfl (U c) j ?_)))))))
 refine a5 7 rfl (fun _=>a8 ((first+c:Nat):Int) rfl rfl (aI (by omega) (by omega))) (fun _=>j) (aJ 8 rfl (.slice s n cp) j (aJ 9 rfl (U first) j (aJ 10 rfl (U c) j (a5 11 rfl (fun _=>a8 ((first+c:Nat):Int) rfl rfl (aI (by omega) (by omega))) (fun _=>j) (a5 12 rfl (fun _=>aH aY rfl rfl (by omega) (ak.ok ((aB hO6).2) (a7 (by omega)))) (fun _=>j) (cT 13 rfl (fun w' E=>ld ba rfl (bq (i:=first+c) ((aB hO6).2.wk E) (by omega))) j (aJ 14 rfl (.slice s n cp) j ?_)))))))
 refine aJ 15 rfl (U first) j (aJ 16 rfl (U r) j (a5 17 rfl (fun _=>a8 ((first+r:Nat):Int) rfl rfl (aI (by omega) (by omega))) (fun _=>j) (a5 18 rfl (fun _=>aH aY rfl rfl (by omega) (ak.ok ((aB hO6).2) (a7 (by omega)))) (fun _=>j) (cT 19 rfl (fun w' E=>ld ba rfl (bq (i:=first+r) ((aB hO6).2.wk E) (by omega))) j (a5 20 rfl (fun _=>aH aY rfl rfl (by omega) (ak.ok ((aB hO6).2) (a7 (by omega)))) (fun _=>j) (bJ 21 rfl (by kernel_rfl) (by kernel_rfl) (dq (u:=A[first+c]!) (first+r) (aE hO6 j) di rfl rfl rfl (by omega) fun bf aD aP=> ?_)))))))
 refine a5 22 rfl (fun _=>aH aY rfl rfl (by omega) (ak.ok ((aB hO6).2) (a7 (by omega)))) (fun h=>Bool.noConfusion ((show true =_ from by kernel_rfl).trans h)) (bJ 23 rfl (by kernel_rfl) (by kernel_rfl) (dq (u:=A[first+r]!) (first+c) aP di rfl rfl rfl (by omega) fun wS2 aF aQ=> ?_))
 have E:wS2.ownsRow B 71 1 (.slice s n cp) n (LE az (Go.Sort.swp A (first+r) (first+c))):=aQ
 have aC:Md (fun q=>(Value.slice s n cp).ownBlock=some q) w51 wS2:=Md.trans (j.mono (fun _ _ h=>h.elim)) (Md.trans aD aF)
 refine c9 (by kernel_rfl) ?_
 exact tn (ax _ _ (rg rfl (ae (U c) (p (bw (U c) rfl) (nl (bn (tn (⟨_,by omega,c,Go.Sort.swp A (first+r) (first+c),(by omega),((by rw [← ah,am,if_neg (by rw [ad]; exact Bool.noConfusion)])),E,(Md.trans al (Md.trans (O.mono (fun _ _ h=>h.elim)) aC)),rfl,rfl,rfl,rfl,rfl⟩))))))))
theorem vz (d:Array Nat) (lo hi first :Nat) (i c:Int) (B n cp:Nat) (a:Option Addr) (w:World) (j:w.ownsRow B 71 1 (.slice a n cp) n (LE az d)) (p:lo≤hi∧first+hi≤n) (hlo:i=(lo:Nat)) (s:c=(hi:Nat)) (A:n≤1099511627776):
 aT Tryz.prog 175 (List.toArray [.slice a n cp,.int .i64 i,.int .i64 c,.int .i64 (first :Nat)]) w (fun v w'=>v= .tuple #[]∧w'.ownsRow B 71 1 (.slice a n cp) n (LE az (Go.Sort.siftDown a4 hi first lo d))∧Md (fun q=>(Value.slice a n cp).ownBlock=some q) w w'):=by
 subst hlo s; exact Fl d lo hi first B n cp a w j p A
theorem Ct (d:Array Nat) (a b:Nat) (B n cp:Nat) (c:Option Addr) (w:World) (aD:w.ownsRow B 71 1 (.slice c n cp) n (LE az d)) (a2:a < b∧b≤n) (Z:n≤1099511627776):
 aT Tryz.prog 157 (List.toArray [.slice c n cp,U a,U b]) w (fun v w'=>v= .tuple #[]∧w'.ownsRow B 71 1 (.slice c n cp) n (LE az (Go.Sort.heapSort a4 d a b))∧Md (fun q=>(Value.slice c n cp).ownBlock=some q) w w'):=by
 refine enter Tryz.func157 rfl Tryz.ntmps157 rfl ?_
 refine ab (fun _ aa=>(ae (U a) (p (bw (U a) rfl) (aj ((aa _ _ (ab (fun _ ai=> ?_))))))))
 refine ag (((ai _ _ (ab (fun _ al=>(ae (U b) (ae (U a) (p (bK ((b - a:Nat):Int) rfl rfl (aI (by omega) (by omega))) ?_))))))))
 refine ag (((al _ _ (sq (fun _ am=>ab (fun _ an=>(p mv (p (bK ((b - a - 1:Nat):Int) rfl rfl (aI (by omega) (by omega))) ?_))))))))
 refine p (jG (((b - a - 1) / 2:Nat):Int) rfl rfl (by omega) (aI (by omega) (by omega))) (ag (((an _ _ (au (lp (fun I E Y=> ∃ (k:Nat) (s:Array Nat),(k≤b - a)∧(Go.Sort.heapBuild a4 (b - a) a k s=Go.Sort.heapBuild a4 (b - a) a ((b - a - 1) / 2 +1) d)∧(Y.ownsRow B 71 1 (.slice c n cp) n (LE az s))∧(Md (fun q=>(Value.slice c n cp).ownBlock=some q) w Y)∧(E 0= .slice c n cp)∧(E 6=U a)∧(E 7= .int .i64 0)∧(E 8=U (b - a))∧(E 9= .int .i64 ((k:Nat) - 1:Int))∧(k=I)) _ ⟨(b - a - 1) / 2 +1,d,(by omega),rfl,aD,(Md.refl _ _),rfl,rfl,rfl,rfl,(iv (by omega)),rfl⟩ ?_))))))
 rintro I E Y ⟨k,s,hk,V,A,J,aQ,aR,aS,aU,aV,rfl⟩
 refine fx 0 aQ (fx 6 aR (fx 7 aS (fx 8 aU (fx 9 aV (sq (fun _ ao=>ab (fun _ ap=>(ae (.int .i64 ((k:Nat) - 1:Int)) (p (ge rfl rfl) (aj ((ap _ _ ?_))))))))))))
 refine cd rfl (fun aM=> ?_) (fun aM=> ?_)
 refine aA (tn (ao _ _ (sq (fun _ O=>au (rg rfl (ae (.slice c n cp) (ae (.int .i64 ((k:Nat) - 1:Int)) (ae (U (b - a)) ?_))))))))
 refine ae (U a) (e (cl rY (vz s (k - 1) (b - a) a _ _ B n cp c _ A (by omega) (by omega) rfl Z) rfl fun a6 w26 aK=> ?_))
 obtain ⟨rfl,aF,ar⟩:=aK
 refine nl (bn (tn (O _ _ (rg rfl (ae (.int .i64 ((k:Nat) - 1:Int)) (p (sb rfl rfl (bp (by omega))) (p aw (nl ?_))))))))
 exact tn (⟨_,by omega,k - 1,Go.Sort.siftDown a4 (b - a) a (k - 1) s,(by omega),((by rw [← V,Ca (show 0 < k by omega)])),aF,(Md.trans J ar),rfl,rfl,rfl,rfl,(iv (by omega)),rfl⟩)
 refine ext (te _ (te _ (be (tn (am _ _ (ab (fun _ O=>(ae (U (b - a)) ?_))))))))
 refine p (bK ((b - a - 1:Nat):Int) rfl rfl (aI (by omega) (by omega))) (ag (((O _ _ (au (lp (fun I G C=> ∃ (k:Nat) (s:Array Nat),(k≤b - a)∧(Go.Sort.heapPop a4 a k s=Go.Sort.heapSort a4 d a b)∧(C.ownsRow B 71 1 (.slice c n cp) n (LE az s))∧(Md (fun q=>(Value.slice c n cp).ownBlock=some q) w C)∧(G 0= .slice c n cp)∧(G 6=U a)∧(G 7= .int .i64 0)∧(G 8=U (b - a))∧(G 10= .int .i64 ((k:Nat) - 1:Int))∧(k=I)) _ ⟨b - a,s,(by omega),((by rw [show k=0 by omega,Cb] at V; rw [V]; rfl)),A,J,rfl,rfl,rfl,rfl,(iv (by omega)),rfl⟩ ?_))))))
 rintro I G C ⟨k,s,a3,hq2,A,J,aW,aZ,a0,a1,aX,rfl⟩
 refine fx 0 aW (fx 6 aZ (fx 7 a0 (fx 8 a1 (fx 10 aX (sq (fun _ aq=>ab (fun _ ac=>(ae (.int .i64 ((k:Nat) - 1:Int)) (p (ge rfl rfl) (aj ((ac _ _ ?_))))))))))))
 refine cd rfl (fun aN=> ?_) (fun aN=> ?_)
 refine aA (tn (aq _ _ (sq (fun _ ad=>au (sq (fun _ ah=> ?_))))))
 have hdcn:=cY A
 have j:(fun w'=>Wk C w') C.drew:=(Md.refl _ _).drew
 refine da (fun w'=>Wk C w') 17 rfl wide j (aJ 0 rfl (.slice c n cp) j (aJ 1 rfl (U a) j (aJ 2 rfl (.slice c n cp) j (aJ 3 rfl (U a) j (aJ 4 rfl (.int .i64 ((k:Nat) - 1:Int)) j (a5 5 rfl (fun _=>a8 ((a+(k - 1):Nat):Int) rfl rfl (aI (by omega) (by omega))) (fun _=>j) (aJ 6 rfl (.slice c n cp) j ?_)))))))
 refine aJ 7 rfl (U a) j (aJ 8 rfl (.int .i64 ((k:Nat) - 1:Int)) j (a5 9 rfl (fun _=>a8 ((a+(k - 1):Nat):Int) rfl rfl (aI (by omega) (by omega))) (fun _=>j) (a5 10 rfl (fun _=>aH aY rfl rfl (by omega) (ak.ok ((aB A).2) (a7 (by omega)))) (fun _=>j) (cT 11 rfl (fun w' M=>ld ba rfl (bq (i:=a+(k - 1)) ((aB A).2.wk M) (by omega))) j (aJ 12 rfl (.slice c n cp) j (aJ 13 rfl (U a) j (a5 14 rfl (fun _=>aH aY rfl rfl (by omega) (ak.ok ((aB A).2) (a7 (by omega)))) (fun _=>j) ?_)))))))
 refine cT 15 rfl (fun w' M=>ld ba rfl (bq (i:=a) ((aB A).2.wk M) (by omega))) j (a5 16 rfl (fun _=>aH aY rfl rfl (by omega) (ak.ok ((aB A).2) (a7 (by omega)))) (fun _=>j) (bJ 17 rfl (by kernel_rfl) (by kernel_rfl) (dq (u:=s[a+(k - 1)]!) (a) (aE A j) di rfl rfl rfl (by omega) fun bc ay aO=> ?_)))
 refine a5 18 rfl (fun _=>aH aY rfl rfl (by omega) (ak.ok ((aB A).2) (a7 (by omega)))) (fun h=>Bool.noConfusion ((show true =_ from by kernel_rfl).trans h)) (bJ 19 rfl (by kernel_rfl) (by kernel_rfl) (dq (u:=s[a]!) (a+(k - 1)) aO di rfl rfl rfl (by omega) fun wS2 aC aP=> ?_))
 have M:wS2.ownsRow B 71 1 (.slice c n cp) n (LE az (Go.Sort.swp s (a) (a+(k - 1)))):=aP
 have ax:Md (fun q=>(Value.slice c n cp).ownBlock=some q) C wS2:=Md.trans (j.mono (fun _ _ h=>h.elim)) (Md.trans ay aC)
 refine c9 (by kernel_rfl) ?_
 refine tn (ah _ _ (rg rfl (ae (.slice c n cp) (ae (.int .i64 0) (ae (.int .i64 ((k:Nat) - 1:Int)) (ae (U a) (e (cl rY (vz (Go.Sort.swp s a (a+(k - 1))) 0 (k - 1) a _ _ B n cp c _ M (by omega) rfl (by omega) Z) rfl fun a9 bb aL=> ?_))))))))
 obtain ⟨rfl,aG,av⟩:=aL
 refine nl (bn (tn (ad _ _ (rg rfl (ae (.int .i64 ((k:Nat) - 1:Int)) (p (sb rfl rfl (bp (by omega))) (p aw (nl ?_))))))))
 exact tn (⟨_,by omega,k - 1,Go.Sort.siftDown a4 (k - 1) a 0 (Go.Sort.swp s a (a+(k - 1))),(by omega),((by rw [← hq2,Cv (show 0 < k by omega)])),aG,(Md.trans J (Md.trans ax av)),rfl,rfl,rfl,rfl,(iv (by omega)),rfl⟩)
 refine ext (te _ (te _ (be (f0 rfl ?_))))
 exact ⟨rfl,by rw [← hq2,show k=0 by omega]; exact A,J⟩
theorem ER (d:Array Nat) (a b:Nat) (B n cp:Nat) (s:Option Addr) (w:World) (am:w.ownsRow B 71 1 (.slice s n cp) n (LE az d)) (ax:a < b∧b≤n) (ay:n≤1099511627776):
 aT Tryz.prog 160 (List.toArray [.slice s n cp,U a,U b]) w (fun v w'=>v= .tuple #[]∧w'.ownsRow B 71 1 (.slice s n cp) n (LE az (Go.Sort.reverseRange d a b))∧Md (fun q=>(Value.slice s n cp).ownBlock=some q) w w'):=by
 refine enter Tryz.func160 rfl Tryz.ntmps160 rfl ?_
 refine ab (fun _ V=>(ae (U a) (p (bw (U a) rfl) (aj ((V _ _ (ab (fun _ Y=> ?_))))))))
 refine ae (U b) (p (bK ((b - 1:Nat):Int) rfl rfl (aI (by omega) (by omega))) (ag (((Y _ _ (au (lp (fun J I E=> ∃ (i j:Nat) (C:Array Nat),(i≤n∧j < n)∧(Go.Sort.reverseLoop i j C=Go.Sort.reverseRange d a b)∧(E.ownsRow B 71 1 (.slice s n cp) n (LE az C))∧(Md (fun q=>(Value.slice s n cp).ownBlock=some q) w E)∧(I 0= .slice s n cp)∧(I 6=U i)∧(I 7=U j)∧(j - i=J)) _ ⟨a,b - 1,d,(by omega),rfl,am,(Md.refl _ _),rfl,rfl,rfl,rfl⟩ ?_)))))))
 rintro J I E ⟨i,j,C,hi,O,A,M,aq,ar,av,rfl⟩
 refine fx 0 aq (fx 6 ar (fx 7 av (sq (fun _ Z=>ab (fun _ aa=>(ae (U i) (ae (U j) (p (lt rfl rfl) (nl ?_)))))))))
 refine tn (aa _ _ (cd rfl (fun an=> ?_) (fun an=> ?_)))
 refine aA (tn (Z _ _ (au (sq (fun _ ac=> ?_)))))
 have hdcn:=cY A
 have c:(fun w'=>Wk E w') E.drew:=(Md.refl _ _).drew
 refine da (fun w'=>Wk E w') 13 rfl wide c (aJ 0 rfl (.slice s n cp) c (aJ 1 rfl (U i) c (aJ 2 rfl (.slice s n cp) c (aJ 3 rfl (U j) c (aJ 4 rfl (.slice s n cp) c (aJ 5 rfl (U j) c (a5 6 rfl (fun _=>aH aY rfl rfl (by omega) (ak.ok ((aB A).2) (a7 (by omega)))) (fun _=>c) ?_)))))))
 refine cT 7 rfl (fun w' G=>ld ba rfl (bq (i:=j) ((aB A).2.wk G) (by omega))) c (aJ 8 rfl (.slice s n cp) c (aJ 9 rfl (U i) c (a5 10 rfl (fun _=>aH aY rfl rfl (by omega) (ak.ok ((aB A).2) (a7 (by omega)))) (fun _=>c) (cT 11 rfl (fun w' G=>ld ba rfl (bq (i:=i) ((aB A).2.wk G) (by omega))) c (a5 12 rfl (fun _=>aH aY rfl rfl (by omega) (ak.ok ((aB A).2) (a7 (by omega)))) (fun _=>c) (bJ 13 rfl (by kernel_rfl) (by kernel_rfl) (dq (u:=C[j]!) (i) (aE A c) di rfl rfl rfl (by omega) fun aC ai ao=> ?_)))))))
 refine a5 14 rfl (fun _=>aH aY rfl rfl (by omega) (ak.ok ((aB A).2) (a7 (by omega)))) (fun h=>Bool.noConfusion ((show true =_ from by kernel_rfl).trans h)) (bJ 15 rfl (by kernel_rfl) (by kernel_rfl) (dq (u:=C[i]!) (j) ao di rfl rfl rfl (by omega) fun wS2 al ap=> ?_))
 have G:wS2.ownsRow B 71 1 (.slice s n cp) n (LE az (Go.Sort.swp C (i) (j))):=ap
 have ah:Md (fun q=>(Value.slice s n cp).ownBlock=some q) E wS2:=Md.trans (c.mono (fun _ _ h=>h.elim)) (Md.trans ai al)
 refine c9 (by kernel_rfl) ?_
 refine tn (ac _ _ (ab (fun _ ad=>(ae (U i) (p (a8 ((i+1:Nat):Int) rfl rfl (aI (by omega) (by omega))) (ag (((ad _ _ ?_)))))))))
 exact rg rfl (ae (U j) (p (bK ((j - 1:Nat):Int) rfl rfl (aI (by omega) (by omega))) (p aw (nl (bn (tn (⟨_,by omega,i+1,j - 1,Go.Sort.swp C i j,(by omega),((by rw [← O,EO (show i < j by omega)])),G,(Md.trans M ah),rfl,rfl,rfl,rfl⟩)))))))
 refine ext (te _ (te _ (be (f0 rfl ?_))))
 exact ⟨rfl,by rw [← O,EP (by omega)]; exact A,M⟩
end Go.Hb.kg
end
