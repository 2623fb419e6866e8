/-
  Walks and plain laws that the law rests on, laid together. No conditions but those that each theorem names.
-/
import Derived.Test.YtiagknaekaknhaaGreatDoorMnJoinedMade1
set_option linter.unusedVariables false
open Array renaming getElem?_eq_some_iff→dq,toList_map→ix
open Bool renaming and_eq_true→a9,and_false→uc,false_eq_true→mw
open Go.Calls renaming mono→j3
open Go.CallsD renaming mono→Em
open Go.Code renaming wp_mono→Ep
open Go.Deferred renaming ofValue→lB
open Go renaming Edge→bR,Exit→bd,FuncId→dU,IntKind→bw,Oper→aC,Operand→aY,Program→av,TypeId→aw,Value→ag,World→ah
open Go.Exit renaming inBlock→pJ
open Go.Extern.BytealgIndexByte renaming indexByte→No
open Go.Fence renaming wide→eR
open Go.Instr renaming checkKey→kz,field→Ew,findKey→nP,findNow→nQ,keyThatStays→rq,sameBits→EA,sameNow→yG,sliceAt→nR,sliceBounds→kA,typeAssert→EB
open Go.Lib renaming indexByte→EC
open Go.Oper renaming upon→iA,wp→gB
open Go.Region renaming Mode→nX,ready→dw
open Go.Rows renaming mono→yM
open Go.Value.slice renaming injEq→pN
open Go.World renaming alloc_heap_new→EJ,putObj_heap_other→lE,putObj_heap_same→uj
open List.Nodup renaming length_le_of_subset→ER
open List renaming append_assoc→gC,append_nil→js,flatMap_cons→pQ,foldlM_append→EZ,foldlM_cons→pR,foldlM_nil→pS,foldl_cons→iC,getD_cons_zero→ur,getD_eq_getElem?_getD→cn,getElem?_cons_zero→iD,getElem?_drop→iE,getElem?_eq_getElem→bt,getElem?_eq_none→jt,getElem?_eq_some_iff→cB,getElem?_map→eV,getElem?_toArray→lG,getElem_take→uv,getLast?_eq_some_getLast→E3,idxOf_append→uw,idxOf_lt_length_of_mem→yP,length_cons→dm,length_drop→ju,length_set→iF,length_take→cV,mem_append→dx,mem_append_left→pU,mem_cons→eb,mem_cons_of_mem→gZ,mem_cons_self→hH,mem_filter→pV,mem_iff_getElem→uz,mem_range→lH,mem_range'_1→yR,mem_singleton→dN,nodup_cons→uD,not_mem_nil→uE,pairwise_iff_getElem→n4,range→iZ,range'→jw,replicate→dr,takeWhile_cons→Fa,take_of_length_le→j6,take_succ_eq_append_getElem→uH
open Nat renaming add_assoc→hJ,eq_or_lt_of_le→Fg,le_refl→aQ,le_trans→cG,lt_or_ge→dD,pow_succ→uL
open Option renaming bind_eq_bind→pY,bind_eq_some_iff→mE,map_eq_some_iff→fQ,map_some→fC,pure_def→p7
open Option.some renaming inj→fD,injEq→bH
open Prod.mk renaming injEq→hZ
open Go.Proofs.Tryz
open Go.RowKit

section
namespace Go.Hb
def mI (P:av) (f:dU) (args:Array ag) (w:ah) (R:ag→ah→Prop) (A:List PanicEntry→ah→Prop):Prop :=
 Calls P f args w fun e w'=>(∃ v,e= .returned v∧R v w')∨∃ c,e= .panicked c∧A c w'
def AT (P:av) (fn:Func) (N:Fm) (R:ag→ah→Prop) (A:List PanicEntry→ah→Prop):bd→(Nat→ag)→ah→Prop
 | .normal,σ,w=> ∃ v,(results fn (act N σ).tmps).run P w= .ok v w∧R v w
 | .ret,σ,w=> ∃ v,(results fn (act N σ).tmps).run P w= .ok v w∧R v w
 | .panic c,_,w=>A c w
 | _,_,_=>False
theorem qy {P:av} {fn:Func} {N:Fm} {R:ag→ah→Prop} {A:List PanicEntry→ah→Prop} {e:bd} {σ:Nat→ag} {w:ah} (h:fin P fn N R e σ w):AT P fn N R A e σ w:=by
 cases e <;> first | exact h | exact h.elim
theorem qt {P:av} {f:dU} {N:Nat} {fn:Func} {c:Code} {args:List ag} {w:ah} {R:ag→ah→Prop} {I:List PanicEntry→ah→Prop} (L:P.funcs[f]? =some fn) (hb:fn.body=some c)
 (J:fn.ntmps=N) (hn:Nat.ble args.length N=true) (h:bu P ⟨N,[],[],none⟩ c (AT P fn ⟨N,[],[],none⟩ R I) (du args) w):mI P f args.toArray w R I:=by
 subst J;refine calls_of_wp L hb ?_;rw [ng fn args [] hn];unfold bu at h;refine Ep ?_<|wpIn_wide.1 h;intro e a w A;cases e with
 | normal=>obtain ⟨σ,rfl,v,hr,E⟩:=A; exact ⟨rfl,v,hr,.inl ⟨v,rfl,E⟩⟩
 | ret=>obtain ⟨σ,rfl,v,hr,E⟩:=A; exact ⟨rfl,v,hr,.inl ⟨v,rfl,E⟩⟩
 | exit id=>obtain ⟨σ,rfl,C⟩:=A; exact C.elim
 | goto l=>obtain ⟨σ,rfl,C⟩:=A; exact C.elim
 | panic c=>obtain ⟨σ,rfl,C⟩:=A; exact ⟨rfl,.inr ⟨c,rfl,C σ fun _ _=>rfl⟩⟩
 | outgrown=>exact A.elim
section
variable {P:av} {N:Fm} {Q:bd→(Nat→ag)→ah→Prop} {σ:Nat→ag} {w:ah} {ops:Array aC} {rest:List aC} {dst:Option Nat} {ty:aw} {pos :String} {af:Array bR} {g:Option (Nat×Bool)} {x:aY}
def nJ (P:av) (N:Fm) (o:aC) (σ:Nat→ag) (w:ah) (K:(Nat→ag)→ah→Prop) (A:List PanicEntry→ah→Prop):Prop :=
 gB P o (act N σ) w (fun a w=> ∃ σ,a=act N σ∧K σ w) (fun e a w=>match e with | .panic c=>a=act N σ∧A c w | _=>False)
theorem yr {o:aC} {K:(Nat→ag)→ah→Prop} {C:List PanicEntry→ah→Prop} {A:Act→ah→Prop} (h:nJ P N o σ w K C) (L:∀ σ w,K σ w→A (act N σ) w) (hp:∀ c w',C c w'→∀ σ',(∀ i∈N.F,σ' i=σ i)→Q (.panic c) σ' w'):o.wp P (act N σ) w A (lift N Q):=by
 unfold nJ at h;unfold gB at*;generalize (execOp (act N σ).eval o).run P w=r at h ⊢;have E:∀ a w,(∃ σ,a=act N σ∧K σ w)→A a w:=by rintro a w ⟨σ,rfl,h⟩; exact L _ _ h
 have I:∀ c (a:Act) w',(a=act N σ∧C c w')→lift N Q (.panic c) a w':=by rintro c a w' ⟨rfl,h⟩; exact ⟨σ,rfl,hp c w' h⟩
 cases r with
 | ok n w'=>
   cases n <;> simp only [iA] at h ⊢ <;>
    first
     | exact E _ _ h
     | exact j3 h (fun e w'' he=>by
      cases e with
      | returned v=>exact E _ _ he
      | panicked c=>exact I _ _ _ ⟨rfl,he.2⟩
      | outgrown=>obtain ⟨_,_,J⟩:=he; exact J.elim)
     | exact yM h fun _ _ he=>E _ _ he
 | halt x w'=>cases x <;> simp only [iA] at h ⊢ <;> exact I _ _ _ ⟨rfl,h.2⟩
theorem eu {f:dU} {args:Array aY} {C:Array aw} {L:List ag} {R:ag→ah→Prop} {A:List PanicEntry→ah→Prop} {K:(Nat→ag)→ah→Prop} (O:gk P f) (hr:mI P f L.toArray w R A) (I:args.toList.map (ev N σ)=L)
 (k:∀ v w',R v w'→K (dv σ dst v) w'):nJ P N ⟨dst,.call ⟨.value (.func f),args,C⟩,ty,pos,af,g⟩ σ w K A:=by
 unfold nJ gB;have hm:args.map (ev N σ)=L.toArray:=by rw [← I,← ix]
 have U:(execOp (ev N σ) ⟨dst,.call ⟨.value (.func f),args,C⟩,ty,pos,af,g⟩).run P w= .ok (.enter f L.toArray) w:=by
  have E:=O L.toArray w;simp [execOp,resolve,ev,lB,invoke,hm,E]
 rw [dt,U];simp only [iA];refine j3 hr ?_;rintro e w' (⟨v,rfl,M⟩ | ⟨c,rfl,J⟩)
 · exact ⟨_,eI ..,k v w' M⟩
 · exact ⟨trivial,J⟩
theorem eP {o:aC} {A:List PanicEntry→ah→Prop} (E:o.guard=none) (h:nJ P N o σ w (fun σ w=>bQ P N ops Q rest σ w) A) (hp:∀ c w',A c w'→∀ σ',(∀ i∈N.F,σ' i=σ i)→Q (.panic c) σ' w'):bQ P N ops Q (o::rest) σ w:=by
 unfold bQ wpList;rw [if_pos (fl o E _)];refine .inl<|yr h (fun σ w C=> ?_) hp;unfold bQ at C; exact C
theorem Ke {t:aw} {v:ag} (A:ev N σ x= .iface t v) (hp:∀ σ',(∀ i∈N.F,σ' i=σ i)→Q (.panic [{v:= .iface t v,recovered:=false}]) σ' w):bQ P N ops Q (⟨dst,.panic x,ty,pos,af,none⟩::rest) σ w:=by
 unfold bQ wpList;rw [if_pos (fl _ rfl _)];refine .inl ?_;unfold gB;have hr:(execOp (ev N σ) ⟨dst,.panic x,ty,pos,af,none⟩).run P w= .halt (.panic<|.iface t v) w:=by
  simp [execOp,A,Instr.panic]
 rw [dt,hr];exact ⟨σ,U,hp⟩
theorem JG {t:aw} {d:TypeDesc} {v:ag} (hu:P.underlying t=some d) (A:(match d with | .interface _=>false | _=>true)=true) (C:ev N σ x=v):(execOp (ev N σ) ⟨dst,.makeInterface t x,ty,pos,af,g⟩).run P w= .ok (.value<|.iface t v) w:=by
 cases d <;> first | (cases A; done) | simp [execOp,Instr.makeInterface,C,bA hu]
def kf (P:av) (t:aw):Bool:=match P.underlying t with | some (.interface _)=>false | some _=>true | none=>false
theorem wY {t:aw} {v:ag} (h:kf P t=true) (A:ev N σ x=v):(execOp (ev N σ) ⟨dst,.makeInterface t x,ty,pos,af,g⟩).run P w= .ok (.value<|.iface t v) w:=by
 unfold kf at h;cases hd:P.underlying t with
 | none=>rw [hd] at h; cases h
 | some d=>rw [hd] at h; exact JG hd (by cases d <;> first | rfl | cases h) A
theorem Dp {xt a:aw} {zv:ag} (hu:kf P a=true) (C:zeroV P a=some zv) (A:ev N σ x= .nilIface):(execOp (ev N σ) ⟨dst,.typeAssert x xt a true,ty,pos,af,g⟩).run P w= .ok (.value<|.tuple #[zv,.bool false]) w:=by
 unfold kf at hu;cases hd:P.underlying a with
 | none=>rw [hd] at hu; cases hu
 | some d=>rw [hd] at hu; cases d <;> first | (cases hu; done) | simp [execOp,EB,A,bA hd,DV C]
theorem Dn {xt a:aw} {v:ag} (hu:kf P a=true) (A:ev N σ x= .iface a v):(execOp (ev N σ) ⟨dst,.typeAssert x xt a true,ty,pos,af,g⟩).run P w= .ok (.value<|.tuple #[v,.bool true]) w:=by
 unfold kf at hu;cases hd:P.underlying a with
 | none=>rw [hd] at hu; cases hu
 | some d=>rw [hd] at hu; cases d <;> first | (cases hu; done) | simp [execOp,EB,A,bA hd]
variable {S:ah→Prop} {fuel:Nat} {listed:Array Bool}
theorem Ir {o:aC} {C:List PanicEntry→ah→Prop} (i:Nat) (hi:ops[i]? =some o) (hr:gO ops listed i=true) (E:o.guard=none)
 (h:nJ P N o σ w (fun σ w=>S w∧cm P N ops Q S fuel (listed.setIfInBounds i true) σ w) C) (hp:∀ c w',C c w'→∀ σ',(∀ i∈N.F,σ' i=σ i)→Q (.panic c) σ' w'):cm P N ops Q S (fuel+1) listed σ w:=by
 unfold cm at*;refine wpAnyH_all (rs:= [i]) (by simpa [gO] using hr) (by simp) ?_;intro k A;obtain rfl :k=i:=by simpa using A
 unfold wpOp;simp only [hi];rw [if_pos (fl _ E _)];exact .inl<|yr h (fun σ w A=>A) hp
end
section
variable {P:av} {N:Fm} {Q:bd→(Nat→ag)→ah→Prop} {σ:Nat→ag} {w:ah} {ops:Array aC} {S:ah→Prop} {fuel:Nat} {listed:Array Bool}
end
section
variable {P:av} {N:Fm} {Q:bd→(Nat→ag)→ah→Prop} {σ:Nat→ag} {w:ah} {ops:Array aC} {S:ah→Prop} {fuel r:Nat} {listed:Array Bool}
theorem I4 {o:aC} {C:List PanicEntry→ah→Prop} (i:Nat) (hi:ops[i]? =some o) (hr:gO ops listed i=true) (I:o.guard=none)
 (h:nJ P N o σ w (fun σ w=>S w∧cx P N ops Q S r fuel (listed.setIfInBounds i true) σ w) C) (hp:∀ c w',C c w'→∀ σ',(∀ i∈N.F,σ' i=σ i)→Q (.panic c) σ' w'):cx P N ops Q S r (fuel+1) listed σ w:=by
 unfold cx at*;have E:dw .any ops listed= [i]:=by simpa [gO] using hr
 refine ⟨fun h0=>absurd (E ▸ h0) (by simp),fun k A=> ?_⟩;rw [E] at A;obtain rfl :k=i:=by simpa using A
 unfold wpOp;simp only [hi];rw [if_pos (fl _ I _)];exact .inl<|yr h (fun σ w A=>⟨fun _=>A.1,A.2⟩) hp
end
abbrev lK (P:av) (fn:Func) (R:ag→ah→Prop):bd→Act→ah→Prop :=bodyPostD P fn (fun e w'=> ∃ v,e= .returned v∧R v w')
theorem Hw {P:av} {f:dU} {N:Nat} {fn:Func} {c:Code} {args:List ag} {w:ah} {R:ag→ah→Prop} (F:List Nat) (C:P.funcs[f]? =some fn) (hb:fn.body=some c)
 (A:fn.ntmps=N) (hn:Nat.ble args.length N=true) (h:eQ P ⟨N,[],F,none⟩ c (lK P fn R) (du args) w):bo P f args.toArray w R:=by
 subst A;refine calls_of_wp_defers C hb ?_;rw [ng fn args F hn];exact wpIn_wide.1 h
section
variable {P:av} {n:Nat} {D:List Deferred} {F:List Nat} {σ:Nat→ag} {w:ah} {fn:Func} {R:ag→ah→Prop} {B:bd→Act→ah→Prop}
theorem HP {v:ag} (hr:(results fn (act ⟨n,[],F,none⟩ σ).tmps).run P w= .ok v w) (A:R v w):qb ⟨n,[],F,none⟩ (lK P fn R) .ret σ w:=⟨v,hr,v,rfl,A⟩
theorem I6:¬LetsOut (lK P fn R):=fun ⟨_,_,h⟩=>by obtain ⟨v,h,_⟩:=h; cases h
theorem kO {id d:Nat} {f:dU} (M:¬LetsOut B) {cs:Array aY} {I J:aw} {p1 p2:String} {C E:Array bR} {y:Code} (A:Array ag) (V:cs.toList.map (ev ⟨n,[],F,none⟩ σ)=A.toList) (ab:d < n)
 (h:eQ P ⟨n,[{target:= .fn (.func f) A,args:= #[]}],F,none⟩ y B (aX σ d<|.func (.func f) #[] A) w):
 eQ P ⟨n,[],F,none⟩ (.region id #[⟨some d,.makeFunc (.func f) #[] cs,I,p1,C,none⟩,⟨none,.defer ⟨.value (.tmp d),#[],#[]⟩,J,p2,E,none⟩] false) (Exit.then (y.wpIn (fe none) 0 P B) B) σ w:=by
 have Z:cs.map (ev ⟨n,[],F,none⟩ σ)=A:=Array.toList_inj.1<|by rw [ix]; exact V
 refine wpIn_region ?_;have O:¬LetsOut (Exit.then (y.wpIn (fe none) 0 P B) B):=fun ⟨a,w,h⟩=>M ⟨a,w,h⟩;refine wg (r:=none) O U _ _ _ ?_;show wpOps P _ _ [0,1] _ _;simp only [wpOps,lG,iD,List.getElem?_cons_succ];rw [if_pos (fl _ rfl _)];refine .inl ?_;unfold gB;have h1:(execOp (act ⟨n,[],F,none⟩ σ).eval ⟨some d,.makeFunc (.func f) #[] cs,I,p1,C,none⟩).run P w= .ok (.value<|.func (.func f) #[] A) w:=by
  rw [dt,mf,Z]; simp
 rw [h1];simp only [iA];rw [if_pos (fl _ rfl _),eI];refine .inl ?_;have L:(execOp (act ⟨n,[],F,none⟩<|dv σ (some d)<|.func (.func f) #[] A).eval ⟨none,.defer ⟨.value (.tmp d),#[],#[]⟩,J,p2,E,none⟩).run P w= .ok (.defer {target:= .fn (.func f) A,args:= #[]}) w:=by
  have ac:ev ⟨n,[],F,none⟩ (aX σ d<|.func (.func f) #[] A) (.tmp d)= .func (.func f) #[] A:=by
   show cond (Nat.blt d n) (aX σ d _ d) undef=_;rw [show Nat.blt d n=true from by simpa using ab];show aX σ d _ d=_;unfold aX; simp
  rw [dt];show (execOp (ev ⟨n,[],F,none⟩<|aX σ d<|.func (.func f) #[] A) _).run P w=_;simp [execOp,resolve,ac,lB]
 rw [L];exact h
end
theorem J6 {P:av} {ops:Array aC} {Q:bd→Act→List Frame→ah→Prop} {cs:List Frame} (A:¬LetsOut fun e a w=>Q e a cs w):∀ (l:List Nat) (a:Act) (w:ah),wpOps P ops (fun e a w=>Q e a cs w) l a w→wpOpsS P ops Q l a cs w:=by
 intro l
 induction l with
 | nil=>exact fun _ _ h=>h
 | cons i l ih=>
   intro a w h;simp only [wpOps] at h;simp only [wpOpsS];cases ho:ops[i]? with
   | none=>simp only [ho] at h ⊢; exact ih a w h
   | some o=>
     simp only [ho] at h ⊢;by_cases hw:Region.wanted o (yielded ops a.tmps)=true
     · rw [if_pos hw] at h ⊢;rcases h with h | h
       · unfold gB at h;generalize (execOp a.eval o).run P w=x at h;cases x with
         | ok n w'=>
           cases n <;> simp only [iA] at h ⊢ <;>
            first
             | exact ih _ _ h
             | exact j3 h fun e w'' he=>by cases e <;> first | exact ih _ _ he | exact he
             | exact yM h fun v w'' he=>ih _ _ he
         | halt x w'=>cases x <;> simp only [iA] at h ⊢ <;> exact h
       · exact absurd h.2 A
     · rw [if_neg hw] at h ⊢;exact ih _ _ h
theorem Jc {P:av} {ops:Array aC} {Q C:bd→Act→ah→Prop} (A:∀ e a w,Q e a w→C e a w) (E:¬LetsOut Q):∀ (l:List aC) (a:Act) (w:ah),wpList P ops Q l a w→wpList P ops C l a w:=by
 intro l
 induction l with
 | nil=>exact fun _ _ h=>A _ _ _ h
 | cons o l ih=>
   intro a w h;unfold wpList at h ⊢;split at h
   · rename_i hw;rw [if_pos hw];rcases h with h | h
     · left;unfold gB at h ⊢;generalize (execOp a.eval o).run P w=x at h;cases x with
       | ok n w'=>
         cases n <;> simp only [iA] at h ⊢ <;>
          first
           | exact ih _ _ h
           | exact j3 h (fun e w'' he=>by
            cases e with
            | returned v=>exact ih _ _ he
            | panicked c=>exact A _ _ _ he
            | outgrown=>exact absurd he E)
           | exact yM h fun v w'' he=>ih _ _ he
       | halt x w'=>cases x <;> simp only [iA] at h ⊢ <;> exact A _ _ _ h
     · exact absurd h.2 E
   · rename_i hw;rw [if_neg hw]; exact ih _ _ h
theorem zD {P:av} {f:dU} {fn:Func} {id N d:Nat} {ty:aw} {pos :String} {af:Array bR} {rest:List aC} {y:Code} {args:List ag} {w:ah} {u I:FrameMode} {v:ag} {R:ah→Prop}
 (ai:P.funcs[f]? =some fn) (hb:fn.body=some (.seq (.region id (⟨some d,.call ⟨.builtin .recover,#[],#[]⟩,ty,pos,af,none⟩::rest).toArray false) y)) (ad:fn.ntmps=N) (hn:Nat.ble args.length N=true)
 (aj:∀ (C:Frame) (cs:List Frame),C.mode=u→(recoverD (C::cs)=some (v,{C with mode:=I} ::cs))∨(recoverD (C::cs)=none∧v= .nilIface∧I=u))
 (h:bQ P ⟨N,[],[],none⟩ (⟨some d,.call ⟨.builtin .recover,#[],#[]⟩,ty,pos,af,none⟩::rest).toArray (gS (fun σ w=>bu P ⟨N,[],[],none⟩ y (fin P fn ⟨N,[],[],none⟩ fun _ w=>R w) σ w)<|fin P fn ⟨N,[],[],none⟩ fun _ w=>R w) rest (aX (du args) d v) w):
 CallsD P f args.toArray u w fun e J w'=> ∃ v,e= .returned v∧J=I∧R w':=by
 subst ad;refine callsD_of_wpS ai hb ?_;intro C cs hu;rw [ng fn args [] hn];refine wpS_seq<|wpS_region ?_;have ak:iZ (⟨some d,.call ⟨.builtin .recover,#[],#[]⟩,ty,pos,af,none⟩::rest).toArray.size=0::(jw 1 rest.length):=by
  rw [List.size_toArray,dm,List.range_eq_range',List.range'_succ]
 rw [ak];simp only [wpOpsS,lG,iD];rw [if_pos (fl _ rfl _)];have al:(execOp (act ⟨fn.ntmps,[],[],none⟩<|du args).eval ⟨some d,.call ⟨.builtin .recover,#[],#[]⟩,ty,pos,af,none⟩).run P w= .ok .recover w:=by
  rw [dt];simp [execOp,resolve,invoke,builtin]
 rw [al];simp only;obtain ⟨L,M⟩:∃ L,L=({C with mode:=I} ::cs:List Frame):=⟨_,rfl⟩
 have ae:∀ X:Act→List Frame→Prop,X ((act ⟨fn.ntmps,[],[],none⟩<|du args).put (some d) v) L→
  (match recoverD (C::cs) with
   | some (v,O)=>X ((act ⟨fn.ntmps,[],[],none⟩<|du args).put (some d) v) O
   | none=>X ((act ⟨fn.ntmps,[],[],none⟩<|du args).put (some d) .nilIface) (C::cs)):=by
  intro X V;rcases aj C cs hu with h1 | ⟨h1,ab,ac⟩;rw [h1]; subst M; exact V;rw [h1]; subst ab ac;have :({C with mode:=I} :Frame)=C:=by subst hu; rfl
  rw [this] at M; subst M; exact V
 refine ae (fun a O=>wpOpsS P _ _ _ a O w) ?_;rw [eI];refine J6 ?_ _ _ _ ?_;rintro ⟨a,w,h⟩;simp only [Exit.thenS,bodyPostS] at h;obtain ⟨_,_,h,_⟩:=h; cases h;have h1:=wpOps_eq_wpList (P:=P) (ops:=(⟨some d,.call ⟨.builtin .recover,#[],#[]⟩,ty,pos,af,none⟩::rest).toArray) (Q:=fun e a w'=>Exit.thenS (Code.wpS P y (bodyPostS P fn C cs fun e J w'=> ∃ v,e= .returned v∧J=I∧R w')) (bodyPostS P fn C cs fun e J w'=> ∃ v,e= .returned v∧J=I∧R w') e a L w') rest 1 fun j=>by simp [Nat.add_comm]
 rw [h1];unfold bQ at h;refine Jc ?_ wN _ _ _ h;intro e a w' E;have Z:∀ (e:bd) (σ:Nat→ag) (w':ah),fin P fn ⟨fn.ntmps,[],[],none⟩ (fun _ w=>R w) e σ w'→bodyPostS P fn C cs (fun e J w'=> ∃ v,e= .returned v∧J=I∧R w') e (act ⟨fn.ntmps,[],[],none⟩ σ) L w':=by
  intro e σ w' A;cases e with
  | normal=>obtain ⟨v,hr,U⟩:=A; exact ⟨rfl,I,M,v,hr,v,rfl,rfl,U⟩
  | ret=>obtain ⟨v,hr,U⟩:=A; exact ⟨rfl,I,M,v,hr,v,rfl,rfl,U⟩
  | _=>exact A.elim
 cases e with
 | normal=>
   obtain ⟨σ,rfl,A⟩:=E;refine wpS_of_wp ?_;simp only [gS] at A;unfold bu at A;refine Ep ?_<|wpIn_wide.1 A;intro e a w' E;cases e with
   | panic c=>obtain ⟨σ,rfl,A⟩:=E; exact (A σ fun _ _=>rfl).elim
   | outgrown=>exact E.elim
   | _=>obtain ⟨σ,rfl,A⟩:=E; exact Z _ σ w' A
 | panic c=>obtain ⟨σ,rfl,A⟩:=E; exact (A σ fun _ _=>rfl).elim
 | outgrown=>exact E.elim
 | ret=>obtain ⟨σ,rfl,A⟩:=E; exact Z .ret σ w' A
 | exit i=>obtain ⟨σ,rfl,A⟩:=E; exact A.elim
 | goto i=>obtain ⟨σ,rfl,A⟩:=E; exact A.elim
section
variable {P:av} {n:Nat} {F:List Nat} {σ:Nat→ag} {w:ah} {fn:Func} {R:ag→ah→Prop}
theorem HS {g:dU} {A:Array ag} {M:ah→Prop} (hu:(invoke (.fn (.func g) A) #[]).run P w= .ok (.enter g A) w)
 (I:CallsD P g A .returning w fun e J w'=> ∃ v,e= .returned v∧J= .returning∧M w') (E:∀ w',M w'→∃ v,(results fn (act ⟨n,[{target:= .fn (.func g) A,args:= #[]}],F,none⟩ σ).tmps).run P w'= .ok v w'∧R v w'):
 qb ⟨n,[{target:= .fn (.func g) A,args:= #[]}],F,none⟩ (lK P fn R) .ret σ w:=by
 refine leaves_cons (by simp) hu ?_;refine Em I ?_;rintro e L w' ⟨v,rfl,rfl,hm⟩;obtain ⟨v2,h1,C⟩:=E w' hm;exact ⟨v2,h1,v2,U,C⟩
theorem HT {g:dU} {A:Array ag} {M:ah→Prop} {v:ag} (hu:(invoke (.fn (.func g) A) #[]).run P w= .ok (.enter g A) w)
 (I:CallsD P g A (.panicking [{v:=v,recovered:=false}]) w fun e J w'=> ∃ x,e= .returned x∧J= .panicking [{v:=v,recovered:=true}]∧M w') (E:∀ w',M w'→∃ v,(results fn (act ⟨n,[{target:= .fn (.func g) A,args:= #[]}],F,none⟩ σ).tmps).run P w'= .ok v w'∧R v w'):
 qb ⟨n,[{target:= .fn (.func g) A,args:= #[]}],F,none⟩ (lK P fn R) (.panic [{v:=v,recovered:=false}]) σ w:=by
 refine leaves_cons (by simp) hu ?_;refine Em I ?_;rintro e L w' ⟨x,rfl,rfl,hm⟩;obtain ⟨v2,h1,C⟩:=E w' hm;exact ⟨v2,h1,v2,U,C⟩
end
end Go.Hb
end
section
namespace Go.Hb
abbrev Tl:=List<|List UInt8
def vX:Tl→List (UInt8×Tl)
 | []=> []
 | []::ts=>vX ts
 | (c::t)::ts=>match vX ts with
   | []=> [(c,[t])]
   | (c',g)::r=>if c=c' then (c,t::g)::r else (c,[t])::(c',g)::r
def IA (A:Tl):Bool:=match A with | []::_=>true | _=>false
def Hm (A:Tl):Tl:=match A with | []::r=>r | r=>r
structure VS where
 known:List Tl
 kr:List (Bool×List (UInt8×Nat))
def VS.add (s:VS) (A:Tl):VS:=⟨s.known++ [A],s.kr++ [(false,[])]⟩
end Go.Hb
namespace Go.Hb
end Go.Hb
namespace Go.Hb
abbrev Ft:=Bool×List (UInt8×Nat)
end Go.Hb
namespace Go.Hb
def tk (l:List (UInt8×Nat)):Prop :=l.Pairwise fun a b=>a.1.toNat < b.1.toNat
end Go.Hb
namespace Go.Hb
def Hv (A:List Tl) (p:UInt8×Tl):UInt8×Nat:=(p.1,A.idxOf p.2+1)
def enc (A:List Tl) (L:Tl):Ft:=(IA L,(vX<|Hm L).map (Hv A))
end Go.Hb
namespace Go.Hb
def nm (A:List Tl) (i:Nat):Tl:=A.getD (i - 1) []
end Go.Hb
namespace Go.Hb
end Go.Hb
namespace Go.Hb
end Go.Hb
end
section
namespace Go.Hb
end Go.Hb
namespace Go.Hb
def nv (n:Nat):ag:= .int .i64 n
theorem eO {h:Array Obj} {a:Option Addr} {r:List Nat} {i x:Nat} (A:aV h a (r.map nv)) (hi:r[i]? =some x):ay h (bk a) (fo a+i*1)=some (.int .i64 (x:Nat)):=by
 rw [Nat.mul_one]; exact A.ay _ _<|by rw [eV,hi]; rfl
section
variable {P:av} {N:Fm} {σ:Nat→ag} {w:ah} {dst:Option Nat} {ty:aw} {pos :String} {af:Array bR} {g:Option (Nat×Bool)} {x y z:aY}
end
end Go.Hb
namespace Go.Hb
abbrev aM:Type :=Bool×List (UInt8×Int)
def dI:aM:=(false,[])
abbrev aD (a:List aM) (n:Nat):aM:=a.getD n dI
def dP (l:List (UInt8×Int)):Prop :=l.Pairwise fun x y=>x.1.toNat < y.1.toNat
instance (l:List (UInt8×Int)):Decidable (dP l):=by unfold dP; infer_instance
def gp (a:List aM) (p:aM):Bool:=decide (p.2≠[]) || p.1 || decide (a.length=1)
def vs (a:List aM):Nat→Nat×List Nat→Int→Option (Nat×List Nat)
 | 0,_,_=>none
 | f+1,(nx,mk),n=>
   if n≠nx then (if 0≤n∧n < nx∧mk.getD n.toNat 0=2 then some (nx,mk) else none)
   else if a.length≤nx then none
   else if dP (aD a nx).2∧gp a (aD a nx)=true then
    ((aD a nx).2.foldlM (fun s e=>vs a f s e.2) (nx+1,mk.set nx 1)).map fun s=>(s.1,s.2.set nx 2)
   else none
def shaped (a:List aM):Bool:=decide (0 < a.length) && decide (a.length≤1048576) && match vs a (a.length+1) (0,dr a.length 0) 0 with
 | some s=>decide (s.1=a.length)
 | none=>false
section
variable {a:List aM}
theorem yj:∀ (f:Nat) {nx A:Nat} {mk mk':List Nat} {n:Int},vs a f (nx,mk) n=some (A,mk')→nx≤A∧mk'.length=mk.length:=by
 intro f
 induction f with
 | zero=>intro nx A mk mk' n h; cases h
 | succ f ih=>
   intro nx A mk mk' n h;have C:∀ (es:List (UInt8×Int)) (nx A:Nat) (mk mk':List Nat),es.foldlM (fun s e=>vs a f s e.2) (nx,mk)=some (A,mk')→nx≤A∧mk'.length=mk.length:=by
    intro es
    induction es with
    | nil=>intro nx A mk mk' h; simp only [pS,p7,bH,hZ] at h; obtain ⟨rfl,rfl⟩:=h; exact ⟨aQ _,rfl⟩
    | cons e es E=>
      intro nx A mk mk' h;simp only [pR,pY,mE] at h;obtain ⟨⟨I,m1⟩,h1,h2⟩:=h;have J:=ih h1;have L:=E _ _ _ _ h2;exact ⟨ab,ab⟩
   rw [vs] at h;split at h
   · split at h
     · cases h; exact ⟨aQ _,rfl⟩
     · cases h
   · split at h
     · cases h
     · split at h
       · simp only [fQ] at h;obtain ⟨⟨I,m1⟩,h1,h2⟩:=h;simp only [hZ] at h2;obtain ⟨rfl,rfl⟩:=h2;have :=C _ _ _ _ _ h1;simp only [iF] at this ⊢;exact ⟨ab,this.2⟩
       · cases h
def JV (a:List aM) (l:List Nat) (i:Nat):Prop :=i < a.length∧dP (aD a i).2∧gp a (aD a i)=true∧∀ e∈(aD a i).2,0≤e.2∧e.2.toNat∈l
inductive Ord (a:List aM):List Nat→Prop
 | nil:Ord a []
 | snoc {l i} :Ord a l→JV a l i→i∉l→Ord a (l++ [i])
def uP (a:List aM) (i:Nat):Prop := ∃ j,j < i∧∃ e∈(aD a j).2,e.2=(i:Int)
structure qa (a:List aM) (nx:Nat) (mk:List Nat) (l:List Nat):Prop where
 ord:Ord a l
 len:mk.length=a.length
 le:nx≤a.length
 done :∀ i,mk.getD i 0=2↔i∈l
 lt:∀ i∈l,i < nx
 zero:∀ i,nx≤i→mk.getD i 0=0
theorem mW (mk:List Nat) (i j x:Nat) (h:i < mk.length):(mk.set i x).getD j 0=if i=j then x else mk.getD j 0:=by grind
theorem Ml:∀ (f:Nat) {nx J:Nat} {mk mk':List Nat} {n:Int} {l:List Nat},vs a f (nx,mk) n=some (J,mk')→qa a nx mk l→
 ∃ C,qa a J mk' (l++C)∧(∀ i,i < nx→mk'.getD i 0=mk.getD i 0)∧(∀ i,nx≤i→i < J→i∈C)∧0≤n∧n.toNat∈l++C∧(∀ i,nx≤i→i < J→(i:Int)=n∨uP a i):=by
 intro f
 induction f with
 | zero=>intro nx J mk mk' n l h; cases h
 | succ f ih=>
   intro nx J mk mk' n l h V;rw [vs] at h;split at h
   · rename_i hn;split at h
     · rename_i L;cases h;exact ⟨[],by rw [js]; exact V,fun _ _=>rfl,fun i h1 A=>by omega,L.1,by rw [js]; exact (V.done _).1 L.2.2,fun i h1 A=>by omega⟩
     · cases h
   · rename_i hn;have hn:n=nx:=Classical.not_not.1 hn;split at h
     · cases h
     · rename_i aB;split at h
       · rename_i L;simp only [fQ] at h;obtain ⟨⟨aC,m1⟩,h1,A⟩:=h;simp only [hZ] at A;obtain ⟨rfl,rfl⟩:=A;have Z:nx < mk.length:=by rw [V.len]; omega
         have aj:qa a (nx+1) (mk.set nx 1) l:=by
          refine ⟨V.ord,by rw [iF]; exact V.len,ab,fun i=> ?_,fun i hi=>by have :=V.lt i hi; omega,fun i hi=> ?_⟩
          · rw [mW _ _ _ _ Z];by_cases e:nx=i
            · subst e; rw [if_pos rfl];exact ⟨fun h=>by omega,fun h=>by have :=V.lt _ h; omega⟩
            · rw [if_neg e]; exact V.done i
          · rw [mW _ _ _ _ Z,if_neg ab]; exact V.zero i ab
         have au:∀ (es:List (UInt8×Int)) (k I:Nat) (m M:List Nat) (l:List Nat),(∀ e∈es,e∈(aD a nx).2)→nx+1≤k→es.foldlM (fun s e=>vs a f s e.2) (k,m)=some (I,M)→qa a k m l→
          ∃ C,qa a I M (l++C)∧(∀ i,i < k→M.getD i 0=m.getD i 0)∧(∀ i,k≤i→i < I→i∈C)∧(∀ e∈es,0≤e.2∧e.2.toNat∈l++C)∧(∀ i,k≤i→i < I→uP a i)∧k≤I:=by
          intro es
          induction es with
          | nil=>
            intro k I m M l _ _ h V;simp only [pS,p7,bH,hZ] at h;obtain ⟨rfl,rfl⟩:=h;exact ⟨[],by rw [js]; exact V,fun _ _=>rfl,fun i h1 A=>by omega,fun e he=>by simp at he,fun i h1 A=>by omega,aQ _⟩
          | cons e es aw=>
            intro k I m M l ah az h V;simp only [pR,pY,mE] at h;obtain ⟨⟨ai,m1⟩,g1,g2⟩:=h;obtain ⟨ax,ak,al,am,an,ao,ap⟩:=ih g1 V;have aA:=(yj f g1).1;obtain ⟨ay,X1,O,ac,ad,ae,ar⟩:=aw _ _ _ _ _ (fun e he=>ah e<|by simp [he]) ab g2 ak;rw [gC] at X1;refine ⟨ax++ay,X1,fun i hi=>(O i ab).trans (al i hi),fun i h1 A=> ?_,fun e' ag=> ?_,fun i h1 A=> ?_,ab⟩
            · rcases dD i ai with h | h
              · exact pU _<|am i h1 h
              · exact List.mem_append_right _<|ac i h A
            · rcases eb.1 ag with rfl | ag
              · refine ⟨an,?_⟩;rw [← gC]; exact pU _ ao
              · have :=ad e' ag;rw [gC] at this; exact this
            · rcases dD i ai with h | h
              · rcases ap i h1 h with E | E
                · exact ⟨nx,ab,e,ah e (by simp),E.symm⟩
                · exact E
              · exact ae i h A
         obtain ⟨C,X1,O,ac,ad,ae,ar⟩:=au _ _ _ _ _ _ (fun _ h=>h) (aQ _) h1 aj;have mX:nx < m1.length:=by rw [X1.len]; omega
         have av:nx∉l++C:=fun h=>by
          have E:=(X1.done nx).2 h;rw [O nx ab,mW _ _ _ _ Z,if_pos rfl] at E; omega
         refine ⟨C++ [nx],?_,fun i hi=> ?_,fun i A E=> ?_,ab,?_,fun i A E=> ?_⟩
         · rw [← gC];refine ⟨.snoc X1.ord ⟨ab,L.1,L.2,ad⟩ av,by rw [iF]; exact X1.len,X1.le,fun i=> ?_,fun i hi=> ?_,fun i hi=> ?_⟩
           · rw [mW _ _ _ _ mX,dx,dN];by_cases e:nx=i
             · subst e; rw [if_pos rfl]; exact ⟨fun _=> .inr rfl,fun _=>rfl⟩
             · rw [if_neg e,X1.done i]; exact ⟨.inl,fun h=>h.elim id fun h=>absurd h.symm e⟩
           · rw [dx,dN] at hi;rcases hi with hi | rfl
             · exact X1.lt i hi
             · omega
           · rw [mW _ _ _ _ mX,if_neg ab]; exact X1.zero i hi
         · rw [mW _ _ _ _ mX,if_neg ab,O i ab,mW _ _ _ _ Z,if_neg ab]
         · rw [dx,dN];rcases Fg A with U | U
           · exact .inr U.symm
           · exact .inl<|ac i ab E
         · rw [← gC,dx,dN]; right; omega
         · rcases Fg A with U | U
           · left; omega
           · exact .inr<|ae i ab E
       · cases h
structure fG (a:List aM) (l:List Nat):Prop where
 pos :0 < a.length
 le:a.length≤1048576
 ord:Ord a l
 all:∀ i,i < a.length→i∈l
 met:∀ i,0 < i→i < a.length→uP a i
theorem xN (h:shaped a=true):∃ l,fG a l:=by
 unfold shaped at h;simp only [a9,decide_eq_true_eq] at h;obtain ⟨⟨h1,J⟩,A⟩:=h;split at A
 · rename_i s L;obtain ⟨k,m⟩:=s;have A:=of_decide_eq_true A;simp only at A;subst A;have C:∀ i,(dr a.length 0).getD i 0=0:=fun i=>by
    rw [cn,List.getElem?_replicate]; split <;> rfl
   obtain ⟨l,V,_,E,_,_,I⟩:=Ml (l:= []) _ L ⟨.nil,by simp,ab,fun i=>by rw [C]; simp,fun i hi=>by simp at hi,fun i _=>C i⟩;refine ⟨l,h1,J,by simpa using V.ord,fun i hi=>E i ab hi,fun i h0 hi=>(I i ab hi).resolve_left ab⟩
 · cases A
def lg (a:List aM):Nat→Nat→List (List UInt8)
 | 0,_=> []
 | f+1,n=>(if (aD a n).1=true then [[]] else [])++(aD a n).2.flatMap fun e=>(lg a f e.2.toNat).map (e.1:: ·)
def gW (a:List aM) (n:Nat):List (List UInt8):=lg a a.length n
theorem AY {α β:Type} {l:List α} {f g:α→List β} (h:∀ x∈l,f x=g x):l.flatMap f=l.flatMap g:=by
 induction l with
 | nil=>rfl
 | cons x l ih=>rw [pQ,pQ,h x (by simp),ih fun y A=>h y (by simp [A])]
theorem Ord.lt {l:List Nat} (h:Ord a l):∀ i∈l,i < a.length:=by
 induction h with
 | nil=>intro i hi; simp at hi
 | snoc _ A _ ih=>intro i hi; rcases dx.1 hi with h | h; exact ih i h; rw [dN] at h; subst h; exact A.1
theorem Ord.st {l:List Nat} (h:Ord a l):∀ i∈l,dP (aD a i).2∧gp a (aD a i)=true∧∀ e∈(aD a i).2,0≤e.2∧e.2.toNat∈l:=by
 induction h with
 | nil=>intro i hi; simp at hi
 | snoc _ A _ ih=>
   intro i hi;rcases dx.1 hi with h | h
   · obtain ⟨h1,E,C⟩:=ih i h; exact ⟨h1,E,fun e he=>⟨(C e he).1,pU _ (C e he).2⟩⟩
   · rw [dN] at h; subst h; exact ⟨A.2.1,A.2.2.1,fun e he=>⟨(A.2.2.2 e he).1,pU _ (A.2.2.2 e he).2⟩⟩
theorem Ord.vu {l:List Nat} (h:Ord a l):∀ i∈l,∀ e∈(aD a i).2,l.idxOf e.2.toNat < l.idxOf i:=by
 induction h with
 | nil=>intro i hi; simp at hi
 | @snoc l i0 _ E _ ih=>
   intro i hi e he;by_cases h:i∈l
   · have h1:=ih i h e he;have A:e.2.toNat∈l:=List.idxOf_lt_length_iff.1<|Nat.lt_trans h1<|yP h;rw [uw,uw,if_pos A,if_pos h]; exact h1
   · rcases dx.1 hi with C | C
     · exact absurd C h
     · rw [dN] at C; subst C;have A:=(E.2.2.2 e he).2;rw [uw,uw,if_pos A,if_neg h];have :=yP A;omega
theorem I8 {l:List Nat} (h:Ord a l):∀ (r i f A:Nat),i∈l→l.idxOf i≤r→r < f→r < A→lg a f i=lg a A i:=by
 intro r
 induction r with
 | zero=>
   intro i f A hi hr I J;obtain ⟨g,rfl⟩:∃ g,f=g+1:=⟨f - 1,ab⟩
   obtain ⟨C,rfl⟩:∃ C,A=C+1:=⟨A - 1,ab⟩
   rw [lg,lg];congr 1;refine AY fun e he=> ?_;have :=h.vu i hi e he; omega
 | succ r ih=>
   intro i f A hi hr I J;obtain ⟨g,rfl⟩:∃ g,f=g+1:=⟨f - 1,ab⟩
   obtain ⟨C,rfl⟩:∃ C,A=C+1:=⟨A - 1,ab⟩
   rw [lg,lg];congr 1;refine AY fun e he=> ?_;have h1:=h.vu i hi e he;have E:=((h.st i hi).2.2 e he).2;rw [ih _ g C E ab ab ab]
theorem Ord.nd {l:List Nat} (h:Ord a l):l.Nodup:=by
 induction h with
 | nil=>exact List.nodup_nil
 | snoc _ _ hn ih=>exact List.nodup_append.2 ⟨ih,by simp,fun x C y A e=>by rw [dN] at A; subst A; subst e; exact hn C⟩
theorem Ord.length {l:List Nat} (h:Ord a l):l.length≤a.length:=by
 have :=ER h.nd (l₂:=iZ a.length) fun i hi=>lH.2<|h.lt i hi;simpa using this
variable {l:List Nat}
theorem fG.rk (h:fG a l) {i:Nat} (hi:i < a.length):l.idxOf i < a.length:=Nat.lt_of_lt_of_le (yP<|h.all i hi) h.ord.length
theorem fG.oz (h:fG a l) {i:Nat} (hi:i < a.length) {e:UInt8×Int} (he:e∈(aD a i).2):0≤e.2∧e.2.toNat < a.length∧l.idxOf e.2.toNat < l.idxOf i:=
 ⟨((h.ord.st i<|h.all i hi).2.2 e he).1,h.ord.lt _ ((h.ord.st i<|h.all i hi).2.2 e he).2,h.ord.vu i (h.all i hi) e he⟩
theorem fG.tk (h:fG a l) {i:Nat} (hi:i < a.length):dP (aD a i).2:=(h.ord.st i<|h.all i hi).1
theorem dP.len {es:List (UInt8×Int)} (h:dP es):es.length≤256:=by
 have h1:(es.map fun e=>e.1.toNat).Pairwise (· < ·):=List.pairwise_map.2 h;have A:(es.map fun e=>e.1.toNat).Nodup:=h1.imp fun h=>Nat.ne_of_lt h;have :=ER A (l₂:=iZ 256) fun i hi=>by
  obtain ⟨e,_,rfl⟩:=List.mem_map.1 hi;exact lH.2 e.1.toNat_lt
 simpa using this
theorem fG.gW (h:fG a l) {i:Nat} (hi:i < a.length):gW a i=(if (aD a i).1=true then [[]] else [])++(aD a i).2.flatMap fun e=>(gW a e.2.toNat).map (e.1:: ·):=by
 have hr:=h.rk hi;unfold Hb.gW;rw [I8 h.ord (l.idxOf i) i a.length (a.length+1) (h.all i hi) (aQ _) hr ab,lg]
theorem ym {f nx:Nat} {mk:List Nat} {n:Int} (h:n≠nx):vs a (f+1) (nx,mk) n=if 0≤n∧n < nx∧mk.getD n.toNat 0=2 then some (nx,mk) else none:=by rw [vs,if_pos h]
theorem DM {f nx:Nat} {mk:List Nat} {n:Int} (h:n=nx) (A:a.length≤nx):vs a (f+1) (nx,mk) n=none:=by rw [vs,if_neg (fun e=>e h),if_pos A]
theorem tS {f nx:Nat} {mk:List Nat} {n:Int} (h:n=nx) (A:nx < a.length) (C:¬(dP (aD a nx).2∧gp a (aD a nx)=true)):vs a (f+1) (nx,mk) n=none:=by grind [vs]
theorem DK {f nx:Nat} {mk:List Nat} {n:Int} (h:n=nx) (A:nx < a.length) (C:dP (aD a nx).2) (E:gp a (aD a nx)=true):
 vs a (f+1) (nx,mk) n=((aD a nx).2.foldlM (fun s e=>vs a f s e.2) (nx+1,mk.set nx 1)).map fun s=>(s.1,s.2.set nx 2):=by grind [vs]
theorem Mn:∀ (f:Nat) {nx A:Nat} {mk mk':List Nat} {n:Int},vs a f (nx,mk) n=some (A,mk')→nx≤a.length→A≤a.length:=by
 intro f
 induction f with
 | zero=>intro nx A mk mk' n h; cases h
 | succ f ih=>
   intro nx A mk mk' n h hle;have C:∀ (es:List (UInt8×Int)) (nx A:Nat) (mk mk':List Nat),es.foldlM (fun s e=>vs a f s e.2) (nx,mk)=some (A,mk')→nx≤a.length→A≤a.length:=by
    intro es
    induction es with
    | nil=>intro nx A mk mk' h; simp only [pS,p7,bH,hZ] at h; obtain ⟨rfl,rfl⟩:=h; exact id
    | cons e es E=>
      intro nx A mk mk' h hle;simp only [pR,pY,mE] at h;obtain ⟨⟨I,m1⟩,h1,h2⟩:=h;exact E _ _ _ _ h2<|ih h1 hle
   rw [vs] at h;split at h
   · split at h
     · cases h; exact hle
     · cases h
   · split at h
     · cases h
     · split at h
       · simp only [fQ] at h;obtain ⟨⟨I,m1⟩,h1,h2⟩:=h;simp only [hZ] at h2;obtain ⟨rfl,rfl⟩:=h2;exact C _ _ _ _ _ h1 ab
       · cases h
def fO (a:List aM) (f nx:Nat) (mk:List Nat) (es:List (UInt8×Int)):Option (Nat×List Nat):=es.foldlM (fun s e=>vs a f s e.2) (nx,mk)
theorem Mq {f nx:Nat} {mk:List Nat} {es:List (UInt8×Int)} {e:UInt8×Int} {s:Nat×List Nat} (h:fO a f nx mk es=some s):fO a f nx mk (es++ [e])=vs a f s e.2:=by
 unfold fO at*;rw [EZ,h];simp
theorem Mp {f nx:Nat} {mk:List Nat} {es es':List (UInt8×Int)} (h:fO a f nx mk es=none):fO a f nx mk (es++es')=none:=by grind [fO,EZ]
theorem tU {f nx:Nat} {mk:List Nat} {es:List (UInt8×Int)} {s:Nat×List Nat} (h:fO a f nx mk es=some s) (hle:nx≤a.length):nx≤s.1∧s.2.length=mk.length∧s.1≤a.length:=by
 unfold fO at h
 induction es generalizing nx mk with
 | nil=>simp only [pS,p7,bH] at h; subst h; exact ⟨aQ _,rfl,hle⟩
 | cons e es ih=>
   simp only [pR,pY,mE] at h;obtain ⟨⟨E,m1⟩,h1,h2⟩:=h;have C:=yj f h1;have A:=ih h2<|Mn f h1 hle;exact ⟨ab,ab,A.2.2⟩
theorem tl {es:List (UInt8×Int)} {k:Nat} {e:UInt8×Int} (h:dP (es.take k)) (he:es[k]? =some e) (hp:∀ p,0 < k→es[k - 1]? =some p→p.1.toNat < e.1.toNat):dP (es.take<|k+1):=by
 obtain ⟨J,rfl⟩:=cB.1 he;rw [uH J];unfold dP at*;refine List.pairwise_append.2 ⟨h,by simp,fun x L y C=> ?_⟩;rw [dN] at C; subst C;obtain ⟨j,I,rfl⟩:=uz.1 L;simp only [cV] at I;have h1:=hp es[k - 1] ab<|bt ab;rcases dD j (k - 1) with A | A
 · have E:=n4.1 h j (k - 1) (by rw [cV]; omega) (by rw [cV]; omega) A;rw [uv,uv] at E;rw [uv]; omega
 · have :j=k - 1:=ab;subst this;rw [uv]; exact h1
theorem B6 {es:List (UInt8×Int)} {k:Nat} {e p:UInt8×Int} (h0:0 < k) (he:es[k]? =some e) (hp:es[k - 1]? =some p) (h:e.1.toNat≤p.1.toNat):¬dP es:=fun hr=>by
 obtain ⟨A,rfl⟩:=cB.1 he;obtain ⟨C,rfl⟩:=cB.1 hp;have :=n4.1 hr (k - 1) k C A ab;omega
theorem DJ {f nx:Nat} {mk:List Nat} {s:Nat×List Nat} (A:nx < a.length) (hr:dP (aD a nx).2) (C:fO a f (nx+1) (mk.set nx 1) (aD a nx).2=some s):vs a (f+1) (nx,mk) (nx:Int)=if gp a (aD a nx)=true then some (s.1,s.2.set nx 2) else none:=by
 by_cases h:gp a (aD a nx)=true
 · rw [DK rfl A hr h,if_pos h];unfold fO at C;rw [C]; rfl
 · rw [tS rfl A (fun e=>h e.2),if_neg h]
theorem tT {f nx k:Nat} {mk:List Nat} (C:nx < a.length) (h:fO a f (nx+1) (mk.set nx 1) ((aD a nx).2.take k)=none):vs a (f+1) (nx,mk) (nx:Int)=none:=by
 by_cases A:dP (aD a nx).2∧gp a (aD a nx)=true
 · rw [DK rfl C A.1 A.2];have :=Mp (es':=(aD a nx).2.drop k) h;rw [List.take_append_drop] at this;unfold fO at this;rw [this]; rfl
 · exact tS U C A
theorem DL {f nx:Nat} {mk:List Nat} (A:nx < a.length) (h:¬dP (aD a nx).2):vs a (f+1) (nx,mk) (nx:Int)=none:=tS rfl A (fun e=>h e.1)
theorem Mk {f nx:Nat} {mk:List Nat} (A:nx < a.length) (h:gp a (aD a nx)=false):vs a (f+1) (nx,mk) (nx:Int)=none:=tS rfl A (fun e=>by rw [h] at e; exact Bool.noConfusion e.2)
theorem mr {f nx k:Nat} {mk:List Nat} {es:List (UInt8×Int)} {e:UInt8×Int} {s:Nat×List Nat} (h:fO a f nx mk (es.take k)=some s) (he:es[k]? =some e):fO a f nx mk (es.take<|k+1)=vs a f s e.2:=by
 obtain ⟨A,rfl⟩:=cB.1 he;rw [uH A];exact Mq h
theorem BD {q:aM} (h:0 < q.2.length):gp a q=true :=by grind [gp]
theorem BC {q:aM} (h:q.1=true):gp a q=true :=by
 unfold gp; rw [h,Bool.or_true,Bool.true_or]
theorem wy {q:aM} (h:¬0 < q.2.length) (A:q.1=false):gp a q=decide (a.length=1):=by grind [gp,List.eq_nil_of_length_eq_zero]
theorem getD_set_ne (mk:List Nat) {i j:Nat} (x:Nat) (h:i≠j):(mk.set i x).getD j 0=mk.getD j 0:=by grind
theorem Mo:∀ (f:Nat) {nx A:Nat} {mk mk':List Nat} {n:Int},vs a f (nx,mk) n=some (A,mk')→(∀ i,nx≤i→mk.getD i 0=0)→∀ i,A≤i→mk'.getD i 0=0:=by
 intro f
 induction f with
 | zero=>intro nx A mk mk' n h; cases h
 | succ f ih=>
   intro nx A mk mk' n h C;have I:∀ (es:List (UInt8×Int)) (nx A:Nat) (mk mk':List Nat),es.foldlM (fun s e=>vs a f s e.2) (nx,mk)=some (A,mk')→(∀ i,nx≤i→mk.getD i 0=0)→nx≤A∧∀ i,A≤i→mk'.getD i 0=0:=by
    intro es
    induction es with
    | nil=>intro nx A mk mk' h; simp only [pS,p7,bH,hZ] at h; obtain ⟨rfl,rfl⟩:=h; exact fun h=>⟨aQ _,h⟩
    | cons e es J=>
      intro nx A mk mk' h C;simp only [pR,pY,mE] at h;obtain ⟨⟨L,m1⟩,h1,h2⟩:=h;have g:=J _ _ _ _ h2<|ih h1 C;exact ⟨cG (yj f h1).1 g.1,g.2⟩
   rw [vs] at h;split at h
   · split at h
     · cases h; exact C
     · cases h
   · split at h
     · cases h
     · split at h
       · simp only [fQ] at h;obtain ⟨⟨L,m1⟩,h1,h2⟩:=h;simp only [hZ] at h2;obtain ⟨rfl,rfl⟩:=h2;obtain ⟨M,E⟩:=I _ _ _ _ _ h1 fun i hi=>by rw [getD_set_ne _ _ ab]; exact C i ab
         exact fun i hi=>by rw [getD_set_ne _ _ ab]; exact E i hi
       · cases h
theorem Mr {f nx:Nat} {mk:List Nat} {es:List (UInt8×Int)} {s:Nat×List Nat} (h:fO a f nx mk es=some s) (A:∀ i,nx≤i→mk.getD i 0=0):∀ i,s.1≤i→s.2.getD i 0=0:=by
 unfold fO at h
 induction es generalizing nx mk with
 | nil=>simp only [pS,p7,bH] at h; subst h; exact A
 | cons e es ih=>
   simp only [pR,pY,mE] at h;obtain ⟨⟨C,m1⟩,h1,h2⟩:=h;exact ih h2<|Mo f h1 A
theorem tE (h:¬(0 < a.length∧a.length≤1048576)):shaped a=false :=by grind [shaped]
theorem C3 (h:vs a (a.length+1) (0,dr a.length 0) 0=none):shaped a=false :=by
 unfold shaped; rw [h,uc]
theorem tF {s:Nat×List Nat} (h1:0 < a.length) (A:a.length≤1048576) (h:vs a (a.length+1) (0,dr a.length 0) 0=some s):shaped a=decide (s.1=a.length):=by grind [shaped]
end
end Go.Hb
namespace Go.Hb
structure lM (h:Array Obj) (ea:Option Addr) (es:List (UInt8×Int)):Prop where
 ok:0 < es.length→ea=some ⟨bk ea,fo ea,none⟩
 b:∀ k e,es[k]? =some e→ay h (bk ea) (fo ea+k*2 +0)=some (.int .u8 e.1.toNat)
 to:∀ k e,es[k]? =some e→ay h (bk ea) (fo ea+k*2 +1)=some (.int .i64 e.2)
theorem lM.wk {w w':ah} {A:Option Addr} {es:List (UInt8×Int)} (h:lM w.heap A es) (hm:Wk w w'):lM w'.heap A es:=⟨h.ok,fun k e he=>hm.ay (h.b k e he),fun k e he=>hm.ay<|h.to k e he⟩
theorem yd {h:Array Obj} {b o:Nat} {u v:ag} (h0:ay h b (o+0)=some u) (h1:ay h b (o+1)=some v):∀ j,j < 2→ay h b (o+j)= [u,v][j]? :=by grind
theorem lM.two {h:Array Obj} {A:Option Addr} {es:List (UInt8×Int)} (C:lM h A es) {k:Nat} {e:UInt8×Int} (he:es[k]? =some e):∀ j,j < 2→ay h (bk A) (fo A+k*2 +j)= [Value.int .u8 e.1.toNat,.int .i64 e.2][j]? :=yd (C.b k e he)<|C.to k e he
structure eA (h:Array Obj) (aa:Option Addr) (a:List aM):Prop where
 ok:0 < a.length→aa=some ⟨bk aa,fo aa,none⟩
 st:∀ i,i < a.length→∃ ea ec,ay h (bk aa) (fo aa+i*2 +0)=some (.bool (aD a i).1)∧ay h (bk aa) (fo aa+i*2 +1)=some (.slice ea (aD a i).2.length ec)∧lM h ea (aD a i).2
theorem eA.wk {w w':ah} {aa:Option Addr} {a:List aM} (h:eA w.heap aa a) (hm:Wk w w'):eA w'.heap aa a:=
 ⟨h.ok,fun i hi=>by
  obtain ⟨A,C,h1,E,I⟩:=h.st i hi;exact ⟨A,C,hm.ay h1,hm.ay E,I.wk hm⟩⟩
theorem eA.two {h:Array Obj} {aa:Option Addr} {a:List aM} (J:eA h aa a) {i:Nat} (hi:i < a.length):∃ A C,(∀ j,j < 2→ay h (bk aa) (fo aa+i*2 +j)= [Value.bool (aD a i).1,.slice A (aD a i).2.length C][j]?)∧lM h A (aD a i).2:=by
 obtain ⟨A,C,h1,E,I⟩:=J.st i hi;exact ⟨A,C,yd h1 E,I⟩
theorem Cj {w:ah} {B e size n b:Nat} {xs:List ag} (h:w.ownsRow B e size (.slice (some ⟨b,0,none⟩) n n) n xs):aA w.heap b xs:=by
 rcases h.2 with ⟨hn,_⟩ | ⟨g,cap,cur,C,_,E,_,_,I,A⟩
 · cases hn
 · simp only [pN,bH,Addr.mk.injEq,and_true,true_and] at C;obtain ⟨rfl,rfl⟩:=C;rw [j6 (by rw [Array.length_toList,I]; exact aQ _)] at A;exact ⟨_,by rw [← A]; simpa using E⟩
theorem px {w w':ah} {b o:Nat} {u v:ag} (hm:Wk w w') (h:∀ j,j < 2→ay w.heap b (o+j)= [u,v][j]?):∀ j,j < 2→ay w'.heap b (o+j)= [u,v][j]? :=yd (hm.ay<|h 0 ab)<|hm.ay<|h 1 ab
theorem Md.de {F:Nat→Prop} {w w':ah} (h:Md F w.drew w'):Md F w w':=⟨h.os,h.output,h.size,h.dL⟩
def jF (n:Nat):ag:= .int .u8 n
theorem zt {h:Array Obj} {b:Nat} {f:Nat→ag} {mk:List Nat} {i:Nat} (hb:aA h b (mk.map f)) (hi:i < mk.length):ay h b (0 +i*1)=some (f<|mk.getD i 0):=by
 rw [Nat.mul_one,Nat.zero_add,hb.ay,eV,cn,bt hi]; rfl
end Go.Hb
namespace Go.Hb
abbrev Nr:Type :=List UInt8×Nat
theorem J8 {w:ah} {B t size n cap k:Nat} {ad:Option Addr} {xs:List ag} (h:w.ownsRow B t size (.slice ad n cap) n xs) (L:k≤n) (h0:0 < n):w.ownsRow B t size (.slice ad k cap) k (xs.take<|k*size):=by
 have Z:k*size≤n*size:=Nat.mul_le_mul_right _ L;obtain ⟨M,h | ⟨g,O,cur,h1,A,C,V,E,I,J⟩⟩:=h
 · have :=h.1;simp only [pN] at this; omega
 · simp only [pN,true_and] at h1;obtain ⟨rfl,rfl⟩:=h1;exact ⟨by rw [cV,M]; omega,.inr ⟨g,cap,cur,U,A,C,ab,E,I,by rw [← J,List.take_take,show min (k*size) (n*size)=k*size from by omega]⟩⟩
end Go.Hb
namespace Go.Hb
theorem La (m:Nat):(m:Int).fdiv (2 ^ min (1:Int).toNat IntKind.u64.bits)=((m / 2:Nat):Int):=by
 show (m:Int).fdiv 2=_;rw [Int.fdiv_eq_ediv_of_nonneg _ ab]; rfl
section
variable {P:av} {N:Fm} {σ:Nat→ag} {w:ah} {ty:aw} {pos :String} {af:Array bR} {g:Option (Nat×Bool)} {x y:aY} {K:(Nat→ag)→ah→Prop}
end
end Go.Hb
namespace Go.Hb
def CQ (l:List Nr) (c d:Nat):List Nr:=(l.drop c).take<|d - c
end Go.Hb
namespace Go.Hb
end Go.Hb
end
section
namespace Go.Hb
def dM:List UInt8→Nat
 | []=>0
 | b::l=>b.toNat % 128 +128 *dM l
theorem wz:∀ (l m:List UInt8),dM (l++m)=dM l+128 ^ l.length*dM m
 | [],m=>by simp [dM]
 | b::l,m=>by
   rw [List.cons_append,dM,dM,wz l m,dm,uL,Nat.mul_add,← Nat.mul_assoc,Nat.mul_comm 128 (128 ^ l.length)]; omega
theorem sP:∀ (l:List UInt8),dM l < 128 ^ l.length
 | []=>by simp [dM]
 | b::l=>by
   have :=sP l;rw [dM,dm,uL]; omega
def fX (l:List UInt8):Nat:=((l.take 10).takeWhile fun b=>decide (128≤b.toNat)).length
theorem DA {f:UInt8→Bool} :∀ {l:List UInt8} {k:Nat},(∀ j,j < k→j < l.length∧f (l.getD j 0)=true)→(l.length≤k∨f (l.getD k 0)=false)→(l.takeWhile f).length=k
 | [],k,h,_=>by
   cases k with
   | zero=>rfl
   | succ k=>have :=(h 0 ab).1; simp at this
 | b::l,0,_,A=>by
   rcases A with A | A
   · simp at A
   · simp only [ur] at A;rw [Fa,A]; rfl
 | b::l,k+1,h1,A=>by
   have h0:=(h1 0 ab).2;simp only [ur] at h0;rw [Fa,h0,if_pos rfl,dm,DA (k:=k) (fun j C=>by have :=h1 (j+1) ab; simpa using this) (by simpa using A)]
theorem Dt {l:List UInt8} {n j:Nat} (h:j < n):(l.take n).getD j 0=l.getD j 0:=by
 rw [cn,List.getElem?_take_of_lt h,cn]
theorem Al {l:List UInt8} {n j:Nat} :(l.drop n).getD j 0=l.getD (n+j) 0:=by
 rw [cn,iE,cn]
theorem jV {s:List UInt8} {a k:Nat} (J:k≤10) (h:∀ j,j < k→a+j < s.length∧128≤(s.getD (a+j) 0).toNat) (A:k=10∨s.length≤a+k∨(s.getD (a+k) 0).toNat < 128):fX (s.drop a)=k:=by
 unfold fX;refine DA (fun j E=> ?_) ?_
 · obtain ⟨h1,C⟩:=h j E;refine ⟨by rw [cV,ju]; omega,?_⟩;rw [Dt ab,Al];exact decide_eq_true C
 · rcases A with A | A | A
   · exact .inl<|by rw [cV]; omega
   · exact .inl<|by rw [cV,ju]; omega
   · by_cases I:k=10
     · exact .inl<|by rw [cV]; omega
     · refine .inr ?_;rw [Dt ab,Al];exact decide_eq_false ab
def bc (s:List UInt8) (a:Nat):Except Nat (Nat×Nat):=
 if fX (s.drop a)=10 then .error 61 else if s.length≤a+fX (s.drop a) then .error 60
 else if (fX (s.drop a)=9∧1 < (s.getD (a+fX (s.drop a)) 0).toNat)∨(0 < fX (s.drop a)∧(s.getD (a+fX (s.drop a)) 0).toNat=0) then .error 61
 else .ok (dM ((s.drop a).take<|fX (s.drop a)+1),a+fX (s.drop a)+1)
section
variable {s:List UInt8} {a k n p:Nat}
theorem CJ (h:fX (s.drop a)=10):bc s a= .error 61:=by unfold bc; rw [if_pos h]
theorem tw (h:fX (s.drop a)=k) (A:k≠10) (C:s.length≤a+k):bc s a= .error 60:=by unfold bc; rw [h,if_neg A,if_pos C]
theorem o8 (h:fX (s.drop a)=k) (C:k≠10) (E:a+k < s.length) (A:(k=9∧1 < (s.getD (a+k) 0).toNat)∨(0 < k∧(s.getD (a+k) 0).toNat=0)):bc s a= .error 61:=by
 unfold bc; rw [h,if_neg C,if_neg ab,if_pos A]
theorem tv (h:fX (s.drop a)=k) (C:k≠10) (E:a+k < s.length) (A:¬((k=9∧1 < (s.getD (a+k) 0).toNat)∨(0 < k∧(s.getD (a+k) 0).toNat=0))):bc s a= .ok (dM ((s.drop a).take<|k+1),a+k+1):=by
 unfold bc; rw [h,if_neg C,if_neg ab,if_neg A]
theorem jq (h:bc s a= .ok (n,p)):a < p∧p≤s.length∧n < 18446744073709551616:=by
 unfold bc at h;split at h
 · cases h
 · split at h
   · cases h
   · split at h
     · cases h
     · rename_i h1 M O;simp only [Except.ok.injEq,hZ] at h;obtain ⟨rfl,rfl⟩:=h;refine ⟨ab,ab,?_⟩;have Z:fX (s.drop a)≤10:=by
        unfold fX;exact cG (List.takeWhile_sublist _).length_le<|by rw [cV]; omega
       generalize V:fX (s.drop a)=k at*;have L:=sP<|(s.drop a).take<|k+1;have hlen:((s.drop a).take<|k+1).length=k+1:=by rw [cV,ju]; omega
       by_cases J:k=9
       · subst J;rw [show (9:Nat)+1=10 from rfl,List.take_add_one,wz];have A:=sP<|(s.drop a).take 9;have E:((s.drop a).take 9).length=9:=by rw [cV,ju]; omega
         rw [E] at A ⊢;have I:(s.drop a)[9]? =some (s.getD (a+9) 0):=by
          rw [iE,cn,bt ab]; rfl
         rw [I];simp only [Option.toList_some,dM];have U:(s.getD (a+9) 0).toNat≤1:=ab;have C:(128:Nat) ^ 9=9223372036854775808:=aF;rw [C] at A ⊢;omega
       · rw [hlen] at L;have :(128:Nat) ^ (k+1)≤128 ^ 9:=Nat.pow_le_pow_right aF ab;have C:(128:Nat) ^ 9=9223372036854775808:=aF;omega
end
def cr {α:Type} (f:Nat→Except Nat (α×Nat)):Nat→Nat→Except Nat (List α×Nat)
 | 0,a=> .ok ([],a)
 | k+1,a=>match cr f k a with
   | .error e=> .error e
   | .ok (l,p)=>match f p with
     | .error e=> .error e
     | .ok (x,q)=> .ok (l++ [x],q)
section
variable {α:Type} {f:Nat→Except Nat (α×Nat)} {k n a p q e:Nat} {l:List α} {x:α}
theorem lZ (h:cr f k a= .ok (l,p)) (A:f p= .ok (x,q)):cr f (k+1) a= .ok (l++ [x],q):=by rw [cr,h]; simp only [A]
theorem im (h:cr f k a= .ok (l,p)) (A:f p= .error e) (hn:k < n):cr f n a= .error e:=by
 have h1:cr f (k+1) a= .error e:=by rw [cr,h]; simp only [A]
 obtain ⟨d,rfl⟩:∃ d,n=k+1 +d:=⟨n - (k+1),ab⟩
 clear hn
 induction d with
 | zero=>exact h1
 | succ d ih=>rw [← hJ,cr,ih]
theorem iN:∀ {k:Nat} {l:List α} {p:Nat},cr f k a= .ok (l,p)→l.length=k
 | 0,l,p,h=>by cases h; rfl
 | k+1,l,p,h=>by
   rw [cr] at h;split at h
   · cases h
   · rename_i C p2 A;split at h
     · cases h
     · cases h;rw [List.length_append,iN A]; rfl
theorem mZ {R:Nat→Prop} {S:α→Prop} (E:∀ p x q,R p→f p= .ok (x,q)→R q∧S x):∀ {k:Nat} {l:List α} {p:Nat},R a→cr f k a= .ok (l,p)→R p∧∀ x∈l,S x
 | 0,l,p,ha,h=>by cases h; exact ⟨ha,fun x C=>by simp at C⟩
 | k+1,l,p,ha,h=>by
   rw [cr] at h;split at h
   · cases h
   · rename_i U p2 I;obtain ⟨J,L⟩:=mZ E ha I;split at h
     · cases h
     · rename_i x q C;cases h;obtain ⟨M,O⟩:=E _ _ _ J C;refine ⟨M,fun y A=> ?_⟩;rcases dx.1 A with A | A
       · exact L y A
       · rw [dN.1 A]; exact O
end
def cN (s:List UInt8) (a:Nat):Except Nat (List UInt8×Nat):=match bc s a with
 | .error e=> .error e
 | .ok (n,p)=>if 255 < n then .error 62 else if s.length < p+n then .error 60 else .ok ((s.drop p).take n,p+n)
def gv (s:List UInt8) (a:Nat):Except Nat ((List UInt8×List UInt8)×Nat):=match cN s a with
 | .error e=> .error e
 | .ok (f,p)=>match cN s p with
   | .error e=> .error e
   | .ok (t,q)=> .ok ((f,t),q)
def eh (s:List UInt8) (n a:Nat):Except Nat ((UInt8×Int)×Nat):=if s.length≤a then .error 60 else match bc s (a+1) with
 | .error e=> .error e
 | .ok (t,p)=>if n≤t then .error 190 else .ok ((s.getD a 0,(t:Int)),p)
def fB (s:List UInt8) (n a:Nat):Except Nat (aM×Nat):=match bc s a with
 | .error e=> .error e
 | .ok (v,p)=>if 256 < v / 2 then .error 190 else match cr (eh s n) (v / 2) p with
   | .error e=> .error e
   | .ok (es,q)=> .ok ((decide (v % 2=1),es),q)
def cI (s:List UInt8) (a:Nat):Except Nat (List aM×Nat):=match bc s a with
 | .error e=> .error e
 | .ok (n,p)=>if n=0∨1048576 < n then .error 190 else match cr (fB s n) n p with
   | .error e=> .error e
   | .ok (l,q)=>if shaped l=true then .ok (l,q) else .error 190
def gR (r:List UInt8×List UInt8):Bool:=decide (r.1≠[]) && (fT r.1 && decide (r.1.length≤32)) && (fT r.2 && decide (r.2.length≤32))
def ek (n:Nat) (t:List UInt8) (rs:List (List UInt8×List UInt8)):Bool:=decide (1≤n∧n≤64∧rs.length≤256) && (decide (t= []) || decide (letE t=(t,0))) && rs.all gR
structure dH where
 least:Nat
 tr:List UInt8
 cZ:List (List UInt8×List UInt8)
 au:List (List aM)
def eN:List UInt8:= [72,66,75,49]
def fU (s:List UInt8) (n:Nat) (t:List UInt8) (rs:List (List UInt8×List UInt8)) (a:Nat):Except Nat dH:=
 if ek n t rs=true then match cr (cI s) 4 a with
  | .error e=> .error e
  | .ok (l,p)=>if p=s.length then .ok ⟨n,t,rs,l⟩ else .error 202
 else .error 201
def bI (s:List UInt8):Except Nat dH:=
 if s.take 4=eN then match bc s 4 with
  | .error e=> .error e
  | .ok (n,p1)=>match cN s p1 with
    | .error e=> .error e
    | .ok (t,p2)=>match bc s p2 with
      | .error e=> .error e
      | .ok (m,p3)=>if 256 < m then .error 201 else match cr (gv s) m p3 with
        | .error e=> .error e
        | .ok (rs,p4)=>fU s (if n≤64 then n else 0) t rs p4
 else .error 200
section
variable {s:List UInt8} {a n p:Nat}
theorem oG {f:List UInt8} (h:cN s a= .ok (f,p)):a < p∧p≤s.length∧f.length≤255:=by
 unfold cN at h;split at h
 · cases h
 · rename_i n q A;obtain ⟨h1,C,_⟩:=jq A;split at h
   · cases h
   · split at h
     · cases h
     · cases h;exact ⟨ab,ab,by rw [cV]; omega⟩
theorem KB {r:List UInt8×List UInt8} (h:gv s a= .ok (r,p)):a < p∧p≤s.length∧r.1.length≤255∧r.2.length≤255:=by
 unfold gv at h;split at h
 · cases h
 · rename_i f q I;obtain ⟨h1,L,A⟩:=oG I;split at h
   · cases h
   · rename_i t O J;obtain ⟨M,C,E⟩:=oG J;cases h;exact ⟨ab,C,A,E⟩
theorem Hs {e:UInt8×Int} (h:eh s n a= .ok (e,p)):a < p∧p≤s.length∧0≤e.2∧e.2 < n:=by
 unfold eh at h;split at h
 · cases h
 · split at h
   · cases h
   · rename_i t q C;obtain ⟨h1,A,_⟩:=jq C;split at h
     · cases h
     · cases h;exact ⟨ab,A,by show (0:Int)≤(t:Int); omega,by show (t:Int) < n; omega⟩
theorem q6 {x:aM} (h:fB s n a= .ok (x,p)):a < p∧p≤s.length∧x.2.length≤256∧∀ e∈x.2,0≤e.2∧e.2 < n:=by
 unfold fB at h;split at h
 · cases h
 · rename_i v q L;obtain ⟨h1,I,_⟩:=jq L;split at h
   · cases h
   · split at h
     · cases h
     · rename_i es Z A;have V:=iN A;obtain ⟨⟨U,J⟩,h5⟩:=mZ (R:=fun p=>q≤p∧p≤s.length) (S:=fun e:UInt8×Int=>0≤e.2∧e.2 < n) (fun p x q' hr M=>by
        obtain ⟨O,C,E⟩:=Hs M;exact ⟨⟨ab,C⟩,E⟩) ⟨aQ _,I⟩ A
       cases h;exact ⟨ab,J,by show es.length≤256; omega,h5⟩
theorem CP {l:List aM} (h:cI s a= .ok (l,p)):a < p∧p≤s.length∧shaped l=true∧l.length≤1048576∧∀ x∈l,x.2.length≤256∧∀ e∈x.2,0≤e.2∧e.2 < l.length:=by
 unfold cI at h;split at h
 · cases h
 · rename_i n q M;obtain ⟨h1,I,_⟩:=jq M;split at h
   · cases h
   · split at h
     · cases h
     · rename_i ac ad A;have L:=iN A;obtain ⟨⟨Z,J⟩,h5⟩:=mZ (R:=fun p=>q≤p∧p≤s.length) (S:=fun x:aM=>x.2.length≤256∧∀ e∈x.2,0≤e.2∧e.2 < n) (fun p x q' hr U=>by
        obtain ⟨V,C,E⟩:=q6 U;exact ⟨⟨ab,C⟩,E⟩) ⟨aQ _,I⟩ A
       split at h
       · cases h;rename_i O;exact ⟨ab,J,O,ab,by rw [L]; exact h5⟩
       · cases h
structure dH.Is (s:List UInt8) (b:dH):Prop where
 least:1≤b.least∧b.least≤64
 JT:b.cZ.length≤256
 cZ:∀ r∈b.cZ,r.1≠[]∧r.1.length≤32∧r.2.length≤32
 tr:b.tr.length≤255
 qL:b.au.length=4
 au:∀ l∈b.au,shaped l=true∧l.length≤1048576∧∀ x∈l,x.2.length≤256∧∀ e∈x.2,0≤e.2∧e.2 < l.length
theorem sg {b:dH} (h:bI s= .ok b):b.Is s:=by
 unfold bI at h;split at h
 · split at h
   · cases h
   · rename_i n p1 h1;split at h
     · cases h
     · rename_i t p2 L;split at h
       · cases h
       · rename_i m p3 O;split at h
         · cases h
         · split at h
           · cases h
           · rename_i rs p4 U;generalize (if n≤64 then n else 0)=n0 at h;unfold fU at h;split at h
             · rename_i A;split at h
               · cases h
               · rename_i l p5 C;split at h
                 · cases h;unfold ek at A;simp only [a9,decide_eq_true_eq,List.all_eq_true] at A;obtain ⟨⟨⟨E,I,J⟩,_⟩,g4⟩:=A;refine ⟨⟨E,I⟩,J,fun r hr=> ?_,(oG L).2.2,iN C,(mZ (R:=fun _=>True) (fun p x q _ M=>⟨trivial,(CP M).2.2⟩) trivial C).2⟩;have :=g4 r hr;unfold gR at this;simp only [a9,decide_eq_true_eq] at this;exact ⟨this.1.1,this.1.2.2,this.2.2⟩
                 · cases h
             · cases h
 · cases h
end
end Go.Hb
end
section
namespace Go.Hb
def ef {α:Type} (n:Nat) (base:Nat→α) (stp:Nat→(Nat→α)→α):Nat→Nat→α
 | 0,i=>base i
 | j+1,i=>if i=n - (j+1) then stp i (ef n base stp j) else ef n base stp j i
section
variable {α:Type} {n:Nat} {base:Nat→α} {stp:Nat→(Nat→α)→α}
theorem Ak:∀ {j i:Nat},j≤n→i < n - j→ef n base stp j i=base i
 | 0,i,_,_=>rfl
 | j+1,i,hj,hi=>by
   rw [ef,if_neg ab];exact Ak ab ab
theorem vv:∀ {j i:Nat},n≤i→j≤n→ef n base stp j i=base i
 | 0,i,_,_=>rfl
 | j+1,i,hi,hj=>by
   rw [ef,if_neg ab];exact vv hi ab
theorem vw {j i:Nat} (hi:n - j≤i):∀ {d:Nat},j+d≤n→ef n base stp (j+d) i=ef n base stp j i
 | 0,_=>rfl
 | d+1,h=>by
   rw [← hJ,ef,if_neg ab];exact vw hi ab
theorem Aj (loc:∀ i T A,(∀ k,i < k→k≤n→T k=A k)→stp i T=stp i A) {i:Nat} (hi:i < n):ef n base stp n i=stp i (ef n base stp n):=by
 have h1:ef n base stp n i=ef n base stp (n - i) i:=by
  have :=vw (n:=n) (base:=base) (stp:=stp) (j:=n - i) (i:=i) ab (d:=i) ab;rw [show n - i+i=n by omega] at this;exact this
 rw [h1];obtain ⟨j,C⟩:∃ j,n - i=j+1:=⟨n - i - 1,ab⟩
 rw [C,ef,if_pos ab];refine loc i _ _ fun k E I=> ?_;have :=vw (n:=n) (base:=base) (stp:=stp) (j:=j) (i:=k) ab (d:=n - j) ab;rw [show j+(n - j)=n by omega] at this;exact this.symm
end
theorem vO {α β:Type} (p:β→Bool) (f:α→β→α):∀ (l:List β) (a:α),(l.filter p).foldl f a=l.foldl (fun a b=>if p b=true then f a b else a) a
 | [],_=>rfl
 | b::l,a=>by
   rw [List.filter_cons,iC];cases h:p b
   · simp only [mw,if_false]; exact vO p f l a
   · simp only [if_true,iC]; exact vO p f l _
theorem vN {α β:Type} {f g:α→β→α} :∀ {l:List β} {a:α},(∀ x∈l,∀ a,f a x=g a x)→l.foldl f a=l.foldl g a
 | [],_,_=>rfl
 | b::l,a,h=>by
   rw [iC,iC,h b hH];exact vN fun x A=>h x<|gZ _ A
theorem foldl_rel {α β A:Type} {f:α→A→α} {g:β→A→β} (R:α→β→Prop):∀ {l:List A} {a:α} {b:β},R a b→(∀ x∈l,∀ a b,R a b→R (f a x) (g b x))→R (l.foldl f a) (l.foldl g b)
 | [],_,_,h,_=>h
 | x::l,a,b,h,hs=>by
   rw [iC,iC];exact foldl_rel R (hs x hH _ _ h) fun y C=>hs y<|gZ _ C
def fi:Nat:=1099511627776
section
variable (pc:Nat→Nat→Bool) (n:Nat)
def jE (i:Nat):List Nat:=(jw (i+1)<|n - i).filter<|pc i
def bJ (i k:Nat):Bool:=pc i k && !(decide (i=0) && decide (k=n))
def dC (i:Nat) (T:Nat→Nat×Nat) (m:Nat×Nat) (k:Nat):Nat×Nat:=
 if (k < n∧(T k).1=0)∨(i=0∧k=n) then m else (if m.1=0∨(T k).1 +1≤m.1 then (T k).1 +1 else m.1,min (m.2+(T k).2) (fi+1))
def jU (i:Nat) (T:Nat→Nat×Nat):Nat×Nat:=(jE pc n i).foldl (dC n i T) (0,0)
def l4 (i:Nat):Nat×Nat:=(0,if i=n then 1 else 0)
def jC:Nat→Nat×Nat:=ef n (l4 n) (jU pc n) n
def sr (i:Nat) (T:Nat→Nat):Nat:=(jw (i+1)<|n - i).foldl (fun m k=>if bJ pc n i k=true then m+T k else m) 0
def eB:Nat→Nat:=ef n (fun i=>if i=n then 1 else 0) (sr pc n) n
end
section
variable {pc:Nat→Nat→Bool} {n:Nat}
theorem oL {i k:Nat} :k∈jE pc n i↔i < k∧k≤n∧pc i k=true :=by
 unfold jE;rw [pV,yR];constructor
 · rintro ⟨⟨h1,C⟩,A⟩; exact ⟨ab,ab,A⟩
 · rintro ⟨h1,C,A⟩; exact ⟨⟨ab,ab⟩,A⟩
theorem sL {i:Nat} (hi:i < n):jC pc n i=jU pc n i (jC pc n):=Aj (stp:=jU pc n) (fun i T E h=>vN fun k C m=>by
 obtain ⟨h1,A,_⟩:=oL.1 C;unfold dC; rw [h k h1 A]) hi
theorem Ho {i:Nat} (hi:i < n):eB pc n i=sr pc n i (eB pc n):=Aj (stp:=sr pc n) (fun i T C h=>vN fun k A m=>by
 rw [yR] at A;rw [h k ab ab]) hi
theorem oK:jC pc n n=(0,1):=by unfold jC; rw [vv (aQ _) (aQ _)]; simp [l4]
theorem Am:eB pc n n=1:=by unfold eB; rw [vv (aQ _) (aQ _)]; simp
theorem down (P:Nat→Prop) (he:P n) (E:∀ i,i < n→(∀ k,i < k→k≤n→P k)→P i):∀ i,i≤n→P i:=fun i hi=>by
 have :∀ d i,i≤n→n - i≤d→P i:=fun d=>by
  induction d with
  | zero=>intro i h1 A; rw [show i=n by omega]; exact he
  | succ d ih=>
    intro i h1 A;by_cases h:i=n
    · rw [h]; exact he
    · exact E i ab fun k I C=>ih k C ab
 exact this (n - i) i hi<|aQ _
theorem Ms:∀ i,i≤n→(jC pc n i).2=min (eB pc n i) (fi+1)∧(i < n→((jC pc n i).1=0↔eB pc n i=0)):=by
 refine down _ ⟨by rw [oK,Am]; rfl,fun h=>by omega⟩ fun i hi ih=> ?_;rw [sL hi,Ho hi];unfold jU sr jE;rw [vO];have :=foldl_rel (f:=fun a b=>if pc i b=true then dC n i (jC pc n) a b else a) (g:=fun m k=>if bJ pc n i k=true then m+eB pc n k else m) (fun (a:Nat×Nat) (b:Nat)=>a.2=min b (fi+1)∧(a.1=0↔b=0)) (l:=jw (i+1)<|n - i) (a:=(0,0)) (b:=0) ⟨by simp,by simp⟩ (fun k M a b C=>by
  rw [yR] at M;obtain ⟨h1,I⟩:=ih k ab ab;have J:k=n→eB pc n k=1∧(jC pc n k).1=0:=fun e=>by rw [e,Am,oK]; exact ⟨rfl,rfl⟩
  unfold dC bJ;cases hp:pc i k
  · simp only [mw,if_false,Bool.false_and]; exact C
  · by_cases E:i=0∧k=n
    · obtain ⟨rfl,rfl⟩:=E;simp only [if_true,and_self,or_true,decide_true,Bool.and_true,Bool.not_true,uc,mw,if_false]; exact C
    · have L:(true && !(decide (i=0) && decide (k=n)))=true :=by
       simp only [Bool.true_and,Bool.not_eq_true',Bool.and_eq_false_iff,decide_eq_false_iff_not];by_cases h:i=0
       · exact .inr fun e=>E ⟨h,e⟩
       · exact .inl h
      rw [L];simp only [if_true];by_cases A:k < n∧(jC pc n k).1=0
      · rw [if_pos (.inl A)];have :=(I A.1).1 A.2;rw [this]; exact C
      · rw [if_neg (by intro h; rcases h with h | h; exact A h; exact E h)];have U:eB pc n k≠0:=fun e=>by
         by_cases O:k=n
         · have :=(J O).1; omega
         · exact A ⟨ab,(I ab).2 e⟩
        refine ⟨?_,?_⟩
        · show min (a.2+(jC pc n k).2) _=_;rw [C.1,h1]; omega
        · show (if a.1=0∨(jC pc n k).1 +1≤a.1 then (jC pc n k).1 +1 else a.1)=0↔b+eB pc n k=0;split
          · omega
          · omega)
 exact ⟨this.1,fun _=>this.2⟩
def cF (pc:Nat→Nat→Bool) (n i k:Nat):Bool:=decide ((0 < i∨k < n)∧(k=n∨0 < (jC pc n k).1)∧(jC pc n k).1 +1=(jC pc n i).1)
def bZ (pc:Nat→Nat→Bool) (n i:Nat):Nat:=(((jE pc n i).filter<|cF pc n i).getLast?).getD n
theorem HU {i:Nat} (hi:i < n):(jC pc n i).1≠0→∃ k∈jE pc n i,cF pc n i k=true :=by
 rw [sL hi];unfold jU;have I:∀ k∈jE pc n i,k≤n:=fun k A=>(oL.1 A).2.1;have :∀ (l:List Nat) (m:Nat×Nat),(∀ k∈l,k∈jE pc n i)→(l.foldl (dC n i<|jC pc n) m).1≠0→(l.foldl (dC n i<|jC pc n) m).1=m.1∨∃ k∈l,((0 < i∨k < n)∧(k=n∨0 < (jC pc n k).1)∧(jC pc n k).1 +1=(l.foldl (dC n i<|jC pc n) m).1):=fun l=>by
  induction l with
  | nil=>intro m _ _; exact .inl rfl
  | cons k l ih=>
    intro m hm C;rw [iC] at C ⊢;rcases ih _ (fun q E=>hm q<|gZ _ E) C with h | ⟨q,E,h⟩
    · rw [h];unfold dC;have :=I k<|hm k hH;split
      · exact .inl U
      · rename_i h1;show (if m.1=0∨(jC pc n k).1 +1≤m.1 then (jC pc n k).1 +1 else m.1)=m.1∨_;split
        · refine .inr ⟨k,hH,ab,ab,?_⟩;rfl
        · exact .inl U
    · exact .inr ⟨q,gZ _ E,h⟩
 intro C;rcases this _ (0,0) (fun k A=>A) C with h | ⟨k,A,h⟩
 · exact absurd h C
 · refine ⟨k,A,?_⟩;unfold cF;rw [sL hi];exact decide_eq_true h
theorem xh {i:Nat} (hi:i < n) (E:(jC pc n i).1≠0):bZ pc n i∈jE pc n i∧cF pc n i (bZ pc n i)=true :=by
 obtain ⟨k,I,C⟩:=HU hi E;have A:(jE pc n i).filter (cF pc n i)≠[]:=fun e=>by
  have :=pV.2 ⟨I,C⟩;rw [e] at this; cases this
 unfold bZ;rw [E3 A];exact pV.1<|List.getLast_mem A
theorem JU {i k:Nat} (E:k∈jE pc n i) (A:cF pc n i k=true):k≤bZ pc n i:=by
 have hm:=pV.2 ⟨E,A⟩;have I:(jE pc n i).filter (cF pc n i)≠[]:=fun e=>by rw [e] at hm; cases hm
 have J:((jE pc n i).filter<|cF pc n i).Pairwise (· < ·):=((List.pairwise_lt_range' (s:=i+1) (n:=n - i)).filter _).filter _;unfold bZ;rw [E3 I,List.getLast_eq_getElem];obtain ⟨j,C,rfl⟩:=uz.1 hm;simp only [Option.getD_some];by_cases h:j=((jE pc n i).filter<|cF pc n i).length - 1
 · subst h; exact aQ _
 · exact Nat.le_of_lt<|n4.1 J _ _ C ab ab
def fu (pc:Nat→Nat→Bool) (n i:Nat):Prop :=i=n∨(i < n∧(jC pc n i).1≠0)
theorem fu.next {i:Nat} (hi:i < n) (h:fu pc n i):i < bZ pc n i∧bZ pc n i≤n∧pc i (bZ pc n i)=true∧(0 < i∨bZ pc n i < n)∧(jC pc n<|bZ pc n i).1 +1=(jC pc n i).1∧fu pc n (bZ pc n i):=by
 have M:(jC pc n i).1≠0:=by
  rcases h with h | h
  · omega
  · exact h.2
 obtain ⟨h1,A⟩:=xh hi M;obtain ⟨C,E,I⟩:=oL.1 h1;unfold cF at A;obtain ⟨J,O,L⟩:=of_decide_eq_true A;refine ⟨C,E,I,J,L,?_⟩;unfold fu;omega
def jd (pc:Nat→Nat→Bool) (n:Nat):Nat→Nat→List (Nat×Nat)
 | 0,_=> []
 | f+1,i=>if i < n then (i,bZ pc n i)::jd pc n f (bZ pc n i) else []
theorem vg:∀ (f A i:Nat),fu pc n i→n - i≤f→n - i≤A→jd pc n f i=jd pc n A i
 | 0,0,_,_,_,_=>rfl
 | 0,A+1,i,_,h1,_=>by unfold jd; rw [if_neg ab]
 | f+1,0,i,_,_,h2=>by
   show jd pc n (f+1) i= []
   unfold jd; rw [if_neg ab]
 | f+1,A+1,i,ho,h1,h2=>by
   rw [jd,jd];split
   · rename_i hi;obtain ⟨E,I,_,_,_,C⟩:=ho.next hi
     rw [vg f A _ C ab ab]
   · rfl
theorem GO {i:Nat} (f:Nat) (h:¬i < n):jd pc n f i= []:=by
 cases f
 · rfl
 · unfold jd; rw [if_neg h]
def gH (pc:Nat→Nat→Bool) (n i:Nat):List (Nat×Nat):=jd pc n (n - i) i
theorem vh:gH pc n n= []:=GO _ ab
theorem sd {i:Nat} (hi:i < n) (h:fu pc n i):gH pc n i=(i,bZ pc n i)::gH pc n (bZ pc n i):=by
 obtain ⟨C,E,_,_,_,A⟩:=h.next hi
 unfold gH;rw [vg (n - i) (n - i - 1 +1) i h ab ab,jd,if_pos hi,vg (n - i - 1) (n - bZ pc n i) _ A ab ab]
theorem GS (P:Nat→List (Nat×Nat)→Prop) (he:P n []) (U:∀ i,i < n→fu pc n i→i < bZ pc n i→bZ pc n i≤n→pc i (bZ pc n i)=true→(0 < i∨bZ pc n i < n)→(jC pc n<|bZ pc n i).1 +1=(jC pc n i).1→P (bZ pc n i) (gH pc n<|bZ pc n i)→P i ((i,bZ pc n i)::gH pc n (bZ pc n i))) {i:Nat} (h:fu pc n i):P i (gH pc n i):=by
 have :∀ d i,n - i≤d→fu pc n i→P i (gH pc n i):=fun d=>by
  induction d with
  | zero=>
    intro i O A;have :i=n:=by unfold fu at A; omega
    rw [this,vh]; exact he
  | succ d ih=>
    intro i O A;by_cases hi:i < n
    · obtain ⟨C,E,I,J,L,M⟩:=A.next hi
      rw [sd hi A];exact U i hi A C E I J L<|ih _ ab M
    · have :i=n:=by unfold fu at A; omega
      rw [this,vh]; exact he
 exact this (n - i) i (aQ _) h
theorem vi {i:Nat} (h:fu pc n i):(gH pc n i).length=(jC pc n i).1:=by
 refine GS (fun i l=>l.length=(jC pc n i).1) (by rw [oK]; rfl) (fun i hi L C E I J A ih=> ?_) h;rw [dm,ih,A]
theorem GU {i:Nat} (h:fu pc n i) (hi:i < n):gH pc n i≠[]:=by
 rw [sd hi h]; exact List.cons_ne_nil _ _
theorem AQ {i k:Nat} (hi:i < k) (E:k≤n) (hp:pc i k=true) (h0:0 < i∨k < n) (J:k=n∨(jC pc n k).1≠0):(jC pc n i).1≠0∧(jC pc n i).1≤(jC pc n k).1 +1:=by
 have C:i < n:=ab;rw [sL C];unfold jU;have hm:k∈jE pc n i:=oL.2 ⟨hi,E,hp⟩;have I:∀ (l:List Nat) (m:Nat×Nat),m.1≠0→(l.foldl (dC n i<|jC pc n) m).1≠0∧(l.foldl (dC n i<|jC pc n) m).1≤m.1:=fun l=>by
  induction l with
  | nil=>intro m hm; exact ⟨hm,aQ _⟩
  | cons q l ih=>
    intro m hm;rw [iC];have h1:(dC n i (jC pc n) m q).1≠0∧(dC n i (jC pc n) m q).1≤m.1:=by
     unfold dC;split
     · exact ⟨hm,aQ _⟩
     · show (if m.1=0∨(jC pc n q).1 +1≤m.1 then (jC pc n q).1 +1 else m.1)≠0∧(if m.1=0∨(jC pc n q).1 +1≤m.1 then (jC pc n q).1 +1 else m.1)≤m.1;split <;> omega
    have A:=ih _ h1.1;exact ⟨A.1,cG A.2 h1.2⟩
 have :∀ (l:List Nat) (m:Nat×Nat),k∈l→(l.foldl (dC n i<|jC pc n) m).1≠0∧(l.foldl (dC n i<|jC pc n) m).1≤(jC pc n k).1 +1:=fun l=>by
  induction l with
  | nil=>intro m h; cases h
  | cons q l ih=>
    intro m h;rw [iC];rcases eb.1 h with rfl | h
    · have h1:(dC n i (jC pc n) m k).1≠0∧(dC n i (jC pc n) m k).1≤(jC pc n k).1 +1:=by
       unfold dC;rw [if_neg ab];show (if m.1=0∨(jC pc n k).1 +1≤m.1 then (jC pc n k).1 +1 else m.1)≠0∧(if m.1=0∨(jC pc n k).1 +1≤m.1 then (jC pc n k).1 +1 else m.1)≤(jC pc n k).1 +1;split <;> omega
      have A:=I l _ h1.1;exact ⟨A.1,cG A.2 h1.2⟩
    · exact ih _ h
 exact this _ _ hm
end
section
variable {pc:Nat→Nat→Bool} {n i j:Nat} {T:Nat→Nat×Nat}
theorem IL (hT:∀ k,(T k).1≤j) {m:Nat×Nat} (hm:m.1≤j+1∧m.2≤fi+1) (k:Nat):(dC n i T m k).1≤j+1∧(dC n i T m k).2≤fi+1:=by
 have :=hT k;unfold dC;split
 · exact hm
 · refine ⟨?_,Nat.min_le_right _ _⟩;show (if m.1=0∨(T k).1 +1≤m.1 then (T k).1 +1 else m.1)≤j+1;split <;> omega
theorem wj (hT:∀ k,(T k).1≤j):∀ (l:List Nat) (m:Nat×Nat),m.1≤j+1∧m.2≤fi+1→(l.foldl (dC n i T) m).1≤j+1∧(l.foldl (dC n i T) m).2≤fi+1
 | [],_,hm=>hm
 | k::l,_,hm=>wj hT l _<|IL hT hm k
theorem vx:∀ (j k:Nat),(ef n (l4 n) (jU pc n) j k).1≤j∧(ef n (l4 n) (jU pc n) j k).2≤fi+1
 | 0,k=>by
   unfold ef l4;refine ⟨aQ _,?_⟩;show (if k=n then 1 else 0)≤fi+1;split <;> simp [fi]
 | j+1,k=>by
   have ih:=vx j;rw [ef];split
   · exact wj (fun k=>(ih k).1) _ _ ⟨by simp,by simp⟩
   · have :=ih k; omega
theorem Hk (A:j≤n) (hi:i < n - j):ef n (l4 n) (jU pc n) j i=(0,0):=by
 rw [Ak A hi];unfold l4;rw [if_neg ab]
end
def cE (n:Nat) (g:Nat→Nat):List Nat:=(iZ<|n+1).map g
theorem xB (n:Nat) (g:Nat→Nat):(cE n g).length=n+1:=by simp [cE]
theorem j0 {n k:Nat} (g:Nat→Nat) (A:k≤n):(cE n g)[k]? =some (g k):=by
 unfold cE;rw [eV,List.getElem?_range ab]; rfl
theorem xA {n:Nat} {g h:Nat→Nat} (e:∀ k,k≤n→g k=h k):cE n g=cE n h:=by
 unfold cE;exact List.map_congr_left fun k A=>e k<|by rw [lH] at A; omega
theorem tt {n i:Nat} (g:Nat→Nat) (a:Nat):(cE n g).set i a=cE n fun k=>if k=i then a else g k:=by
 apply List.ext_getElem?;intro k;by_cases A:k≤n
 · rw [j0 _ A,List.getElem?_set,j0 _ A,xB];by_cases h:i=k
   · subst h; rw [if_pos rfl,if_pos ab,if_pos rfl]
   · rw [if_neg h,if_neg (fun e=>h e.symm)]
 · have h1:=xB n fun k=>if k=i then a else g k
   have C:=xB n g;rw [jt (by rw [iF]; omega),jt ab]
theorem KA (n:Nat):dr (n+1) 0=cE n fun _=>0:=by
 unfold cE;rw [List.map_const',List.length_range]
end Go.Hb
end
section
namespace Go.Hb
section
variable {P:av} {N:Fm} {σ:Nat→ag} {w:ah} {dst:Option Nat} {ty:aw} {pos :String} {af:Array bR} {g:Option (Nat×Bool)} {x y:aY}
theorem vC (d:Nat) {t e:aw} {a:Option Addr} {n c:Nat} (hu:P.underlying t=some (.slice e)):(Op.equalIn (d+1) t (.slice a n c)<|.slice none 0 0).run P w= .ok a.isNone w:=by
 cases a <;> simp [Op.equalIn,bA hu]
theorem HC {t e:aw} {a:Option Addr} {n c:Nat} (hu:P.underlying t=some (.slice e)):(Op.equal t (.slice a n c)<|.slice none 0 0).run P w= .ok a.isNone w:=vC 9999 hu
theorem vD {t E e:aw} {a:Option Addr} {n c:Nat} (hu:P.underlying t=some (.slice e)) (A:ev N σ x= .slice a n c) (C:ev N σ y= .slice none 0 0):
 (execOp (ev N σ) ⟨dst,.binOp .eql t x y E,ty,pos,af,g⟩).run P w= .ok (.value<|.bool a.isNone) w:=by
 have h:(binOp .eql t (.slice a n c)<|.slice none 0 0).run P w= .ok (.bool a.isNone) w:=by
  simp only [binOp]; simp [HC hu]
 simp [execOp,A,C,eqGuard,h]
end
section
variable {P:av} {N:Fm} {σ:Nat→ag} {w:ah} {dst:Option Nat} {ty:aw} {pos :String} {af:Array bR} {g:Option (Nat×Bool)} {x y z u:aY} {K:(Nat→ag)→ah→Prop}
theorem Lc {t n len cap:Nat} {a:Option Addr} {k I J:bw} {i j m:Nat} (he:cW P t=some n) (A:ev N σ x= .slice a len cap) (C:ev N σ y= .int k (i:Nat)) (E:ev N σ z= .int I (j:Nat)) (hu:ev N σ u= .int J (m:Nat)) (h:i≤j∧j≤m∧m≤cap):
 (execOp (ev N σ) ⟨dst,.slice t x (some y) (some z) (some u),ty,pos,af,g⟩).run P w= .ok (.value<|.slice (eo a m i n) (j - i)<|m - i) w:=by
 have h1:(0:Int)≤(i:Int):=ab;have L:(0:Int)≤(j:Int):=ab;have M:(0:Int)≤(m:Int):=ab;unfold cW at he;cases hd:P.underlying t with
 | none=>rw [hd] at he; cases he
 | some d=>
   rw [hd] at he;cases d <;> first | (cases he; done) | skip
   rename_i e;cases hi':P.info? e with
   | none=>simp [hi'] at he
   | some q=>
     simp only [hi',fC,bH] at he;subst he;simp only [execOp,nR,Instr.slice,A,C,E,hu,fC,kA,Instr.sliceBound,asIntOf];simp [bA hd,dh hi',sizeOf,h.1,h.2.1,h.2.2,eo]
end
end Go.Hb
end
section
namespace Go.Hb
section
variable {P:av} {N:Fm} {σ:Nat→ag} {w:ah} {ops:Array aC} {Q:bd→(Nat→ag)→ah→Prop} {S:ah→Prop} {fuel:Nat} {listed:Array Bool}
theorem lk (a:Array Bool) (i j:Nat):(a.setIfInBounds i true).setIfInBounds j true =(a.setIfInBounds j true).setIfInBounds i true :=by
 apply Array.ext
 · simp
 · intro k h1 A
   grind
theorem DG {i s:Nat} {a:ag} :aX σ i a s=if s=i then a else σ s:=by
 unfold aX;by_cases h:s=i
 · subst h; simp
 · rw [if_neg h];cases hb:Nat.beq s i
   · rfl
   · exact absurd (Nat.eq_of_beq_eq_true hb) h
theorem ln {i j:Nat} (h:i≠j) (a b:ag):aX (aX σ i a) j b=aX (aX σ j b) i a:=by
 funext s;simp only [DG];by_cases h1:s=j
 · subst h1;rw [if_pos rfl,if_neg (Ne.symm h),if_pos rfl]
 · rw [if_neg h1,if_neg h1]
theorem ku {rs:List Nat} (hr:(dw .any ops listed==rs)=true) (I:rs≠[]) (h:∀ i∈rs,∃ o,ops[i]? =some o∧o.guard=none∧bX P N o σ w (fun σ w=>S w∧cm P N ops Q S fuel (listed.setIfInBounds i true) σ w)):cm P N ops Q S (fuel+1) listed σ w:=by
 unfold cm;refine wpAnyH_all (rs:=rs) (by simpa using hr) I ?_;intro q J;obtain ⟨o,h1,C,E⟩:=h q J;unfold wpOp;simp only [h1];rw [if_pos (fl _ C _)];exact .inl<|pD E fun _ _ A=>by unfold cm at A; exact A
def rQ (P:av) (N:Fm) (F:List Nat) (σ:Nat→ag) (o:aC) (d:Nat) (V:Nat→ag) (R:Nat→ah→Prop):Prop :=
 ∀ (σ':Nat→ag) (w':ah) (K:(Nat→ag)→ah→Prop),(∀ s,s∉F→σ' s=σ s)→(∀ b A,b=w'.heap.size→Nw w' A→R b A→K (aX σ' d<|V b) A)→bX P N o σ' w' K
theorem xg {F:List Nat} {d t e bytes n:Nat} {ty:aw} {pos :String} {af:Array bR} {x y:aY} {V U:bw} {zv:ag} (J:dT P t e 1 bytes=true) (O:zeroOf P e=some (some [zv])) (h1:zv.oneCell'=true)
 (L:∀ σ':Nat→ag,(∀ s,s∉F→σ' s=σ s)→ev N σ' x= .int V n) (M:∀ σ':Nat→ag,(∀ s,s∉F→σ' s=σ s)→ev N σ' y= .int U n) (hb:bytes*n≤281474976710656) (C:n≤maxLen):
 rQ P N F σ ⟨some d,.makeSlice t x y,ty,pos,af,none⟩ d (fun b=> .slice (some ⟨b,0,none⟩) n n) (fun b w'=> ∀ B,B≤b→w'.ownsRow B e 1 (.slice (some ⟨b,0,none⟩) n n) n (dr n zv)):=
 fun σ' _ _ A k=>gr J O h1 (L σ' A) (M σ' A) hb C fun b Z E hn I=>k b Z E hn I
theorem JF (i j k:Nat) {ak al am:aC} {d1 d2 d3:Nat} {Z ac aj:Nat→ag} {R1 az aA:Nat→ah→Prop} (an:ak.guard=none) (ao:al.guard=none) (ap:am.guard=none) (hi:ops[i]? =some ak) (ar:ops[j]? =some al) (au:ops[k]? =some am)
 (r0:((dw .any ops listed)== [i,j,k])=true) (aP:((dw .any ops<|listed.setIfInBounds i true)== [j,k])=true) (aQ:((dw .any ops<|listed.setIfInBounds j true)== [i,k])=true) (aR:((dw .any ops<|listed.setIfInBounds k true)== [i,j])=true)
 (aK:gO ops ((listed.setIfInBounds i true).setIfInBounds j true) k=true) (aL:gO ops ((listed.setIfInBounds i true).setIfInBounds k true) j=true) (aM:gO ops ((listed.setIfInBounds j true).setIfInBounds k true) i=true)
 (aH:d1≠d2) (aI:d1≠d3) (aJ:d2≠d3)
 (s1:rQ P N [d1,d2,d3] σ ak d1 Z R1) (s2:rQ P N [d1,d2,d3] σ al d2 ac az) (av:rQ P N [d1,d2,d3] σ am d3 aj aA)
 (m1:∀ b w w',R1 b w→Wk w w'→R1 b w') (aF:∀ b w w',az b w→Wk w w'→az b w') (aG:∀ b w w',aA b w→Wk w w'→aA b w')
 (U:∀ w',Wk w w'→S w')
 (c:∀ (L M O:Nat) (w':ah),w.heap.size≤L→w.heap.size≤M→w.heap.size≤O→L≠M→L≠O→M≠O→w.heap.size < w'.heap.size→Wk w w'→R1 L w'→az M w'→aA O w'→cm P N ops Q S fuel (((listed.setIfInBounds i true).setIfInBounds j true).setIfInBounds k true) (aX (aX (aX σ d1<|Z L) d2<|ac M) d3<|aj O) w'):cm P N ops Q S (fuel+3) listed σ w:=by
 have off :∀ {s:Nat} {σ':Nat→ag} {d:Nat} {v:ag},d∈[d1,d2,d3]→s∉[d1,d2,d3]→aX σ' d v s=σ' s:=fun {s σ' d v} aS I=>by
  rw [DG,if_neg (fun e=>I<|by rw [e]; exact aS)]
 refine ku r0 (by simp) ?_;intro q A;simp only [eb,uE,or_false] at A;rcases A with A | A | A <;> rw [A]
 · refine ⟨ak,hi,an,s1 _ _ _ (fun _ _=>rfl) fun L aN aB J ad=>⟨U _ J.md,?_⟩⟩;have aO:=J.size;refine ku aP (by simp) ?_;intro q A;simp only [eb,uE,or_false] at A;rcases A with A | A <;> rw [A]
   · refine ⟨al,ar,ao,s2 _ _ _ (fun s I=>off (by simp) I) fun M aw aD C ae=>⟨U _ (J.md.trans C.md),?_⟩⟩;have ax:=C.size;refine ku aK (by simp) ?_;intro q A;have A:=dN.1 A;rw [A];refine ⟨am,au,ap,av _ _ _ (fun s I=>by rw [off (by simp) I,off (by simp) I]) fun O V aE E ai=>⟨U _ ((J.md.trans C.md).trans E.md),?_⟩⟩;have ay:=E.size;have :=c L M O V ab ab ab ab ab ab ab ((J.md.trans C.md).trans E.md) (m1 _ _ _ ad<|C.md.trans E.md) (aF _ _ _ ae E.md) ai;exact this
   · refine ⟨am,au,ap,av _ _ _ (fun s I=>off (by simp) I) fun O aw aE C ai=>⟨U _ (J.md.trans C.md),?_⟩⟩;have ax:=C.size;refine ku aL (by simp) ?_;intro q A;have A:=dN.1 A;rw [A];refine ⟨al,ar,ao,s2 _ _ _ (fun s I=>by rw [off (by simp) I,off (by simp) I]) fun M V aD E ae=>⟨U _ ((J.md.trans C.md).trans E.md),?_⟩⟩;have ay:=E.size;have :=c L M O V ab ab ab ab ab ab ab ((J.md.trans C.md).trans E.md) (m1 _ _ _ ad<|C.md.trans E.md) ae<|aG _ _ _ ai E.md;rw [lk (listed.setIfInBounds i true) j k,ln (σ:=aX σ d1<|Z L) aJ (ac M) (aj O)] at this;exact this
 · refine ⟨al,ar,ao,s2 _ _ _ (fun _ _=>rfl) fun M aN aD J ae=>⟨U _ J.md,?_⟩⟩;have aO:=J.size;refine ku aQ (by simp) ?_;intro q A;simp only [eb,uE,or_false] at A;rcases A with A | A <;> rw [A]
   · refine ⟨ak,hi,an,s1 _ _ _ (fun s I=>off (by simp) I) fun L aw aB C ad=>⟨U _ (J.md.trans C.md),?_⟩⟩;have ax:=C.size;rw [lk listed j i];refine ku aK (by simp) ?_;intro q A;have A:=dN.1 A;rw [A];refine ⟨am,au,ap,av _ _ _ (fun s I=>by rw [off (by simp) I,off (by simp) I]) fun O V aE E ai=>⟨U _ ((J.md.trans C.md).trans E.md),?_⟩⟩;have ay:=E.size;have :=c L M O V ab ab ab ab ab ab ab ((J.md.trans C.md).trans E.md) (m1 _ _ _ ad E.md) (aF _ _ _ ae<|C.md.trans E.md) ai;rw [ln (σ:=σ) aH (Z L) (ac M)] at this;exact this
   · refine ⟨am,au,ap,av _ _ _ (fun s I=>off (by simp) I) fun O aw aE C ai=>⟨U _ (J.md.trans C.md),?_⟩⟩;have ax:=C.size;refine ku aM (by simp) ?_;intro q A;have A:=dN.1 A;rw [A];refine ⟨ak,hi,an,s1 _ _ _ (fun s I=>by rw [off (by simp) I,off (by simp) I]) fun L V aB E ad=>⟨U _ ((J.md.trans C.md).trans E.md),?_⟩⟩;have ay:=E.size;have :=c L M O V ab ab ab ab ab ab ab ((J.md.trans C.md).trans E.md) ad (aF _ _ _ ae<|C.md.trans E.md)<|aG _ _ _ ai E.md;rw [lk listed i j,lk (listed.setIfInBounds j true) i k,ln (σ:=σ) aH (Z L) (ac M),ln (σ:=aX σ d2<|ac M) aI (Z L) (aj O)] at this;exact this
 · refine ⟨am,au,ap,av _ _ _ (fun _ _=>rfl) fun O aN aE J ai=>⟨U _ J.md,?_⟩⟩;have aO:=J.size;refine ku aR (by simp) ?_;intro q A;simp only [eb,uE,or_false] at A;rcases A with A | A <;> rw [A]
   · refine ⟨ak,hi,an,s1 _ _ _ (fun s I=>off (by simp) I) fun L aw aB C ad=>⟨U _ (J.md.trans C.md),?_⟩⟩;have ax:=C.size;rw [lk listed k i];refine ku aL (by simp) ?_;intro q A;have A:=dN.1 A;rw [A];refine ⟨al,ar,ao,s2 _ _ _ (fun s I=>by rw [off (by simp) I,off (by simp) I]) fun M V aD E ae=>⟨U _ ((J.md.trans C.md).trans E.md),?_⟩⟩;have ay:=E.size;have :=c L M O V ab ab ab ab ab ab ab ((J.md.trans C.md).trans E.md) (m1 _ _ _ ad E.md) ae<|aG _ _ _ ai<|C.md.trans E.md;rw [lk (listed.setIfInBounds i true) j k,ln (σ:=aX σ d1<|Z L) aJ (ac M) (aj O),ln (σ:=σ) aI (Z L) (aj O)] at this;exact this
   · refine ⟨al,ar,ao,s2 _ _ _ (fun s I=>off (by simp) I) fun M aw aD C ae=>⟨U _ (J.md.trans C.md),?_⟩⟩;have ax:=C.size;rw [lk listed k j];refine ku aM (by simp) ?_;intro q A;have A:=dN.1 A;rw [A];refine ⟨ak,hi,an,s1 _ _ _ (fun s I=>by rw [off (by simp) I,off (by simp) I]) fun L V aB E ad=>⟨U _ ((J.md.trans C.md).trans E.md),?_⟩⟩;have ay:=E.size;have :=c L M O V ab ab ab ab ab ab ab ((J.md.trans C.md).trans E.md) ad (aF _ _ _ ae E.md)<|aG _ _ _ ai<|C.md.trans E.md;rw [lk listed i j,lk (listed.setIfInBounds j true) i k,ln (σ:=σ) aH (Z L) (ac M),ln (σ:=aX σ d2<|ac M) aI (Z L) (aj O),ln (σ:=σ) aJ (ac M) (aj O)] at this;exact this
end
end Go.Hb
end
section
namespace Go.Hb
structure Gw (B:Nat) (fp:Nat→Prop) (w:ah) (fp':Nat→Prop) (w':ah):Prop where
 sub:∀ k,fp' k→fp k∨w.heap.size≤k
 dL:∀ (k:Nat) (cs:Array ag) (e:Nat) (z:Nat×Nat),B≤k→¬fp k→w.heap[k]? =some (.cells cs e z)→w'.heap[k]? =some (.cells cs e z)
 size:w.heap.size≤w'.heap.size
section
variable {B B':Nat} {fp fp' fp'':Nat→Prop} {w w' w'':ah}
theorem Gw.trans (h:Gw B fp w fp' w') (h':Gw B fp' w' fp'' w''):Gw B fp w fp'' w'':=
 ⟨fun k A=>(h'.sub k A).elim (h.sub k) (fun C=> .inr<|cG h.size C),
  fun k cs e z E hn A=>h'.dL k cs e z E (fun C=>(h.sub k C).elim hn fun I=>by have :=(dq.1 A).1; omega) (h.dL k cs e z E hn A),cG h.size h'.size⟩
theorem Gw.mono (h:Gw B fp w fp' w') (A:B≤B'):Gw B' fp w fp' w':=⟨h.sub,fun k cs e z C=>h.dL k cs e z (cG A C),h.size⟩
theorem Gw.md {G:Nat→Prop} (hm:Md G w w') (C:∀ k,G k→fp k∨k < B) (E:∀ k,fp' k→fp k∨w.heap.size≤k):Gw B fp w fp' w':=
 ⟨E,fun k cs e z J hn A=>by rw [hm.dL k (dq.1 A).1 (fun h=>(C k h).elim hn fun I=>by omega)]; exact A,hm.size⟩
theorem Gw.wk (hm:Wk w w'):Gw B fp w fp w':=Gw.md hm (fun _ h=>h.elim) fun _ h=> .inl h
end
def uS {α:Type} (B:Nat) (A:List α→(Nat→Prop)→ah→Prop):Prop := ∀ pre fp W W' (F:Nat→Prop),A pre fp W→Md F W W'→(∀ k,F k→B≤k∧∀ cur e z,W.heap[k]? =some (.cells cur e z)→¬fp k)→A pre fp W'
section
variable {F fp:Nat→Prop} {W W':ah} {B:Nat}
theorem Dm {b e:Nat} {cs:Array ag} {z:Nat×Nat} (h:W.heap[b]? =some (.cells cs e z)) (hm:Md F W W') (hb:b < B) (A:∀ k,F k→B≤k∧∀ cur e z,W.heap[k]? =some (.cells cur e z)→¬fp k):W'.heap[b]? =some (.cells cs e z):=by
 rw [hm.dL b (dq.1 h).1 (fun C=>by have :=(A b C).1; omega)]; exact h
theorem LU {w:ah} (h:Wk w W) (hm:Md F W W') (E:w.heap.size≤B) (A:∀ k,F k→B≤k∧∀ cur e z,W.heap[k]? =some (.cells cur e z)→¬fp k):Wk w W':=Md.trans' h hm fun k I C=>by have :=(A k C).1; omega
end
def FB {α:Type} (B:Nat) (A:Bool→List α→(Nat→Prop)→ah→Prop):Prop := ∀ b pre fp W W' (F:Nat→Prop),A b pre fp W→Md F W W'→(∀ k,F k→B≤k∧¬fp k∧∃ cs e z,W.heap[k]? =some (.cells cs e z))→A b pre fp W'
structure Yc {α:Type} (P:av) (l B:Nat) (encs:α→Array ag) (xs:List α) (Cap:ah→Prop) (J:Bool→List α→(Nat→Prop)→ah→Prop):Prop where
 cap:∀ b pre fp W,J b pre fp W→Cap W
 lt:∀ b pre fp W,J b pre fp W→∀ k,fp k→k < W.heap.size
 st:FB B J
 yl:∀ pre x rest fp W1,xs=pre++x::rest→J true pre fp W1→YieldAt eR 0 P l (encs x) W1 fun e W'=> ∃ b,e= .returned (.bool b)∧∃ fp',J b (pre++ [x]) fp' W'∧Gw B fp W1 fp' W'
def yY {α:Type} (P:av) (I:Nat) (J:Array ag) (E:α→Array ag) (xs:List α) (C:ah→Prop):Prop :=
 ∀ (l:Nat) (A:Bool→List α→(Nat→Prop)→ah→Prop) (W:ah),A true [] (fun _=>False) W→Yc P l W.heap.size E xs C A→
   Calls P I (#[.func (.yield l) #[] #[]]++J) W fun e W'=>(∃ v,e= .returned v)∧∃ b pre fp,A b pre fp W'∧pre <+:xs∧(b=true→pre=xs)
def Ku (id B:Nat) (fp:Nat→Prop) (W:ah) (R:(Nat→Prop)→ah→Prop) (X:Bool→(Nat→Prop)→ah→Prop):bd→(Nat→ag)→ah→Prop
 | .normal,_,w=>bY W w∧∃ fp',Gw B fp W fp' w∧R fp' w
 | .exit i,_,w=>i=id∧bY W w∧∃ fp',Gw B fp W fp' w∧X false fp' w
 | .ret,_,w=>bY W w∧∃ fp',Gw B fp W fp' w∧X true fp' w
 | _,_,_=>False
def wo (id:Nat):Bool→Code
 | true => .ret
 | false => .exit id
def JX {α:Type} (A:List α→(Nat→Prop)→ah→Prop) (X:Bool→List α→(Nat→Prop)→ah→Prop) (S:ah→Prop) (T:Bool→ah→Prop):Bool→List α→(Nat→Prop)→ah→Prop
 | true,pre,fp,W=>A pre fp W∧S W
 | false,pre,fp,W=> ∃ r,X r pre fp W∧T r W
theorem Ky {α:Type} {P:av} {id n:Nat} {ad:List Deferred} {g:aY} {ps:Array Tmp} {aB body:Code} {Fx:List Nat} {σ:Nat→ag} {w:ah} {B:bd→Act→ah→Prop} {an:Nat} {ao:Array ag}
 (aj:α→Array ag) (xs:List α) (aE:ah→Prop) (I:List α→(Nat→Prop)→ah→Prop) (X:Bool→List α→(Nat→Prop)→ah→Prop) (a3:ev ⟨n,ad,Fx,none⟩ σ g= .func (.func an) #[] ao) (aZ:gk P an) (bb:∀ x,(aj x).size=ps.size)
 (a4:yY P an ao aj xs aE) (aT:I [] (fun _=>False) w) (aJ:∀ pre fp W,I pre fp W→aE W∧∀ k,fp k→k < W.heap.size) (aK:∀ r pre fp W,X r pre fp W→aE W∧∀ k,fp k→k < W.heap.size) (ae:uS w.heap.size I) (ax:∀ r,uS w.heap.size (X r)) (A:α→Nat→ah→Prop) (aR:∀ x b W W' (F:Nat→Prop),A x b W→Md F W W'→(∀ k,F k→∀ cur e z,W.heap[k]?≠some (.cells cur e z))→A x b W') (aO:α→Nat→Nat→ag)
 (ha:∀ (l:Nat) (x:α) (W:ah) (K:(Nat→ag)→ah→Prop),(∀ b W',Wk W W'→A x b W'→K (aO x b) W')→bu P ⟨n,[],[],some l⟩ aB (gS K fun _ _ _=>False) ((ps.toList.zip (aj x).toList).foldl (fun s p=>aX s p.1 p.2) σ) W)
 (hb:∀ (l:Nat) (pre:List α) (x:α) (rest:List α) (fp:Nat→Prop) (b:Nat) (W:ah),xs=pre++x::rest→I pre fp W→A x b W→bu P ⟨n,[],[],some l⟩ body (Ku id w.heap.size fp W (I<|pre++ [x]) fun r=>X r<|pre++ [x]) (aO x b) W)
 (a0:∀ (D:Nat) (W:ah),w.heap.size≤D→(∃ fp,I xs fp W)→W.heap[D]? =some (.deferred<|some [])→qb ⟨n,{target:= .collected D,args:= #[]} ::ad,Fx,none⟩ B .normal σ W)
 (bg:∀ (D:Nat) (W:ah) (pre:List α),w.heap.size≤D→pre <+:xs→(∃ fp,X false pre fp W)→W.heap[D]? =some (.deferred<|some [])→qb ⟨n,{target:= .collected D,args:= #[]} ::ad,Fx,none⟩ B .normal σ W)
 (bh:∀ (D:Nat) (W:ah) (pre:List α),w.heap.size≤D→pre <+:xs→(∃ fp,X true pre fp W)→W.heap[D]? =some (.deferred<|some [])→qb ⟨n,{target:= .collected D,args:= #[]} ::ad,Fx,none⟩ B .ret σ W):
 eQ P ⟨n,ad,Fx,none⟩ (.block id<|.rangeFunc g ps aB body) B σ w:=by
 refine wpIn_block<|wpIn_rangeFunc ?_;intro fn _;obtain ⟨rc,ac⟩:∃ rc:LoopState→Option Code→Loop,rc=fun st bi=> {state:=st,pending:=bi,fn,tmps:=(act ⟨n,ad,Fx,none⟩ σ).tmps,params:=ps,assign:=aB,body,defers:=w.heap.size} :=⟨_,rfl⟩
 obtain ⟨L,aw⟩:∃ L,(w.alloc<|.deferred<|some []).alloc (.loop<|rc .ready none)=L:=⟨_,rfl⟩
 have aW:L.heap[w.heap.size+1]? =some (.loop<|rc .ready none):=by
  rw [← aw]; have :=EJ (w.alloc<|.deferred<|some []) (.loop<|rc .ready none); rwa [World.size_alloc] at this
 have aV:L.heap[w.heap.size]? =some (.deferred<|some []):=by
  rw [← aw]; exact (Below.heap_alloc _ _ _<|by simp).trans<|EJ w _
 have bl:L.heap.size=w.heap.size+2:=by rw [← aw]; simp
 have hn:∀ (W:ah) (o:Obj),Wk W (W.alloc o):=fun W o=>(B7 W o).md;have aU:I [] (fun _=>False) L:=by rw [← aw]; exact ae _ _ _ _ _ (ae _ _ _ _ _ aT (hn _ _) fun _ h=>h.elim) (hn _ _) fun _ h=>h.elim
 have a1:(act ⟨n,ad,Fx,none⟩ σ).eval g= .func (.func an) #[] ao:=by rw [dt]; exact a3
 refine ⟨w.heap.size+1,[{target:= .collected w.heap.size,args:= #[]}],L,{target:= .fn (.func an) ao,args:= #[.func (.yield<|w.heap.size+1) #[] #[]]},L,an,
  #[.func (.yield<|w.heap.size+1) #[] #[]]++ao,L,?_,?_,fun _ _=>trivial,?_,fun h0=>(by cases h0),?_⟩
 · rw [← aw,ac]; exact run_enterLoop_outer _ _ _ _ _
 · simp only [resolve,a1];simp [go_sem]
 · have :=aZ (#[.func (.yield<|w.heap.size+1) #[] #[]]++ao) L;simp [invoke,go_sem,this]
 ·
  have am:∀ (I:List α→(Nat→Prop)→ah→Prop),uS w.heap.size I→∀ (pre:List α) (fp:Nat→Prop) (W:ah) (o ap:Obj),I pre fp W→W.heap[w.heap.size+1]? =some o→(∀ cur e z,o≠.cells cur e z)→I pre fp (W.putObj (w.heap.size+1) ap):=fun I ae pre fp W o ap h1 ak ar=>
   ae _ _ _ _ _ h1 (wW W _ ap) fun k E=>⟨ab,fun cur e z au=>by subst E; rw [ak] at au; exact absurd (fD au)<|ar _ _ _⟩
  have aL:∀ (fp:Nat→Prop) (W:ah) (o ap:Obj),W.heap[w.heap.size+1]? =some o→(∀ cur e z,o≠.cells cur e z)→Gw w.heap.size fp W fp (W.putObj (w.heap.size+1) ap):=fun fp W o ap ak ar=>
   ⟨fun _ h=> .inl h,fun k cs e z _ _ E=>by
    rw [lE (fun h=>by subst h; rw [ak] at E; exact ar _ _ _<|fD E)]; exact E,by simp [World.putObj]⟩
  have aG:∀ {F:Nat→Prop} {A C:ah},Md F A C→∀ (k:Nat) (o:Obj),A.heap[k]? =some o→¬F k→C.heap[k]? =some o:=fun hm k o az a2=>by
   rw [hm.dL k (dq.1 az).1 a2]; exact az
  refine callsIn_wide.2 (j3 (a4 (w.heap.size+1)
   (JX I X (fun W=>W.heap[w.heap.size+1]? =some (.loop<|rc .ready none)∧W.heap[w.heap.size]? =some (.deferred<|some [])) fun r W=>W.heap[w.heap.size+1]? =some (.loop<|rc .done<|some<|wo id r)∧W.heap[w.heap.size]? =some (.deferred<|some []))
   L ⟨aU,aW,aV⟩ ⟨fun b pre fp W h=>match b,h with
    | true,h=>(aJ pre fp W h.1).1
    | false,⟨r,h,_⟩=>(aK r pre fp W h).1,fun b pre fp W h=>match b,h with
    | true,h=>(aJ pre fp W h.1).2
    | false,⟨r,h,_⟩=>(aK r pre fp W h).2,?_,?_⟩) ?_)
  · intro b pre fp A C F h hm aF;have aI:∀ k,F k→w.heap.size≤k∧∀ cur e z,A.heap[k]? =some (.cells cur e z)→¬fp k:=fun k E=>⟨by have :=(aF k E).1; omega,fun _ _ _ _=>(aF k E).2.1⟩
    have O:∀ (k:Nat) (o:Obj),A.heap[k]? =some o→(∀ cur e z,o≠.cells cur e z)→C.heap[k]? =some o:=fun k o az a9=>aG hm k o az fun E=>by
     obtain ⟨cs,e,z,aH⟩:=(aF k E).2.2; rw [az] at aH; exact a9 _ _ _<|fD aH
    cases b with
    | true =>exact ⟨ae _ _ _ _ _ h.1 hm aI,O _ _ h.2.1 (fun _ _ _ h=>by cases h),O _ _ h.2.2 fun _ _ _ h=>by cases h⟩
    | false =>
      obtain ⟨r,h1,ak,ar⟩:=h;exact ⟨r,ax r _ _ _ _ _ h1 hm aI,O _ _ ak (fun _ _ _ h=>by cases h),O _ _ ar fun _ _ _ h=>by cases h⟩
  · rintro pre x rest fp W bf ⟨hi,J,E⟩;have aM:=run_yield (P:=P) (args:=aj x) J<|by rw [ac]; exact bb x
    rw [ac] at aM;refine ⟨fn,_,aB,body,aM,roundIn_of_wpIn (F:=eR) trivial ?_⟩;have bc:((ps.zip<|aj x).foldl (fun tmps (p:Tmp×ag)=>tmps.setIfInBounds p.1 p.2) (act ⟨n,ad,Fx,none⟩ σ).tmps)=(act ⟨n,[],[],some<|w.heap.size+1⟩<|(ps.toList.zip (aj x).toList).foldl (fun s p=>aX s p.1 p.2) σ).tmps:=by
     rw [← Array.foldl_toList,Array.toList_zip];exact za ⟨n,[],[],some<|w.heap.size+1⟩ _ σ
    have h1:=ha (w.heap.size+1) x W (fun σ' W'=> ∃ aN,(Instr.beginRound<|w.heap.size+1).run P W'= .ok () aN∧
     body.wpIn (eR.inRound<|w.heap.size+1) 0 P (roundPost P (w.heap.size+1) fun e W'=> ∃ b,e= .returned (.bool b)∧∃ fp',JX I X (fun W=>W.heap[w.heap.size+1]? =some (.loop<|rc .ready none)∧W.heap[w.heap.size]? =some (.deferred<|some [])) (fun r W=>W.heap[w.heap.size+1]? =some (.loop<|rc .done<|some<|wo id r)∧W.heap[w.heap.size]? =some (.deferred<|some [])) b (pre++ [x]) fp' W'∧Gw L.heap.size fp W fp' W') (act ⟨n,[],[],some<|w.heap.size+1⟩ σ') aN) ?_
    · unfold bu at h1;have aP:({tmps:=(ps.zip<|aj x).foldl (fun tmps (p:Tmp×ag)=>tmps.setIfInBounds p.1 p.2) (act ⟨n,ad,Fx,none⟩ σ).tmps,defers:= []} :Act)=act ⟨n,[],[],some<|w.heap.size+1⟩ ((ps.toList.zip (aj x).toList).foldl (fun s p=>aX s p.1 p.2) σ):=by rw [bc]; rfl
      rw [aP];refine wpIn_mono h1 ?_;intro e a w' Z;cases e with
      | normal=>obtain ⟨σ',rfl,ai⟩:=Z; exact ai
      | panic c=>obtain ⟨σ',rfl,ai⟩:=Z; exact ai σ' fun _ _=>rfl
      | outgrown=>exact Z.elim
      | _=>obtain ⟨σ',rfl,ai⟩:=Z; exact ai
    intro b V aC aS;have hi:=ae _ _ _ _ _ hi aC fun _ h=>h.elim;have J:=aG aC _ _ J fun h=>h;have E:=aG aC _ _ E fun h=>h;have a8:w.heap.size+1 < V.heap.size:=(dq.1 J).1;refine ⟨_,run_beginRound J (by rw [ac]),?_⟩;have a7:(V.putObj (w.heap.size+1)<|.loop {rc .ready none with state:= .busy}).heap[w.heap.size+1]? =some (.loop {rc .ready none with state:= .busy}):=uj a8;have a5:(V.putObj (w.heap.size+1)<|.loop {rc .ready none with state:= .busy}).heap[w.heap.size]? =some (.deferred<|some []):=(lE ab).trans E;have ba:=aL fp V _ (.loop {rc .ready none with state:= .busy}) J fun _ _ _ h=>by cases h
    have ak:=hb (w.heap.size+1) pre x rest fp b _ bf (am I ae _ _ _ _ (.loop {rc .ready none with state:= .busy}) hi J fun _ _ _ h=>by cases h)<|aR _ _ _ _ _ aS (wW V (w.heap.size+1) _) fun k E cur e z au=>by subst E; rw [J] at au; cases au
    unfold bu at ak;refine wpIn_mono ak ?_;have fin:∀ (j:Option Code) (fp':Nat→Prop) (M:ah),bY (V.putObj (w.heap.size+1)<|.loop {rc .ready none with state:= .busy}) M→Gw w.heap.size fp (V.putObj (w.heap.size+1)<|.loop {rc .ready none with state:= .busy}) fp' M→
     (Instr.endRound (w.heap.size+1) j).run P M= .ok (.bool j.isNone) (M.putObj (w.heap.size+1)<|.loop<|rc (if j.isNone then .ready else .done) j)∧
     M.heap[w.heap.size+1]? =some (.loop {rc .ready none with state:= .busy})∧
     (M.putObj (w.heap.size+1)<|.loop<|rc (if j.isNone then .ready else .done) j).heap[w.heap.size+1]? =some (.loop<|rc (if j.isNone then .ready else .done) j)∧
     (M.putObj (w.heap.size+1)<|.loop<|rc (if j.isNone then .ready else .done) j).heap[w.heap.size]? =some (.deferred<|some [])∧
     Gw L.heap.size fp W fp' (M.putObj (w.heap.size+1)<|.loop<|rc (if j.isNone then .ready else .done) j):=fun j fp' M O al=>by
     have aD:=O _ _ a7 ⟨(fun _ _ _ h=>by cases h),fun _ _ h=>by cases h⟩;have a6:=O _ _ a5 ⟨(fun _ _ _ h=>by cases h),fun _ _ h=>by cases h⟩;have hr:=run_endRound (P:=P) j aD;refine ⟨?_,aD,uj (dq.1 aD).1,(lE ab).trans a6,((((Gw.wk aC).trans ba).trans al).trans<|aL fp' _ _ _ aD fun _ _ _ h=>by cases h).mono ab⟩;rw [ac] at hr ⊢;exact hr
    intro e a M Z;cases e with
    | normal=>
      obtain ⟨σ',rfl,O,fp',al,ay⟩:=Z;obtain ⟨f1,f2,f3,f4,f5⟩:=fin none fp' M O al;exact ⟨_,_,f1,true,U,fp',⟨am I ae _ _ _ _ _ ay f2 (fun _ _ _ h=>by cases h),f3,f4⟩,f5⟩
    | ret=>
      obtain ⟨σ',rfl,O,fp',al,ay⟩:=Z;obtain ⟨f1,f2,f3,f4,f5⟩:=fin (some .ret) fp' M O al;exact ⟨_,_,f1,false,U,fp',⟨true,am (X true) (ax true) _ _ _ _ _ ay f2 (fun _ _ _ h=>by cases h),f3,f4⟩,f5⟩
    | exit i=>
      obtain ⟨σ',rfl,rfl,O,fp',al,ay⟩:=Z;obtain ⟨f1,f2,f3,f4,f5⟩:=fin (some<|.exit i) fp' M O al;exact ⟨_,_,f1,false,U,fp',⟨false,am (X false) (ax false) _ _ _ _ _ ay f2 (fun _ _ _ h=>by cases h),f3,f4⟩,f5⟩
    | panic c=>obtain ⟨σ',rfl,ai⟩:=Z; exact (ai σ' fun _ _=>rfl).elim
    | outgrown=>exact Z.elim
    | goto t=>obtain ⟨σ',rfl,ai⟩:=Z; exact ai.elim
  · rintro e bj ⟨⟨v,rfl⟩,b,pre,fp,hj,hpre,hb1⟩;cases b with
    | true =>
      obtain ⟨hi,J,E⟩:=hj;obtain rfl :=hb1 rfl;have aA:=run_endLoop (P:=P) J<|by rw [ac]; simp
      rw [ac] at aA;refine ⟨none,_,aA,?_⟩;rw [ac] at J;exact a0 w.heap.size _ (aQ _) ⟨fp,am I ae _ _ _ _ _ hi J fun _ _ _ h=>by cases h⟩<|(lE ab).trans E
    | false =>
      obtain ⟨r,hi,J,E⟩:=hj;have aA:=run_endLoop (P:=P) J<|by rw [ac]; simp
      rw [ac] at aA;refine ⟨some (wo id r),_,aA,?_⟩;rw [ac] at J;cases r with
      | true =>
        refine wpIn_ret ?_;exact bh w.heap.size _ pre (aQ _) hpre ⟨fp,am (X true) (ax true) _ _ _ _ _ hi J fun _ _ _ h=>by cases h⟩<|(lE ab).trans E
      | false =>
        refine wpIn_exit ?_;unfold pJ;simp only [if_true];exact bg w.heap.size _ pre (aQ _) hpre ⟨fp,am (X false) (ax false) _ _ _ _ _ hi J fun _ _ _ h=>by cases h⟩<|(lE ab).trans E
section
variable {P:av} {N:Fm} {ops:Array aC} {Q:bd→(Nat→ag)→ah→Prop} {rest:List aC} {σ:Nat→ag} {w:ah} {d':Option Nat} {d:Nat} {op:Op} {ty:aw} {pos :String} {af:Array bR} {v:ag}
theorem Nd {l:Nat} {fo:aY} {args:Array aY} {A:Array aw} {L:List ag} {R:Bool→ah→Prop} (J:ev N σ fo= .func (.yield l) #[] #[]) (E:args.toList.map (ev N σ)=L)
 (O:YieldAt eR 0 P l L.toArray w fun e W'=> ∃ b,e= .returned (.bool b)∧R b W') (k:∀ b W',R b W'→kv P N ops Q rest (aX σ d<|.bool b) W'):
 kv P N ops Q (⟨some d,.call ⟨.value fo,args,A⟩,ty,pos,af,none⟩::rest) σ w:=by
 obtain ⟨fn,tmps,a,b,I,C⟩:=O;unfold kv wpListIn;rw [if_pos (fl _ rfl _)];refine ⟨fun f _=>ka _ f,?_⟩;rw [mS,Oper.semAt_eq _ _ _ (fun c e=>by cases e),dt];have hm:args.map (ev N σ)=L.toArray:=by rw [← E,← ix]
 have M:(execOp (ev N σ) ⟨some d,.call ⟨.value fo,args,A⟩,ty,pos,af,none⟩).run P w= .ok (.round l fn tmps a b) w:=by
  simp [execOp,resolve,J,lB,invoke,hm,I]
 rw [M];simp only [Oper.uponIn];refine ⟨fun h0=>(by rw [mR] at h0; cases h0),?_⟩;have h1:RoundIn (fe N.r) (0 - 1) P l fn tmps a b w fun e W'=> ∃ b,e= .returned (.bool b)∧R b W':=by
  cases hr:N.r with
  | none=>exact C
  | some k=>exact C
 refine RoundIn.mono h1 ?_;rintro e W' ⟨c,rfl,hw⟩;simp only;rw [eI];exact k c W' hw
end
section
variable {P:av} {n:Nat} {F:List Nat} {σ:Nat→ag} {w:ah} {fn:Func} {R:ag→ah→Prop}
end
def vH (P:av) (s f:Nat):Option Nat:=
 match P.underlying s with
 | some (.struct A)=>match A[f]? with
   | some fd=>if db P fd.type=some none then some fd.offset else none
   | none=>none
 | _=>none
theorem CK {P:av} {t:Nat} (hu:db P t=some none) (w:ah):(isAgg t).run P w= .ok false w:=by
 unfold db at hu;cases hd:P.underlying t with
 | none=>rw [hd] at hu; cases hu
 | some d=>
   rw [hd] at hu;cases d <;> first
    | (simp only [fQ] at hu; obtain ⟨_,_,h⟩:=hu; cases h; done)
    | simp [isAgg,bA hd]
theorem HQ {P:av} {N:Fm} {σ:Nat→ag} {w:ah} {dst:Option Nat} {ty:aw} {pos :String} {af:Array bR} {g:Option (Nat×Bool)} {x:aY} {s f n:Nat} {cs:Array ag} {v:ag} (A:vH P s f=some n) (I:ev N σ x= .agg cs) (E:cs[n]? =some v):
 (execOp (ev N σ) ⟨dst,.field s x f,ty,pos,af,g⟩).run P w= .ok (.value v) w:=by
 unfold vH at A;split at A
 · rename_i J hu;split at A
   · rename_i fd C;split at A
     · rename_i ha;cases A;simp [execOp,Ew,bA hu,C,I,asAgg,part,CK ha,E]
     · cases A
   · cases A
 · cases A
section
variable {P:av} {ops:Array aC} {Q:bd→Act→ah→Prop} {S:ah→Prop} {md:nX}
def DQ (P:av) (md:nX) (ops:Array aC) (Q:bd→Act→ah→Prop) (S:ah→Prop):Nat→Array Bool→Act→ah→Prop
 | 0,listed,a,w=>dw md ops listed= []∧Q .normal a w
 | fuel+1,listed,a,w=>
   (dw md ops listed= []→Q .normal a w)∧
   ∀ i∈dw md ops listed,wpOpIn eR 0 P ops Q i (fun A w'=>S w'∧DQ P md ops Q S fuel (listed.setIfInBounds i true) A w') a w
end
def M4 (P:av) (N:Fm) (ops:Array aC) (Q:bd→(Nat→ag)→ah→Prop) (S:ah→Prop) (fuel:Nat) (listed:Array Bool) (σ:Nat→ag) (w:ah):Prop :=
 DQ P .any ops (lift N Q) S fuel listed (act N σ) w
section
variable {P:av} {N:Fm} {ops:Array aC} {Q:bd→(Nat→ag)→ah→Prop} {σ:Nat→ag} {w:ah} {d':Option Nat} {d:Nat} {op:Op} {ty:aw} {pos :String} {af:Array bR} {v:ag}
variable {S:ah→Prop} {fuel:Nat} {listed:Array Bool}
end
attribute [irreducible] M4
end Go.Hb
end
section
namespace Go.Hb
abbrev l8 (A:List Nat):List Deferred:=A.map fun D=> {target:= .collected D,args:= #[]}
def mP:List Nat→ah→ah
 | [],w=>w
 | D::Ds,w=>mP Ds<|w.putObj D<|.deferred none
def fF (A:List Nat) (w:ah):Prop :=(∀ D∈A,w.heap[D]? =some (.deferred<|some []))∧A.Nodup
theorem fF.nc {A:List Nat} {w w':ah} (h:fF A w) (hn:bY w w'):fF A w':=⟨fun D C=>hn D _ (h.1 D C) ⟨(fun _ _ _ h=>by cases h),fun _ _ h=>by cases h⟩,h.2⟩
theorem fF.cons {A:List Nat} {D:Nat} {w:ah} (h:fF A w) (C:w.heap[D]? =some (.deferred<|some [])) (hn:D∉A):fF (D::A) w:=by grind [fF]
theorem fF.ne {A:List Nat} {w:ah} {D:Nat} (h:fF A w) (C:w.heap.size≤D):D∉A:=by grind [fF]
theorem fF.put {A:List Nat} {D:Nat} {w:ah} (h:fF (D::A) w):fF A (w.putObj D<|.deferred none):=
 ⟨fun k C=>by
  have I:k≠D:=fun E=>(uD.1 h.2).1<|E ▸ C;rw [lE I]; exact h.1 k (gZ _ C),(uD.1 h.2).2⟩
theorem vt:∀ (A:List Nat) (w:ah),Md (fun k=>k∈A) w (mP A w)
 | [],w=>Md.refl _ w
 | D::A,w=>((wW w D<|.deferred none).mono fun k _ C=>C ▸ hH ..).trans' (vt A _) fun k _ C=>gZ _ C
section
variable {P:av} {n:Nat} {Fx:List Nat} {σ:Nat→ag} {w:ah} {fn:Func} {R:ag→ah→Prop} {B:bd→Act→ah→Prop} {N:Fm}
theorem BE {tmps:Array ag} {v:ag} :∀ (A:List Nat) (w:ah),fF A w→(results fn tmps).run P (mP A w)= .ok v (mP A w)→R v (mP A w)→
 LeavesInM eR 0 P fn tmps (fun e w'=> ∃ v,e= .returned v∧R v w') (l8 A) .returning w
 | [],w,_,hr,hR=>⟨v,hr,v,rfl,hR⟩
 | D::A,w,h,hr,hR=>⟨FrameMode.noConfusion,.inl ⟨_,_,rfl,run_takeDeferred (h.1 D<|hH ..),BE A _ h.put hr hR⟩⟩
theorem HN {r:ResultVar} {v:ag} (A:List Nat) (C:fF A w) (h:fn.results= #[r]) (h1:ib P ⟨n,l8 A,Fx,none⟩ σ (mP A w) r v) (E:R v (mP A w)):qb ⟨n,l8 A,Fx,none⟩ (Bm P fn R) .ret σ w:=
 BE A w C (CH h<|gw h1) E
theorem BV {id:Nat} {c:Code} (h:eQ P N c (pJ id B) σ w):eQ P N (.block id c) B σ w:=wpIn_block h
theorem JE {c:Code} {L:List (Nat×ag)} (h:Sl σ L) (A:eQ P N c B (pC σ L) w):eQ P N c B σ w:=by rw [tQ h] at A; exact A
theorem BW {id:Nat} (h:qb N B .normal σ w):qb N (pJ id B) .normal σ w:=h
theorem Jy {id:Nat} (h:qb N B .normal σ w):qb N (pJ id B) (.exit id) σ w:=by show (if id=id then B .normal (act N σ) w else B (.exit id) (act N σ) w); rw [if_pos rfl]; exact h
theorem JK {i:Nat} {y:Act→ah→Prop} (h:qb N B (.exit i) σ w):qb N (Exit.then y B) (.exit i) σ w:=h
def wP (n:Nat) (Fx:List Nat) (R:List Nat→(Nat→ag)→ah→Prop) (B:bd→Act→ah→Prop):bd→Act→ah→Prop
 | .normal,a,w=> ∃ A σ,a=act ⟨n,l8 A,Fx,none⟩ σ∧R A σ w
 | e,a,w=>B e a w
variable {S:List Nat→(Nat→ag)→ah→Prop}
theorem B2 (A:List Nat) (h:S A σ w):qb ⟨n,l8 A,Fx,none⟩ (wP n Fx S B) .normal σ w:=⟨A,σ,rfl,h⟩
theorem JI {i:Nat} (h:qb N B (.exit i) σ w):qb N (wP n Fx S B) (.exit i) σ w:=h
theorem JH {c:Code} (A:List Nat) (L:Nat→List Nat→(Nat→ag)→ah→Prop) (m:Nat) (h0:L m A σ w)
 (h:∀ m A σ w,L m A σ w→eQ P ⟨n,l8 A,Fx,none⟩ c (wP n Fx (fun O σ' w'=> ∃ k,k < m∧L k O σ' w') B) σ w):eQ P ⟨n,l8 A,Fx,none⟩ (.loop c) B σ w:=by
 intro b k cs am hb hr;have key:∀ m A σ w,L m A σ w→
  ∃ e M w',B e M w'∧ArrivesIn (Machine.fenced P eR) P (lone (b.atR (act ⟨n,l8 A,Fx,none⟩ σ) (.code c:: .inLoop c::k)) cs w) b k cs e M w':=by
  intro m
  induction m using Nat.strongRecOn with
  | _ m ih=>
    intro A σ w ad;obtain ⟨e,J,I,E,C⟩:=h m A σ w ad b (.inLoop c::k) cs am hb hr;cases e with
    | normal=>
      obtain ⟨V,ao,rfl,j,aj,ae⟩:=E;obtain ⟨ac,Z,an,al,ai⟩:=ih j aj V ao I ae;exact ⟨ac,Z,an,al,.of_steps (StepsIn.trans C<|.one (fenced_calm hb hr U) stepR_inLoop) ai⟩
    | exit id=>exact ⟨.exit id,J,I,E,.pass (x:= .inLoop c) rfl (fun _ _=> .inl<|by simp) C⟩
    | goto l=>exact ⟨.goto l,J,I,E,.pass (x:= .inLoop c) rfl (fun _ _=> .inl<|by simp) C⟩
    | ret=>exact ⟨.ret,J,I,E,.pass (x:= .inLoop c) rfl (fun _ _=> .inl<|by simp) C⟩
    | panic ab=>exact ⟨.panic ab,J,I,E,.pass (x:= .inLoop c) rfl (fun _ _=> .inl<|by simp) C⟩
    | outgrown=>exact ⟨.outgrown,J,I,E,.pass (x:= .inLoop c) rfl (fun _ _=> .inl<|by simp) C⟩
 obtain ⟨e,M,w',ak,C⟩:=key _ A σ w h0;exact ⟨e,M,w',ak,.of_steps (.one (fenced_calm hb hr U) stepR_loop) C⟩
end
section
variable {P:av} {N:Fm} {σ:Nat→ag} {w:ah} {dst:Option Nat} {ty:aw} {pos :String} {af:Array bR} {g:Option (Nat×Bool)} {K:(Nat→ag)→ah→Prop}
end
section
variable {P:av} {N:Fm} {σ:Nat→ag} {w:ah} {dst:Option Nat} {ty:aw} {pos :String} {af:Array bR} {g:Option (Nat×Bool)} {x y:aY}
end
end Go.Hb
end
section
namespace Go.Hb
theorem K2 {L:List ag} {o:Nat} {v:ag} (h:o < L.length):(L.set o v).take (o+1)=L.take o++ [v]:=by grind [List.set_eq_take_append_cons_drop,List.take_append,cV,Nat.min_eq_left,Nat.add_sub_cancel_left,j6]
theorem K0 {L:List ag} {o m:Nat} {v:ag} (h:o < m):(L.set o v).drop m=L.drop m:=by
 rw [List.drop_set,if_pos h]
section
variable {P:av} {N:Fm} {σ:Nat→ag} {w:ah} {ty:aw} {pos :String} {af:Array bR} {g:Option (Nat×Bool)} {x:aY} {K:(Nat→ag)→ah→Prop}
end
end Go.Hb
end
section
namespace Go.Hb
section
variable {P:av} {N:Fm} {σ:Nat→ag} {w:ah} {dst:Option Nat} {ty:aw} {pos :String} {af:Array bR} {g:Option (Nat×Bool)} {x:aY}
theorem FT {t n C b:Nat} (he:kI P t=some (n,C)) (A:ev N σ x= .pointer (some ⟨b,0,none⟩)):
 (execOp (ev N σ) ⟨dst,.slice t x none none none,ty,pos,af,g⟩).run P w= .ok (.value<|.slice (some ⟨b,0,none⟩) n n) w:=by
 unfold kI at he;cases hd:P.underlying t with
 | none=>rw [hd] at he; cases he
 | some d=>
   rw [hd] at he;cases d <;> first | (cases he; done) | skip
   rename_i m e;cases hi:P.info? e with
   | none=>simp [hi] at he
   | some j=>
     simp only [hi,fC,bH,hZ] at he;obtain ⟨rfl,rfl⟩:=he;simp [execOp,nR,Instr.sureAddr,kA,A,bA hd,sizeOf,dh hi,eJ]
def vI (P:av) (t f:Nat):Option (Nat×Nat):=
 match P.underlying t with
 | some (.struct A)=>(A[f]?).map fun d=>(d.type,d.offset)
 | _=>none
theorem H6 {t f A off n:Nat} {cs vs:List ag} (h:vI P t f=some (A,off)) (ha:db P A=some (some n)) (I:ev N σ x= .agg cs.toArray) (E:(cs.drop off).take n=vs):
 (execOp (ev N σ) ⟨dst,.field t x f,ty,pos,af,g⟩).run P w= .ok (.value<|.agg vs.toArray) w:=by
 subst E;unfold vI at h;cases hd:P.underlying t with
 | none=>rw [hd] at h; cases h
 | some d=>
   rw [hd] at h;cases d <;> first | (cases h; done) | skip
   rename_i J;simp only [fQ] at h;obtain ⟨fd,C,he⟩:=h;cases he;unfold db at ha;cases hd2:P.underlying fd.type with
   | none=>rw [hd2] at ha; cases ha
   | some d2=>
     rw [hd2] at ha;cases hi:P.info? fd.type with
     | none=>simp [Program.underlying,hi] at hd2
     | some i=>
       rw [hi] at ha;have L:cs.toArray.extract fd.offset (fd.offset+n)=((cs.drop fd.offset).take n).toArray:=by simp
       cases d2 <;> first
        | (cases ha; done)
        | (simp only [fC,bH] at ha; subst ha
           simp [execOp,Ew,bA hd,C,I,asAgg,part,isAgg,bA hd2,sizeOf,dh hi])
end
end Go.Hb
end
section
set_option linter.unusedSimpArgs false
namespace Go.Hb
open Classical
structure yZ (P:av) (k:aw) (cX:ag→Prop):Prop where
 key:n9 P k cX
 stays:∀ w v,cX v→(rq v v).run P w= .ok v w
def IB (v:ag):Prop := ∃ s:List UInt8,v=str s
def Bj (q:bw) (v:ag):Prop := ∃ a:Int,v= .int q a
theorem AW {d:TypeDesc} {cX:ag→Prop} (L:∀ x y,cX x→cX y→∃ A,yG d x y=some A∧(A=true↔x=y)) {x:ag} (M:cX x):∀ (es:List MapEntry) (i:Nat),(∀ e∈es,cX e.key)→
 (nQ d x es i=some none∧∀ e∈es,e.key≠x)∨∃ j e,nQ d x es i=some (some (i+j,e.val))∧es[j]? =some e∧e.key=x
 | [],i,_=> .inl ⟨rfl,fun _ h=>by simp at h⟩
 | e::es,i,h=>by
   obtain ⟨A,h1,J⟩:=L x e.key M<|h e<|by simp
   cases A with
   | true =>exact .inr ⟨0,e,by simp [nQ,h1],rfl,(J.1 rfl).symm⟩
   | false =>
     have V:e.key≠x:=fun U=>by cases J.2 U.symm
     rcases AW L M es (i+1) (fun e he=>h e<|by simp [he]) with ⟨C,E⟩ | ⟨j,e',C,E,O⟩
     · refine .inl ⟨by simp [nQ,h1,C],fun e' I=> ?_⟩;rcases eb.1 I with rfl | I
       · exact V
       · exact E e' I
     · refine .inr ⟨j+1,e',?_,E,O⟩;simp only [nQ,h1,C]; rw [show i+1 +j=i+(j+1) from by omega]
theorem Bt {P:av} {k:aw} {d:TypeDesc} {cX:ag→Prop} (E:P.underlying k=some d) (L:∀ x y,cX x→cX y→∃ C,yG d x y=some C∧(C=true↔x=y)) (J:∀ em w v,cX v→(kz em 10000 k v).run P w= .ok () w):n9 P k cX where
 check:=J
 find w x es hx hes:=by
  rcases AW L hx es 0 hes with ⟨h1,A⟩ | ⟨j,e,h1,A,I⟩
  · exact .inl ⟨by simp [nP,bA E,h1],A⟩
  · exact .inr ⟨j,e,by simp [nP,bA E,h1],A,I⟩
theorem zq (a b:ByteArray):(a==b)=decide (a=b):=by
 rw [Bool.eq_iff_iff,decide_eq_true_iff];show ((a.data==b.data)=true)↔_;rw [beq_iff_eq];exact ⟨fun h=>by cases a; cases b; cases h; rfl,fun h=>by rw [h]⟩
theorem Bs {P:av} {k:aw} (A:P.underlying k=some .string):yZ P k IB where
 key:=Bt A (by
  rintro _ _ ⟨a,rfl⟩ ⟨b,rfl⟩;refine ⟨_,U,?_⟩;rw [zq,decide_eq_true_iff];constructor
  · intro h; unfold str; rw [h]
  · intro h; unfold str at h; cases h; rfl) (by rintro em w _ ⟨a,rfl⟩; exact zH (n:=9999) A w)
 stays w v hv:=by obtain ⟨a,rfl⟩:=hv; simp [rq,EA,str,zq]
theorem Gu {P:av} {k:aw} {q r:bw} {em:Bool} {n:Nat} {a:Int} (A:P.underlying k=some (.int q)) (w:ah):(kz em (n+1) k<|.int r a).run P w= .ok () w:=by
 simp only [kz,Sem.run_bind,bA A,Result.andThen_ok,Sem.run_pure]
theorem Br {P:av} {k:aw} {q r:bw} (A:P.underlying k=some (.int q)):yZ P k (Bj r) where
 key:=Bt A (by
  rintro _ _ ⟨a,rfl⟩ ⟨b,rfl⟩;refine ⟨decide (a=b),by simp [yG]; rfl,?_⟩;rw [decide_eq_true_iff];exact ⟨fun h=>by rw [h],fun h=>by cases h; rfl⟩) (by rintro em w _ ⟨a,rfl⟩; exact Gu (n:=9999) A w)
 stays w v hv:=by obtain ⟨a,rfl⟩:=hv; simp [rq,EA]
section
variable {P:av} {N:Fm} {σ:Nat→ag} {w:ah} {dst:Option Nat} {ty:aw} {pos :String} {af:Array bR} {g:Option (Nat×Bool)} {x y z:aY} {K:(Nat→ag)→ah→Prop}
variable {t k e:aw} {cX:ag→Prop} {b:Nat} {f:ag→Option ag} {kx v zv:ag}
end
end Go.Hb
end
section
namespace Go.Hb
theorem ID (c:UInt8):∀ l:List UInt8,EC l c=kS c l:=by
 intro l
 induction l with
 | nil=>rfl
 | cons b l ih=>
   unfold EC;rw [ih];rw [show kS c (b::l)=if (b::l).idxOf c < (b::l).length then ((b::l).idxOf c:Int) else -1 from rfl,List.idxOf_cons];by_cases h:(b==c)=true
   · rw [if_pos h,h]; rfl
   · have h':(b==c)=false :=by simpa using h
     rw [if_neg h,h'];simp only [cond_false,dm];by_cases h1:l.idxOf c < l.length
     · have A:kS c l=l.idxOf c:=if_pos h1;rw [A,if_neg (fun hb=>by have :=eq_of_beq hb; omega),if_pos ab]; rfl
     · have A:kS c l= -1:=if_neg h1;rw [A,if_pos aF,if_neg ab]
theorem KO {P:av} {f:dU} {fn:Func} (A:P.funcs[f]? =some fn) (C:(fn.name== "runtime.NumGoroutine")=false) (hb:fn.body.isNone=true) (hn:Extern.findNext fn=none)
 (he:Extern.find fn=some No) (l:List UInt8) (c:UInt8) (w:ah):(callFunc f #[str l,.int .u8 c.toNat]).run P w= .ok (.value<|.int .i64<|kS c l) w:=by
 rw [run_callFunc_extern A C hb hn he];unfold str;rw [Lib.run_indexByteString];have h1:((c.toNat:Int)).toNat.toUInt8=c:=UInt8.toNat_inj.1<|by simp
 rw [h1,ID];rfl
section
variable {P:av} {N:Fm} {σ:Nat→ag} {w:ah} {dst:Option Nat} {ty:aw} {pos :String} {af:Array bR} {g:Option (Nat×Bool)}
end
end Go.Hb
end
