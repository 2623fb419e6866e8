/-
  Walks and plain laws that the law rests on, laid together. No conditions but those that each theorem names.
-/
import Derived.Test.YtiagknaekaknhaaGreatDoorMnJoinedMade2
set_option linter.unusedVariables false
open Array renaming all_eq_true_iff_forall_mem→D5,foldl_toList→D7,getD_eq_getD_getElem?→iV,getElem?_eq_getElem→nL,getElem?_eq_some_iff→dq,getElem?_modify→Ea,getElem?_push→tZ,getElem?_setIfInBounds→rj,getElem?_setIfInBounds_ne→yy,getElem?_setIfInBounds_self_of_lt→yz,getElem?_toList→pG,length_toList→lz,range→lA,toList_inj→ub,toList_map→ix,toList_modify→Ed,toList_push→Ee
open BitVec renaming ofInt→iy
open Bool renaming and_eq_true→a9,false_eq_true→mw,noConfusion→c9,not_eq_true'→ky,or_eq_true→nN,or_eq_true_iff→Eh
open Go.Builtin renaming append_→j2,clear_→ue,delete_→yC,firstCells→uf,zeroCells→Ek
open Go.Calls renaming mono→j3
open Go renaming Code→bP,Edge→bR,Exit→bd,IntKind→bw,Oper→aC,Operand→aY,Program→av,TypeId→aw,Value→ag,World→ah
open Go.Code renaming region→Eo
open Go.Deferred renaming ofValue→lB
open Go.Exit renaming inBlock→pJ
open Go.Fence renaming wide→eR
open Go.FrameMode renaming noConfusion→Ev
open Go.Instr renaming alloc→ug,buildSlice→rp,fill→iW,keyThatStays→rq,mapUpdate→yF
open Go.Lib renaming run_unsafeString_none→ED
open Go.Op renaming equal→my,equalIn→iz
open Go.Oper renaming semAt_eq→rA,uponIn→rB
open Go.Region renaming binds→dG,ready→dw,wanted→kB
open Go.Result renaming andThen_ok→gX
open Go.Sem renaming run→lC,run_bind→iB,run_pure→kC
open Go.World renaming freeze→lD,putObj→EM,putObj_heap_other→lE,putObj_heap_same→uj
open Int renaming natCast_nonneg→fP,natCast_pos→EO,ofNat→kD,toNat_natCast→pO
open List.Sublist renaming map→Np
open List renaming append_assoc→gC,eq_nil_of_length_eq_zero→j4,ext_getElem?→um,filter_cons→EY,flatten_cons→nZ,getD_eq_getElem?_getD→cn,getElem?_append_left→eU,getElem?_append_right→fm,getElem?_cons_succ→iX,getElem?_cons_zero→iD,getElem?_drop→iE,getElem?_eq_getElem→bt,getElem?_eq_none→jt,getElem?_eq_some_iff→cB,getElem?_map→eV,getElem?_take→iY,getElem?_toArray→lG,length→kE,length_append→bK,length_cons→dm,length_drop→ju,length_eq_one_iff→rE,length_nil→gY,length_take→cV,mapM_cons→E6,map_append→gD,map_cons→fq,map_map→E7,mem_append→dx,mem_cons→eb,mem_cons_of_mem→gZ,mem_cons_self→hH,mem_filter→pV,mem_map→jv,mem_of_getElem?→j5,mem_of_mem_drop→uA,mem_of_mem_take→uB,mem_range→lH,nodup_cons→uD,range→iZ,range'→jw,replicate→dr,replicate_succ→E9,size_toArray→eW
open List.cons renaming injEq→lF
open Nat renaming add_assoc→hJ,add_comm→Fe,add_mul→mB,add_zero→lI,beq→aP,ble→bh,ble_eq→rI,ble_eq_true_of_le→yU,blt→aE,eq_of_beq_eq_true→bL,le_of_ble_eq_true→bM,le_refl→aQ,le_succ→lJ,le_trans→cG,lt_of_lt_of_le→mC,lt_or_ge→dD,lt_succ_iff_lt_or_eq→Fj,lt_succ_self→mD,lt_trichotomy→rJ,mul_le_mul_right→n5,not_lt_zero→uK,pos_of_ne_zero→Fl,pow_succ→uL,succ_le_iff→rL,succ_pos→Fo,testBit→rM,zero_add→cH,zero_le→hO,zero_mul→pX
open Option renaming getD_none→pZ,getD_some→ja,map_eq_some_iff→fQ,map_some→fC
open Option.some renaming inj→fD,injEq→bH
open Prod renaming fst→gE,snd→uM
open Prod.mk renaming injEq→hZ
open UInt8 renaming lt_iff_toNat_lt→Fq,ofNat→eX,toNat→Fs,toNat_inj→rN
open Go.Proofs.Tryz
open Go.RowKit

section
namespace Go.Hb
inductive Tr (α:Type) | nil | nd (l:Tr α) (v:Option α) (r:Tr α)
def Tr.get {α:Type} :Tr α→Nat→Option α
 | .nil,_=>none
 | .nd _ v _,0=>v
 | .nd l _ r,n+1=>cond (aP (n % 2) 0) (l.get<|n / 2)<|r.get<|n / 2
def Tr.put {α:Type} (v:Option α):Nat→Tr α→Nat→Tr α
 | 0,t,_=>t
 | _+1,.nil,0=> .nd .nil v .nil
 | _+1,.nd l _ r,0=> .nd l v r
 | k+1,.nil,n+1=>cond (aP (n % 2) 0) (.nd (Tr.put v k .nil<|n / 2) none .nil)<|.nd .nil none<|Tr.put v k .nil<|n / 2
 | k+1,.nd l u r,n+1=>cond (aP (n % 2) 0) (.nd (Tr.put v k l<|n / 2) u r)<|.nd l u<|Tr.put v k r<|n / 2
theorem Tr.get_nil {α:Type} (n:Nat):(Tr.nil:Tr α).get n=none:=by unfold Tr.get; rfl
theorem Dy {n:Nat} {b:Bool} (h:aP (n % 2) 0=b):n % 2=cond b 0 1:=by
 cases b
 · have :n % 2≠0:=fun e=>by rw [e] at h; cases h
   simp only [cond_false]; omega
 · exact bL h
theorem tN {n m:Nat} {b:Bool} (hn:aP (n % 2) 0=b) (hm:aP (m % 2) 0=b) (e:m / 2=n / 2):m+1=n+1:=by
 have :=Dy hn;have :=Dy hm;omega
theorem Tr.o0 {α:Type} (v:Option α):∀ (k:Nat) (t:Tr α) (n m:Nat),m≠n→(Tr.put v k t n).get m=t.get m
 | 0,t,n,m,_=>by simp [Tr.put]
 | k+1,.nil,0,m,h=>by
   obtain ⟨m,rfl⟩:∃ j,m=j+1:=⟨m - 1,ab⟩
   simp [Tr.put,Tr.get]
 | k+1,.nd l u r,0,m,h=>by
   obtain ⟨m,rfl⟩:∃ j,m=j+1:=⟨m - 1,ab⟩
   simp [Tr.put,Tr.get]
 | k+1,.nil,n+1,0,h=>by
   simp only [Tr.put];cases aP (n % 2) 0 <;> rfl
 | k+1,.nd l u r,n+1,0,h=>by
   simp only [Tr.put];cases aP (n % 2) 0 <;> rfl
 | k+1,.nil,n+1,m+1,h=>by
   simp only [Tr.put];cases hn:aP (n % 2) 0 <;> cases hm:aP (m % 2) 0 <;> simp only [cond_true,cond_false,Tr.get,hm]
   · rw [Tr.o0 v k .nil _ _ (fun e=>h<|tN hn hm e)]; rfl
   · rw [Tr.o0 v k .nil _ _ (fun e=>h<|tN hn hm e)]; rfl
 | k+1,.nd l u r,n+1,m+1,h=>by
   simp only [Tr.put];cases hn:aP (n % 2) 0 <;> cases hm:aP (m % 2) 0 <;> simp only [cond_true,cond_false,Tr.get,hm]
   · rw [Tr.o0 v k r _ _ (fun e=>h<|tN hn hm e)]
   · rw [Tr.o0 v k l _ _ (fun e=>h<|tN hn hm e)]
theorem Tr.put_eq {α:Type} (v:Option α):∀ (k:Nat) (t:Tr α) (n:Nat),n+1 < 2 ^ k→(Tr.put v k t n).get n=v
 | 0,t,n,h=>ab
 | k+1,.nil,0,_=>by simp [Tr.put,Tr.get]
 | k+1,.nd l u r,0,_=>by simp [Tr.put,Tr.get]
 | k+1,.nil,n+1,h=>by
   have A:n / 2 +1 < 2 ^ k:=by rw [uL] at h; omega
   simp only [Tr.put];cases hn:aP (n % 2) 0 <;> simp only [cond_true,cond_false,Tr.get,hn] <;> exact Tr.put_eq v k _ _ A
 | k+1,.nd l u r,n+1,h=>by
   have A:n / 2 +1 < 2 ^ k:=by rw [uL] at h; omega
   simp only [Tr.put];cases hn:aP (n % 2) 0 <;> simp only [cond_true,cond_false,Tr.get,hn] <;> exact Tr.put_eq v k _ _ A
def cj:Nat:=1048574
def Tr.set {α:Type} (t:Tr α) (n:Nat) (v:α):Tr α:=Tr.put (some v) 20 t n
def Tr.del {α:Type} (t:Tr α) (n:Nat):Tr α:=Tr.put none 20 t n
theorem Tr.kQ {α:Type} (t:Tr α) (n m:Nat) (v:α) (h:aE n cj=true):(t.set n v).get m=if m=n then some v else t.get m:=by
 have h':n < 1048574:=by simpa [cj,aE,rI,rL] using h
 unfold Tr.set;split
 · rename_i e; subst e; exact Tr.put_eq _ _ _ _ ab
 · rename_i e; exact Tr.o0 _ _ _ _ _ e
theorem Tr.oJ {α:Type} (t:Tr α) (n m:Nat) (h:aE n cj=true):(t.del n).get m=if m=n then none else t.get m:=by
 have h':n < 1048574:=by simpa [cj,aE,rI,rL] using h
 unfold Tr.del;split
 · rename_i e; subst e; exact Tr.put_eq _ _ _ _ ab
 · rename_i e; exact Tr.o0 _ _ _ _ _ e
inductive AV
 | bool (b:Bool) | int (k:bw) (n:Int) | str (l:List UInt8)
 | ptr (b o:Nat) | gM
 | sl (b o n c:Nat) (x:Bool)
 | aq
 | map (b:Nat) | kh
 | fn (f:Nat) (a c:List AV) | gA (l:Nat) | iP
 | fy (t:Nat) (v:AV) | cK
 | agg (l:List AV) | bV (l:List AV)
structure Loc where
 an:Nat
 sh:Nat
 room:Nat
abbrev Rn:=Nat→Option Loc
def Rn.le (r s:Rn):Prop := ∀ i x,r i=some x→s i=some x
theorem Rn.le_refl (r:Rn):r.le r:=fun _ _ h=>h
theorem Rn.le_trans {r s t:Rn} (h:r.le s) (h':s.le t):r.le t:=fun i x A=>h' i x<|h i x A
mutual
def den (r:Rn):AV→Option ag
 | .bool b=>some<|.bool b
 | .int k n=>some<|.int k n
 | .str l=>some<|Hb.str l
 | .ptr b o=>match r b with
   | some q=>some<|.pointer<|some ⟨q.an,q.sh+o,none⟩
   | none=>none
 | .gM=>some<|.pointer none
 | .sl b o n c x=>match r b with
   | some q=>cond x (cond (bh n c) (some<|.slice (some ⟨q.an,q.sh+o,none⟩) n c) none)<|cond (bh (c+n) q.room) (some<|.slice (some ⟨q.an,q.sh+o,none⟩) n<|q.room - c) none
   | none=>none
 | .aq=>some<|.slice none 0 0
 | .map b=>match r b with
   | some q=>some<|.map<|some q.an
   | none=>none
 | .kh=>some<|.map none
 | .fn f a c=>match aK r a,aK r c with
   | some a,some c=>some<|.func (.func f) a.toArray c.toArray
   | _,_=>none
 | .gA l=>match r l with
   | some q=>some<|.func (.yield q.an) #[] #[]
   | none=>none
 | .iP=>some .nilFunc
 | .fy t v=>match den r v with
   | some v=>some<|.iface t v
   | none=>none
 | .cK=>some .nilIface
 | .agg l=>match aK r l with
   | some l=>some<|.agg l.toArray
   | none=>none
 | .bV l=>match aK r l with
   | some l=>some<|.tuple l.toArray
   | none=>none
def aK (r:Rn):List AV→Option (List ag)
 | []=>some []
 | v::l=>match den r v,aK r l with
   | some v,some l=>some (v::l)
   | _,_=>none
end
mutual
theorem kN {r s:Rn} (h:r.le s):∀ {v:AV} {u:ag},den r v=some u→den s v=some u
 | .bool _,_,hu | .int _ _,_,hu | .str _,_,hu | .gM,_,hu | .aq,_,hu | .kh,_,hu | .iP,_,hu | .cK,_,hu=>by
   simp only [den] at hu ⊢; exact hu
 | .ptr b o,u,hu | .sl b o n c x,u,hu | .map b,u,hu | .gA b,u,hu=>by
   simp only [den] at hu ⊢;cases hb:r b with
   | none=>rw [hb] at hu; cases hu
   | some q=>rw [hb] at hu; rw [h b q hb]; exact hu
 | .fn f a c,u,hu=>by
   simp only [den] at hu ⊢;cases ha:aK r a with
   | none=>rw [ha] at hu; cases hu
   | some A=>
     cases hc:aK r c with
     | none=>rw [ha,hc] at hu; cases hu
     | some c'=>rw [ha,hc] at hu; rw [ig h ha,ig h hc]; exact hu
 | .fy t v,u,hu=>by
   simp only [den] at hu ⊢;cases hv:den r v with
   | none=>rw [hv] at hu; cases hu
   | some E=>rw [hv] at hu; rw [kN h hv]; exact hu
 | .agg l,u,hu | .bV l,u,hu=>by
   simp only [den] at hu ⊢;cases hl:aK r l with
   | none=>rw [hl] at hu; cases hu
   | some C=>rw [hl] at hu; rw [ig h hl]; exact hu
theorem ig {r s:Rn} (h:r.le s):∀ {v:List AV} {u:List ag},aK r v=some u→aK s v=some u
 | [],_,hu=>by simp only [aK] at hu ⊢; exact hu
 | v::l,u,hu=>by
   simp only [aK] at hu ⊢;cases hv:den r v with
   | none=>rw [hv] at hu; cases hu
   | some C=>
     cases hl:aK r l with
     | none=>rw [hv,hl] at hu; cases hu
     | some A=>rw [hv,hl] at hu; rw [kN h hv,ig h hl]; exact hu
end
theorem dV {r:Rn} {v:AV} {l:List AV} {us:List ag} (h:aK r (v::l)=some us):∃ u A,us=u::A∧den r v=some u∧aK r l=some A:=by
 simp only [aK] at h;split at h
 · rename_i u A h1 C; exact ⟨u,A,(fD h).symm,h1,C⟩
 · cases h
theorem j9 {r:Rn} {us:List ag} (h:aK r []=some us):us= []:=by simpa [aK] using h.symm
theorem dQ {r:Rn} {v:AV} {l:List AV} {u:ag} {us:List ag} (h1:den r v=some u) (A:aK r l=some us):aK r (v::l)=some (u::us):=by simp only [aK,h1,A]
theorem dd {r:Rn} :∀ {l:List AV} {us:List ag},aK r l=some us→us.length=l.length
 | [],_,h=>by rw [j9 h]; rfl
 | v::l,us,h=>by obtain ⟨u,C,rfl,_,A⟩:=dV h; simp [dd A]
theorem ot {r:Rn} :∀ {l:List AV} {us:List ag} {i:Nat} {v:AV},aK r l=some us→l[i]? =some v→∃ u,us[i]? =some u∧den r v=some u
 | [],_,i,v,h,hv=>by simp at hv
 | a::l,us,0,v,h,hv=>by
   obtain ⟨u,J,rfl,h1,_⟩:=dV h;simp only [iD,bH] at hv;subst hv; exact ⟨u,rfl,h1⟩
 | a::l,us,i+1,v,h,hv=>by
   obtain ⟨u,J,rfl,_,A⟩:=dV h;simp only [iX] at hv;obtain ⟨I,C,E⟩:=ot A hv;exact ⟨I,by simpa using C,E⟩
theorem fv {r:Rn} :∀ {l m:List AV} {us vs:List ag},aK r l=some us→aK r m=some vs→aK r (l++m)=some (us++vs)
 | [],m,us,vs,h,h'=>by rw [j9 h]; exact h'
 | a::l,m,us,vs,h,h'=>by
   obtain ⟨u,C,rfl,h1,A⟩:=dV h;exact dQ h1<|fv A h'
theorem je {r:Rn} :∀ {l:List AV} {us:List ag} (n:Nat),aK r l=some us→aK r (l.take n)=some (us.take n)
 | _,_,0,_=>by simp [aK]
 | [],us,n+1,h=>by rw [j9 h]; simp [aK]
 | a::l,us,n+1,h=>by
   obtain ⟨u,C,rfl,h1,A⟩:=dV h;exact dQ h1<|je n A
theorem jH {r:Rn} :∀ {l:List AV} {us:List ag} (n:Nat),aK r l=some us→aK r (l.drop n)=some (us.drop n)
 | _,_,0,h=>h
 | [],us,n+1,h=>by rw [j9 h]; simp [aK]
 | a::l,us,n+1,h=>by
   obtain ⟨u,C,rfl,h1,A⟩:=dV h;exact jH n A
inductive Ck | a | z | x
inductive AO
 | cells (l:List AV) (e:Nat) (fz:Nat) (ex:Ck)
 | map (l:List (AV×AV))
 | loop (st:LoopState) (pe:Option bP) (n:Nat) (fr:Tr AV) (ps:List Nat) (aT body:bP) (D:Nat)
 | kO (b:Bool)
 | x9 (l:List UInt8) (p:Nat)
structure Hp where
 t:Tr AO
 nx:Nat
def dg (fr:Tr AV) (i:Nat):AV:=match fr.get i with
 | some v=>v
 | none=> .bV []
def ee (r:Rn) (n:Nat) (fr:Tr AV) (s:Nat→ag):Prop := ∀ i,i < n→den r (dg fr i)=some (s i)
def fY (r:Rn):List (AV×AV)→List MapEntry→Prop
 | [],[]=>True
 | p::l,m::es=>den r p.1=some m.key∧den r p.2=some m.val∧fY r l es
 | _,_=>False
def OR (P:av) (r:Rn) (q:Loc):AO→Option Obj→Prop
 | .cells l e fz ex,o=> ∃ c fr us,o=some (.cells c e fr)∧aK r l=some us∧q.sh+l.length≤c.size∧(∀ j u,us[j]? =some u→c[q.sh+j]? =some u)∧fr.2≤q.sh+fz∧
  (∀ u∈us,u.oneCell'=true)∧((ex= .x→q.sh=0∧c.size=l.length∧fr=(0,fz))∧(ex≠.a→q.sh=0))∧∀ s,cD P e=some s→q.sh+q.room*s≤c.size
 | .map l,o=> ∃ es c,o=some (.map es c)∧fY r l es.toList∧(es.toList.map fun e=>e.key).Nodup
 | .loop st E n fr ps aT body D,o=> ∃ fn A C,o=some (.loop {state:=st,pending:=E,fn:=fn,tmps:=A,params:=ps.toArray,assign:=aT,body:=body,defers:=C})∧(∃ x,r D=some x∧x.an=C)∧A.size=n∧∀ i,i < n→den r (dg fr i)=A[i]?
 | .kO b,o=>o=some (.deferred<|cond b (some []) none)
 | .x9 l p,o=>o=some (.stringIter ⟨⟨l⟩⟩ p)
end Go.Hb
namespace Go.Hb
def ki (f:ag→Option AV):List ag→Option (List AV)
 | []=>some []
 | v::l=>match f v with
   | some a=>match ki f l with
     | some b=>some (a::b)
     | none=>none
   | none=>none
def jm:Nat→ag→Option AV
 | 0,_=>none
 | d+1,v=>match v with
   | .bool b=>some<|.bool b
   | .int k n=>some<|.int k n
   | .string ⟨⟨l⟩⟩=>some<|.str l
   | .pointer none=>some .gM
   | .slice none 0 0=>some .aq
   | .map none=>some .kh
   | .nilFunc=>some .iP
   | .nilIface=>some .cK
   | .agg ⟨l⟩=>match ki (jm d) l with
     | some l=>some<|.agg l
     | none=>none
   | .tuple ⟨l⟩=>match ki (jm d) l with
     | some l=>some<|.bV l
     | none=>none
   | _=>none
theorem oR {f:ag→Option AV} {r:Rn} (A:∀ v a,f v=some a→den r a=some v):∀ {l:List ag} {m:List AV},ki f l=some m→aK r m=some l
 | [],m,h=>by simp only [ki,bH] at h; subst h; simp [aK]
 | v::l,m,h=>by
   simp only [ki] at h;split at h
   · rename_i a ha;split at h
     · rename_i b hb;cases h;exact dQ (A v a ha)<|oR A hb
     · cases h
   · cases h
theorem mb {r:Rn} :∀ (d:Nat) {v:ag} {a:AV},jm d v=some a→den r a=some v
 | 0,v,a,h=>by simp [jm] at h
 | d+1,v,a,h=>by
   simp only [jm] at h;split at h <;> first
    | (cases h; simp [den,str]; done)
    | (split at h
       · rename_i C A;cases h;simp only [den,oR (fun v a=>mb d) A]
       · cases h)
    | cases h
def km (G n:Nat) (fr:Tr AV):aY→Option AV
 | .tmp t=>cond (aE t n) (some<|dg fr t) none
 | .const v=>jm 4 v
 | .func f=>some<|.fn f [] []
 | .global g=>cond (aE g G) (some<|.ptr g 0) none
def kn (G n:Nat) (fr:Tr AV):List aY→Option (List AV)
 | []=>some []
 | x::l=>match km G n fr x with
   | some a=>match kn G n fr l with
     | some b=>some (a::b)
     | none=>none
   | none=>none
def n8 (G:Nat) (r:Rn):Prop := ∀ g,g < G→∃ m,r g=some ⟨g,0,m⟩
section
variable {G:Nat} {fr:Tr AV} {r:Rn} {N:Fm} {σ:Nat→ag}
theorem qO (C:n8 G r) (A:ee r N.n fr σ) {x:aY} {a:AV} (h:km G N.n fr x=some a):den r a=some (ev N σ x):=by
 cases x with
 | tmp t=>
   simp only [km] at h;cases hb:aE t N.n
   · rw [hb] at h; cases h
   · rw [hb] at h;simp only [cond_true,bH] at h;subst h;simp only [ev,hb,cond_true];exact A t<|by simpa [aE,rI,rL] using hb
 | const v=>exact mb 4 h
 | func f=>simp only [km,bH] at h; subst h; simp [den,aK,ev]
 | global g=>
   simp only [km] at h;cases hb:aE g G
   · rw [hb] at h; cases h
   · rw [hb] at h;simp only [cond_true,bH] at h;subst h;obtain ⟨m,hm⟩:=C g<|by simpa [aE,rI,rL] using hb
     simp only [den,hm,ev,lI]
theorem sY (C:n8 G r) (A:ee r N.n fr σ):∀ {l:List aY} {m:List AV},kn G N.n fr l=some m→aK r m=some (l.map<|ev N σ)
 | [],m,h=>by simp only [kn,bH] at h; subst h; simp [aK]
 | x::l,m,h=>by
   simp only [kn] at h;split at h
   · rename_i a ha;split at h
     · rename_i b hb;cases h;exact dQ (qO C A ha)<|sY C A hb
     · cases h
   · cases h
end
def ga:Op→List aY
 | .move x | .assign x | .box _ x | .load _ x | .nilCheck x | .unOp _ _ x | .convert _ _ x | .makeInterface _ x | .fieldAddr _ x _ | .field _ x _ | .range _ x | .next x _ | .typeAssert x _ _ _ | .extract x _=> [x]
 | .pick c a b=> [c,a,b]
 | .build _ ⟨ps⟩=>ps.map (·.2)
 | .buildSlice _ _ ⟨ps⟩=>ps.map (·.2)
 | .store _ a v | .binOp _ _ a v _ | .makeSlice _ a v | .indexAddr _ a v | .index _ a v | .lookup _ a v _=> [a,v]
 | .makeFunc _ ⟨a⟩ ⟨c⟩=>a++c
 | .slice _ x l h m=>x::(l.toList++(h.toList++m.toList))
 | .mapUpdate _ m k v | .insert _ m k v=> [m,k,v]
 | .call ⟨.value f,⟨l⟩,_⟩ | .defer ⟨.value f,⟨l⟩,_⟩=>f::l
 | .call ⟨.builtin _,⟨l⟩,_⟩=>l
 | _=> []
theorem eK {r:Rn} {a:AV} {u:ag} (h:aK r [a]=some [u]):den r a=some u:=by
 obtain ⟨A,us,he,h1,_⟩:=dV h;cases he; exact h1
theorem ie {r:Rn} {a b:AV} {u v:ag} (h:aK r [a,b]=some [u,v]):den r a=some u∧den r b=some v:=by
 obtain ⟨C,us,he,h1,A⟩:=dV h;cases he; exact ⟨h1,eK A⟩
theorem lT {r:Rn} {a b c:AV} {u v t:ag} (h:aK r [a,b,c]=some [u,v,t]):den r a=some u∧den r b=some v∧den r c=some t:=by
 obtain ⟨C,us,he,h1,A⟩:=dV h;cases he; exact ⟨h1,ie A⟩
section
variable {r:Rn} {u:ag}
theorem cM {k:bw} {n:Int} (h:den r (.int k n)=some u):u= .int k n:=by simpa [den] using h.symm
theorem jg {b:Bool} (h:den r (.bool b)=some u):u= .bool b:=by simpa [den] using h.symm
theorem gI {l:List UInt8} (h:den r (.str l)=some u):u=str l:=by simpa [den] using h.symm
theorem oy (h:den r .gM=some u):u= .pointer none:=by simpa [den] using h.symm
theorem ik (h:den r .aq=some u):u= .slice none 0 0:=by simpa [den] using h.symm
theorem Ag (h:den r .kh=some u):u= .map none:=by simpa [den] using h.symm
theorem qo (h:den r .iP=some u):u= .nilFunc:=by simpa [den] using h.symm
theorem ox (h:den r .cK=some u):u= .nilIface:=by simpa [den] using h.symm
theorem iJ {b o:Nat} (h:den r (.ptr b o)=some u):∃ q,r b=some q∧u= .pointer (some ⟨q.an,q.sh+o,none⟩):=by
 simp only [den] at h;split at h
 · rename_i q A; exact ⟨q,A,(fD h).symm⟩
 · cases h
theorem mO {b:Nat} (h:den r (.map b)=some u):∃ q,r b=some q∧u= .map (some q.an):=by
 simp only [den] at h;split at h
 · rename_i q A; exact ⟨q,A,(fD h).symm⟩
 · cases h
theorem vq {b:Nat} (h:den r (.gA b)=some u):∃ q,r b=some q∧u= .func (.yield q.an) #[] #[]:=by
 simp only [den] at h;split at h
 · rename_i q A; exact ⟨q,A,(fD h).symm⟩
 · cases h
theorem Ah {b o n c:Nat} (h:den r (.sl b o n c true)=some u):∃ q,r b=some q∧n≤c∧u= .slice (some ⟨q.an,q.sh+o,none⟩) n c:=by
 simp only [den] at h;split at h
 · rename_i q A;cases hb:bh n c
   · rw [hb] at h; cases h
   · rw [hb] at h;exact ⟨q,A,bM hb,(fD h).symm⟩
 · cases h
theorem sm {b o n c:Nat} (h:den r (.sl b o n c false)=some u):∃ q,r b=some q∧c+n≤q.room∧u= .slice (some ⟨q.an,q.sh+o,none⟩) n (q.room - c):=by
 simp only [den] at h;split at h
 · rename_i q A;cases hb:bh (c+n) q.room
   · rw [hb] at h; cases h
   · rw [hb] at h;exact ⟨q,A,bM hb,(fD h).symm⟩
 · cases h
theorem iK {b o n c:Nat} {x:Bool} (h:den r (.sl b o n c x)=some u):∃ q cap,r b=some q∧n≤cap∧u= .slice (some ⟨q.an,q.sh+o,none⟩) n cap∧(x=true→cap=c)∧(x=false→cap=q.room - c∧c+n≤q.room):=by
 cases x
 · obtain ⟨q,C,A,he⟩:=sm h;exact ⟨q,q.room - c,C,ab,he,(fun e=>by cases e),fun _=>⟨U,A⟩⟩
 · obtain ⟨q,C,A,he⟩:=Ah h;exact ⟨q,c,C,A,he,fun _=>rfl,fun e=>by cases e⟩
theorem lV {f:Nat} {a c:List AV} (h:den r (.fn f a c)=some u):∃ A c',aK r a=some A∧aK r c=some c'∧u= .func (.func f) A.toArray c'.toArray:=by
 simp only [den] at h;split at h
 · rename_i A c' ha C; exact ⟨A,c',ha,C,(fD h).symm⟩
 · cases h
theorem sj {t:Nat} {v:AV} (h:den r (.fy t v)=some u):∃ A,den r v=some A∧u= .iface t A:=by
 simp only [den] at h;split at h
 · rename_i A C; exact ⟨A,C,(fD h).symm⟩
 · cases h
theorem qn {l:List AV} (h:den r (.agg l)=some u):∃ us,aK r l=some us∧u= .agg us.toArray:=by
 simp only [den] at h;split at h
 · rename_i C A; exact ⟨C,A,(fD h).symm⟩
 · cases h
theorem Ai {l:List AV} (h:den r (.bV l)=some u):∃ us,aK r l=some us∧u= .tuple us.toArray:=by
 simp only [den] at h;split at h
 · rename_i C A; exact ⟨C,A,(fD h).symm⟩
 · cases h
end
def wb (k:bw):Int→Bool
 | .ofNat m=>match k with
   | .i64=>aE m 9223372036854775808
   | .u8=>aE m 256
   | .u64=>aE m 18446744073709551616
   | .i32=>aE m 2147483648
   | .u32=>aE m 4294967296
   | .u16=>aE m 65536
   | _=>false
 | .negSucc m=>match k with
   | .i64=>aE m 9223372036854775808
   | .i32=>aE m 2147483648
   | _=>false
def nK (k:bw) (n:Int):Int:=cond (wb k n) n<|k.wrap n
theorem cC {a b:Nat} :aE a b=true↔a < b:=by simp [aE,rI,rL]
theorem u16_in (n:Int) (h:0≤n∧n≤65535):IntKind.u16.wrap n=n:=by
 unfold IntKind.wrap;simp only [IntKind.bits,IntKind.signed];simp;omega
theorem Iw {k:bw} {n:Int} (h:wb k n=true):k.wrap n=n:=by
 cases n with
 | ofNat m=>
   show k.wrap (m:Int)=(m:Int)
   cases k with
   | i64=>have :=cC.1 (show aE m 9223372036854775808=true from h); exact gU ⟨ab,ab⟩
   | u8=>have :=cC.1 (show aE m 256=true from h); exact yu ⟨ab,ab⟩
   | u64=>have :=cC.1 (show aE m 18446744073709551616=true from h); exact gz ⟨ab,ab⟩
   | i32=>have :=cC.1 (show aE m 2147483648=true from h); exact yp ⟨ab,ab⟩
   | u32=>have :=cC.1 (show aE m 4294967296=true from h); exact DU ⟨ab,ab⟩
   | u16=>have :=cC.1 (show aE m 65536=true from h); exact u16_in _ ⟨ab,ab⟩
   | i8=>exact c9 (show false =true from h)
   | i16=>exact c9 (show false =true from h)
 | negSucc m=>
   rw [Int.negSucc_eq];cases k with
   | i64=>have :=cC.1 (show aE m 9223372036854775808=true from h); exact gU ⟨ab,ab⟩
   | i32=>have :=cC.1 (show aE m 2147483648=true from h); exact yp ⟨ab,ab⟩
   | _=>exact c9 (show false =true from h)
theorem rf (k:bw) (n:Int):nK k n=k.wrap n:=by
 unfold nK;cases h:wb k n
 · rfl
 · exact (Iw h).symm
def fh (k:bw):Int→Option AV
 | .ofNat 0=>some<|.int k 0
 | .ofNat (m+1)=>some<|.int k<|.ofNat<|m+1
 | .negSucc 0=>some<|.int k<|-1
 | .negSucc (m+1)=>some<|.int k<|.negSucc<|m+1
theorem fK (k:bw) (n:Int):fh k n=some (.int k n):=by
 unfold fh;split <;> rfl
def il:List UInt8→List UInt8→Bool
 | [],[]=>true
 | a::l,b::m=>cond (aP a.toNat b.toNat) (il l m) false
 | _,_=>false
theorem oC:∀ l m:List UInt8,il l m=decide (l=m)
 | [],[]=>by simp [il]
 | [],_::_=>by simp [il]
 | _::_,[]=>by simp [il]
 | a::l,b::m=>by
   have ih:=oC l m;simp only [il];cases h:aP a.toNat b.toNat
   · have :a≠b:=fun e=>by subst e; simp at h
     simp [this]
   · have :a=b:=rN.1<|bL h;simp [this,ih]
def m7:List UInt8→List UInt8→Bool
 | _,[]=>false
 | [],_::_=>true
 | a::l,b::m=>cond (aE a.toNat b.toNat) true<|cond (aP a.toNat b.toNat) (m7 l m) false
theorem BN:∀ l m:List UInt8,m7 l m=nh l m
 | [],[]=>rfl
 | _::_,[]=>rfl
 | [],_::_=>rfl
 | a::l,b::m=>by
   have ih:=BN l m;rw [Le];simp only [m7];rcases rJ a.toNat b.toNat with h | h | h
   · have A:a < b:=Fq.2 h;simp [cC.2 h,A]
   · have e:a=b:=rN.1 h;subst e;have A:¬a < a:=UInt8.lt_irrefl a;have C:aE a.toNat a.toNat=false :=by cases hb:aE a.toNat a.toNat; rfl; exact absurd (cC.1 hb)<|Nat.lt_irrefl _
     simp [C,A,ih]
   · have A:¬a < b:=fun h'=>by have :=Fq.1 h'; omega
     have C:aE a.toNat b.toNat=false :=by cases hb:aE a.toNat b.toNat; rfl; exact absurd (cC.1 hb) ab
     have E:aP a.toNat b.toNat=false :=by cases hb:aP a.toNat b.toNat; rfl; exact absurd (bL hb) ab
     have I:a≠b:=fun e=>by subst e; omega
     simp [C,E,A,I]
end Go.Hb
namespace Go.Hb
def sG (op:BinOp) (k:bw) (a b:Int):Option AV:=match op with
 | .add=>fh k<|nK k<|Int.add a b
 | .sub=>fh k<|nK k<|Int.sub a b
 | .mul=>fh k<|nK k<|Int.mul a b
 | .lss=>some<|.bool<|decide (a < b)
 | .leq=>some<|.bool<|decide (a≤b)
 | .gtr=>some<|.bool<|decide (b < a)
 | .geq=>some<|.bool<|decide (b≤a)
 | .eql=>some<|.bool<|decide (a=b)
 | .neq=>some<|.bool<|decide (a≠b)
 | .quo=>match a,b with
   | .ofNat a,.ofNat (b+1)=>fh k<|nK k<|.ofNat<|a / (b+1)
   | _,_=>none
 | .rem=>match a,b with
   | .ofNat a,.ofNat (b+1)=>fh k<|.ofNat<|a % (b+1)
   | _,_=>none
 | .or =>fh k<|k.wrap (iy k.bits a ||| iy k.bits b).toNat
 | .and =>fh k<|k.wrap (iy k.bits a &&& iy k.bits b).toNat
 | _=>none
def xM (op:BinOp) (k:bw) (a:Int) (b:Nat):Option AV:=match op with
 | .shr=>fh k<|a.fdiv<|2 ^ min b k.bits
 | .shl=>fh k<|k.wrap<|a*2 ^ min b k.bits
 | _=>none
def x8 (op:BinOp) (l m:List UInt8):Option AV:=match op with
 | .eql=>some<|.bool<|il l m
 | .neq=>some<|.bool<|!il l m
 | .lss=>some<|.bool<|m7 l m
 | .gtr=>some<|.bool<|!(m7 l m || il l m)
 | .leq=>some<|.bool (m7 l m || il l m)
 | .geq=>some<|.bool<|!m7 l m
 | .add=>cond (bh (l.length+m.length) 9223372036854775807) (some<|.str<|l++m) none
 | _=>none
def qD (P:av) (t:aw):Bool:=match P.underlying t with
 | some (.pointer e)=>(P.info? e).isSome
 | _=>false
def jS (P:av) (t:aw):Bool:=match P.underlying t with
 | some (.slice _)=>true
 | _=>false
def sI (P:av) (t:aw):Bool:=match P.underlying t with
 | some (.func _ _ _)=>true
 | _=>false
def wh (P:av) (t:aw):Bool:=match P.underlying t with
 | some .bool=>true
 | _=>false
def sJ (P:av) (t:aw):Bool:=match P.underlying t with
 | some (.interface _)=>true
 | _=>false
def isStr (P:av) (t:aw):Bool:=match P.underlying t with
 | some .string=>true
 | _=>false
def su (P:av) (A:Bool) (t:aw) (x y:AV):Option Bool:=match x,y with
 | .ptr _ _,.gM=>cond (qD P t) (some false) none
 | .gM,.gM=>cond (qD P t) (some true) none
 | .ptr b o,.ptr b' o'=>cond (qD P t && (aP b b' && aP o o')) (some true) none
 | .sl _ _ _ _ _,.aq=>cond (jS P t) (some false) none
 | .aq,.aq=>cond (jS P t) (some true) none
 | .fn _ _ _,.iP=>cond (sI P t) (some false) none
 | .iP,.iP=>cond (sI P t) (some true) none
 | .bool a,.bool b=>cond (wh P t) (some<|a==b) none
 | .fy _ _,.cK=>cond (sJ P t) (some false) none
 | .cK,.cK=>cond (sJ P t && A) (some true) none
 | _,_=>none
def uW (P:av) (A:Bool) (op:BinOp) (t:aw) (x y:AV):Option AV:=match x,y with
 | .int k a,.int k' b=>match op with
   | .shl | .shr=>match b with
     | .ofNat b=>xM op k a b
     | _=>none
   | _=>cond (aP (dK k)<|dK k') (sG op k a b) none
 | .str l,.str m=>x8 op l m
 | x,y=>match op with
   | .eql=>match su P A t x y with
     | some b=>some<|.bool b
     | none=>none
   | .neq=>match su P A t x y with
     | some b=>some<|.bool<|!b
     | none=>none
   | _=>none
section
variable {P:av} {r:Rn} {N:Fm} {σ:Nat→ag} {dst:Option Nat} {ty:aw} {pos :String} {af:Array bR} {g:Option (Nat×Bool)} {x y z:aY}
def YP (P:av) (r:Rn) (N:Fm) (σ:Nat→ag) (o:aC) (v:AV):Prop := ∃ u,den r v=some u∧∀ w,(execOp (ev N σ) o).run P w= .ok (.value u) w
theorem Iy {op:BinOp} {k:bw} {a b:Int} {t E:aw} {v:AV} (h:sG op k a b=some v) (A:ev N σ x= .int k a) (C:ev N σ y= .int k b):YP P r N σ ⟨dst,.binOp op t x y E,ty,pos,af,g⟩ v:=by
 unfold sG at h;split at h
 · rw [fK,rf] at h; cases h; exact ⟨_,rfl,fun w=>uT _ A C rfl⟩
 · rw [fK,rf] at h; cases h; exact ⟨_,rfl,fun w=>xF _ A C rfl⟩
 · rw [fK,rf] at h; cases h; exact ⟨_,rfl,fun w=>wZ _ A C rfl⟩
 · cases h; exact ⟨_,rfl,fun w=>lt A C⟩
 · cases h; exact ⟨_,rfl,fun w=>le A C⟩
 · cases h; exact ⟨_,rfl,fun w=>gt A C⟩
 · cases h; exact ⟨_,rfl,fun w=>ge A C⟩
 · cases h; exact ⟨_,rfl,fun w=>AI A C⟩
 · cases h; exact ⟨_,rfl,fun w=>B3 A C⟩
 · split at h
   · rename_i a b;rw [fK,rf] at h; cases h;exact ⟨_,U,fun w=>Kh _ A C ⟨fP _,EO.2<|Fo _⟩ U⟩
   · cases h
 · split at h
   · rename_i a b;rw [fK] at h; cases h;exact ⟨_,U,fun w=>rm A C ⟨fP _,EO.2<|Fo _⟩⟩
   · cases h
 · rw [fK] at h; cases h; exact ⟨_,rfl,fun w=>zw A C rfl⟩
 · rw [fK] at h; cases h; exact ⟨_,rfl,fun w=>cR A C rfl⟩
 · cases h
theorem K6 {op:BinOp} {k E:bw} {a:Int} {b:Nat} {t I:aw} {v:AV} (h:xM op k a b=some v) (A:ev N σ x= .int k a) (C:ev N σ y= .int E (kD b)):YP P r N σ ⟨dst,.binOp op t x y I,ty,pos,af,g⟩ v:=by
 unfold xM at h;split at h
 · rw [fK] at h; cases h; exact ⟨_,rfl,fun w=>shr A C (fP _) rfl⟩
 · rw [fK] at h; cases h; exact ⟨_,rfl,fun w=>shl A C (fP _) rfl⟩
 · cases h
theorem LO {op:BinOp} {l m:List UInt8} {t E:aw} {v:AV} (h:x8 op l m=some v) (A:ev N σ x=str l) (C:ev N σ y=str m):YP P r N σ ⟨dst,.binOp op t x y E,ty,pos,af,g⟩ v:=by
 unfold x8 at h;simp only [oC,BN] at h;split at h
 · cases h; exact ⟨_,rfl,fun w=>AJ A C⟩
 · cases h; exact ⟨.bool (decide (l≠m)),by simp [den],fun w=>B4 A C⟩
 · cases h; exact ⟨_,rfl,fun w=>Jm A C⟩
 · cases h; exact ⟨_,rfl,fun w=>Im A C⟩
 · cases h; exact ⟨_,rfl,fun w=>I5 A C⟩
 · cases h; exact ⟨_,rfl,fun w=>Ih A C⟩
 · cases hb:bh (l.length+m.length) 9223372036854775807
   · rw [hb] at h; cases h
   · rw [hb] at h; cases h; exact ⟨_,rfl,fun w=>cc A C<|bM hb⟩
 · cases h
def cX:aY→Bool
 | .const _=>true
 | _=>false
def uN (P:av) (t:aw) (x y:aY) (u v:ag) (q:Bool):Prop :=
 (∀ w,(binOp .eql t u v).run P w= .ok (.bool q) w)∧(∀ w,(binOp .neq t u v).run P w= .ok (.bool<|!q) w)∧∀ op w,(eqGuard op t x y u v).run P w= .ok () w
theorem uN.of {t:aw} {u v:ag} {q:Bool} (h:∀ d w,(iz (d+1) t u v).run P w= .ok q w) (h1:∀ w,(binOp .eql t u v).run P w=((my t u v).run P w).andThen fun q w=> .ok (.bool q) w)
 (A:∀ w,(binOp .neq t u v).run P w=((my t u v).run P w).andThen fun q w=> .ok (.bool<|!q) w) (C:∀ op w,(eqGuard op t x y u v).run P w= .ok () w):uN P t x y u v q:=by
 have e:∀ w,(my t u v).run P w= .ok q w:=h 9999;exact ⟨fun w=>by rw [h1,e]; rfl,fun w=>by rw [A,e]; rfl,C⟩
theorem AF {Z:Bool} {t:aw} {a b:AV} {u v:ag} {q:Bool} (ac:Z=true→(cX x || cX y)=true) (h:su P Z t a b=some q) (hu:den r a=some u) (E:den r b=some v):uN P t x y u v q:=by
 have J:qD P t=true→∃ e i,P.underlying t=some (.pointer e)∧P.info? e=some i:=by
  intro hp;unfold qD at hp;split at hp
  · rename_i e he;obtain ⟨i,hi⟩:=Option.isSome_iff_exists.1 hp;exact ⟨e,i,he,hi⟩
  · cases hp
 have O:jS P t=true→∃ e,P.underlying t=some (.slice e):=by
  intro hp; unfold jS at hp; split at hp
  · exact ⟨_,by assumption⟩
  · cases hp
 have L:sI P t=true→∃ a b c,P.underlying t=some (.func a b c):=by
  intro hp; unfold sI at hp; split at hp
  · exact ⟨_,_,_,by assumption⟩
  · cases hp
 have M:sJ P t=true→∃ m,P.underlying t=some (.interface m):=by
  intro hp; unfold sJ at hp; split at hp
  · exact ⟨_,by assumption⟩
  · cases hp
 have B1:wh P t=true→P.underlying t=some .bool:=by
  intro hp; unfold wh at hp; split at hp
  · assumption
  · cases hp
 have I:∀ {c:Bool} {p:Option Bool} {q:Bool},cond c p none=some q→c=true∧p=some q:=by
  intro c p q h; cases c
  · cases h
  · exact ⟨U,h⟩
 unfold su at h;split at h
 · obtain ⟨y,V,rfl⟩:=iJ hu;obtain rfl :=oy E;obtain ⟨A,C⟩:=I h;cases C;obtain ⟨e,i,he,hi⟩:=J A;exact .of (fun d w=>vB d he) (fun w=>by simp [binOp]) (fun w=>by simp [binOp]) fun op w=>by simp [eqGuard]
 · obtain rfl :=oy hu;obtain rfl :=oy E;obtain ⟨A,C⟩:=I h;cases C;obtain ⟨e,i,he,hi⟩:=J A;exact .of (fun d w=>vB d he) (fun w=>by simp [binOp]) (fun w=>by simp [binOp]) fun op w=>by simp [eqGuard]
 · rename_i b o ah aj;obtain ⟨A,C⟩:=I h;cases C;simp only [a9] at A;obtain ⟨hp,h1,ab⟩:=A;obtain rfl :=bL h1;obtain rfl :=bL ab;rw [hu] at E; cases E;obtain ⟨y,V,rfl⟩:=iJ hu;obtain ⟨e,i,he,hi⟩:=J hp;exact .of (fun d w=>by simp [iz,bA he,sizeOf,dh hi,sameAddr]) (fun w=>by simp [binOp]) (fun w=>by simp [binOp]) fun op w=>by simp [eqGuard]
 · obtain ⟨y,cap,V,_,rfl,_⟩:=iK hu;obtain rfl :=ik E;obtain ⟨A,C⟩:=I h;cases C;obtain ⟨e,he⟩:=O A;exact .of (fun d w=>vC d he) (fun w=>by simp [binOp]) (fun w=>by simp [binOp]) fun op w=>by simp [eqGuard]
 · obtain rfl :=ik hu;obtain rfl :=ik E;obtain ⟨A,C⟩:=I h;cases C;obtain ⟨e,he⟩:=O A;exact .of (fun d w=>vC d he) (fun w=>by simp [binOp]) (fun w=>by simp [binOp]) fun op w=>by simp [eqGuard]
 · obtain ⟨ae,c',ha,_,rfl⟩:=lV hu;obtain rfl :=qo E;obtain ⟨A,C⟩:=I h;cases C;obtain ⟨_,_,_,he⟩:=L A;exact .of (fun d w=>by simp [iz,bA he]) (fun w=>by simp [binOp]) (fun w=>by simp [binOp]) fun op w=>by simp [eqGuard]
 · obtain rfl :=qo hu;obtain rfl :=qo E;obtain ⟨A,C⟩:=I h;cases C;obtain ⟨_,_,_,he⟩:=L A;exact .of (fun d w=>by simp [iz,bA he]) (fun w=>by simp [binOp]) (fun w=>by simp [binOp]) fun op w=>by simp [eqGuard]
 · obtain rfl :=jg hu;obtain rfl :=jg E;obtain ⟨A,C⟩:=I h;cases C;exact .of (fun d w=>AH d<|B1 A) (fun w=>by simp [binOp]) (fun w=>by simp [binOp]) fun op w=>by simp [eqGuard]
 · obtain ⟨ak,ai,rfl⟩:=sj hu;obtain rfl :=ox E;obtain ⟨A,C⟩:=I h;cases C;obtain ⟨_,he⟩:=M A;exact .of (fun d w=>by simp [iz,bA he]) (fun w=>by simp [binOp]) (fun w=>by simp [binOp]) fun op w=>by simp [eqGuard]
 · obtain rfl :=ox hu;obtain rfl :=ox E;obtain ⟨A,C⟩:=I h;cases C;simp only [a9] at A;obtain ⟨_,he⟩:=M A.1;have ad:=ac A.2;exact .of (fun d w=>by simp [iz,bA he]) (fun w=>by simp [binOp]) (fun w=>by simp [binOp]) (fun op w=>by
    cases x <;> cases y <;> first | (cases ad; done) | simp [eqGuard])
 · cases h
theorem FW {V:Bool} {op:BinOp} {t Z:aw} {a b v:AV} (A:V=true→(cX x || cX y)=true) (h:uW P V op t a b=some v) (E:den r a=some (ev N σ x)) (I:den r b=some (ev N σ y)):YP P r N σ ⟨dst,.binOp op t x y Z,ty,pos,af,g⟩ v:=by
 unfold uW at h;split at h
 · rename_i k a O b;have h1:=cM E;have M:=cM I;have key:(cond (aP (dK k)<|dK O) (sG op k a b) none)=some v→YP P r N σ ⟨dst,.binOp op t x y Z,ty,pos,af,g⟩ v:=by
    intro C;cases A:aP (dK k) (dK O)
    · rw [A] at C; cases C
    · rw [A] at C;obtain rfl :=mY A;exact Iy C h1 M
   cases op <;> first
    | exact key h
    | (dsimp only at h
       split at h
       · exact K6 h h1 M
       · cases h)
 · exact LO h (gI E)<|gI I
 · split at h
   · split at h
     · rename_i q L;cases h;obtain ⟨h1,_,J⟩:=AF A L E I;exact ⟨_,U,fun w=>by simp [execOp,h1,J]⟩
     · cases h
   · split at h
     · rename_i q L;cases h;obtain ⟨_,h1,J⟩:=AF A L E I;exact ⟨_,U,fun w=>by simp [execOp,h1,J]⟩
     · cases h
   · cases h
end
def xP (e b o n c:Nat) (x:Bool) (i j:Nat):Option AV:=
 cond (bh i j) (cond x (cond (bh j c) (cond (aP c i) (some<|.sl b o (j - i) (c - i) true)<|some<|.sl b (o+i*e) (j - i) (c - i) true) none)
  (cond (bh j n && (aP i 0 || aE i n)) (some<|.sl b (o+i*e) (j - i) (c+i) false) none)) none
def pk (P:av) (t:aw) (x:AV) (lo hi:Option Nat):Option AV:=match x with
 | .str l=>cond (isStr P t && (bh (lo.getD 0) (hi.getD l.length) && bh (hi.getD l.length) l.length)) (some<|.str<|(l.take<|hi.getD l.length).drop<|lo.getD 0) none
 | .sl b o n c q=>match cW P t with
   | some e=>xP e b o n c q (lo.getD 0)<|hi.getD n
   | none=>none
 | .aq=>match cW P t with
   | some _=>cond (aP (lo.getD 0) 0 && aP (hi.getD 0) 0) (some .aq) none
   | none=>none
 | _=>none
def xO (P:av) (t:aw) (lo hi mx:Option aY) (xs:List AV):Option AV:=match lo,hi,mx with
 | none,some _,none=>match xs with
   | [x,.int _ (.ofNat j)]=>pk P t x none<|some j
   | _=>none
 | some _,none,none=>match xs with
   | [x,.int _ (.ofNat i)]=>pk P t x (some i) none
   | _=>none
 | some _,some _,none=>match xs with
   | [x,.int _ (.ofNat i),.int _ (.ofNat j)]=>pk P t x (some i)<|some j
   | _=>none
 | none,some _,some _=>match xs with
   | [.sl b o n c q,.int _ (.ofNat j),.int _ (.ofNat m)]=>match cW P t with
     | some e=>cond (aP j m && bh m n) (some<|.sl b o j j true) none
     | none=>none
   | _=>none
 | some _,some _,some _=>match xs with
   | [.sl b o n c q,.int _ (.ofNat i),.int _ (.ofNat j),.int _ (.ofNat m)]=>match cW P t with
     | some e=>cond (bh i j && (bh j m && bh m n)) (cond (aP m i) (some<|.sl b o (j - i) (m - i) true)<|some<|.sl b (o+i*e) (j - i) (m - i) true) none
     | none=>none
   | _=>none
 | _,_,_=>none
section
variable {P:av} {r:Rn} {N:Fm} {σ:Nat→ag} {dst:Option Nat} {ty:aw} {pos :String} {af:Array bR} {g:Option (Nat×Bool)} {x y z:aY}
theorem aZ {α:Type} {c:Bool} {p:Option α} {q:α} (h:cond c p none=some q):c=true∧p=some q:=by
 cases c
 · cases h
 · exact ⟨U,h⟩
theorem lU {b o n c:Nat} {q:Loc} (A:r b=some q) (h:n≤c):den r (.sl b o n c true)=some (.slice (some ⟨q.an,q.sh+o,none⟩) n c):=by
 simp only [den,A,cond_true,yU h]
theorem ow {b o n c:Nat} {q:Loc} (A:r b=some q) (h:c+n≤q.room):den r (.sl b o n c false)=some (.slice (some ⟨q.an,q.sh+o,none⟩) n<|q.room - c):=by
 simp only [den,A,cond_true,cond_false,yU h]
theorem xQ {e b o n c i j:Nat} {q:Bool} {v:AV} {u:ag} (h:xP e b o n c q i j=some v) (hu:den r (.sl b o n c q)=some u):
 ∃ a cap,u= .slice a n cap∧n≤cap∧i≤j∧j≤cap∧den r v=some (.slice (eo a cap i e) (j - i)<|cap - i):=by
 unfold xP at h;replace h:=aZ h; obtain ⟨h1,h⟩:=h;have h1:=bM h1;cases q
 · simp only [cond_false] at h;replace h:=aZ h; obtain ⟨A,h⟩:=h;simp only [a9,nN] at A;obtain ⟨q,C,E,rfl⟩:=sm hu;have L:=bM A.1;cases h;refine ⟨_,_,U,ab,h1,ab,?_⟩;have J:eo (some ⟨q.an,q.sh+o,none⟩) (q.room - c) i e=some ⟨q.an,q.sh+(o+i*e),none⟩:=by
    unfold eo;rcases A.2 with A | A
    · obtain rfl :=bL A;split
      · simp
      · simp [eJ]
    · have :=cC.1 A;rw [if_neg ab];simp [eJ,hJ]
   rw [J,ow C ab,show q.room - (c+i)=q.room - c - i from by omega]
 · simp only [cond_true] at h;replace h:=aZ h; obtain ⟨A,h⟩:=h;have A:=bM A;obtain ⟨q,C,E,rfl⟩:=Ah hu;refine ⟨_,_,U,E,h1,A,?_⟩;cases hb:aP c i
   · rw [hb] at h; cases h;have I:c≠i:=fun e=>by subst e; simp at hb
     rw [lU C ab];simp only [eo,if_neg I,fC,eJ,hJ]
   · rw [hb] at h; cases h;obtain rfl :=bL hb;rw [lU C ab];simp only [eo,if_true]
theorem lY {t:aw} (h:isStr P t=true):P.underlying t=some .string:=by
 unfold isStr at h; split at h
 · assumption
 · cases h
theorem C4 (c i e:Nat):eo none c i e=none:=by unfold eo; split <;> rfl
theorem K8 (a:Option Addr) (c e:Nat):eo a c 0 e=a:=by
 unfold eo; split
 · rfl
 · cases a <;> simp [Addr.add]
theorem Ld {t:aw} {lo hi mx:Option aY} {xs:List AV} {v:AV} (h:xO P t lo hi mx xs=some v) (O:aK r xs=some ((x::(lo.toList++(hi.toList++mx.toList))).map<|ev N σ)):
 YP P r N σ ⟨dst,.slice t x lo hi mx,ty,pos,af,g⟩ v:=by
 unfold xO at h;split at h
 · rename_i z;split at h
   · rename_i a k j;obtain ⟨h1,E⟩:=ie (u:=ev N σ x) (v:=ev N σ z) O;have C:=cM E;unfold pk at h;split at h
     · replace h:=aZ h; obtain ⟨A,h⟩:=h;simp only [a9,pZ,ja] at A;cases h;refine ⟨_,U,fun w=>(xW (lY A.1) (gI h1) C ⟨fP _,?_⟩).trans ?_⟩
       · have :=bM A.2.2; simp; omega
       · simp
     · split at h
       · rename_i e he;obtain ⟨a,cap,hu,Z,I,J,L⟩:=xQ h h1;simp only [pZ,ja] at I J L;refine ⟨_,L,fun w=>(xU he hu C ⟨fP _,by simp; omega⟩).trans ?_⟩;simp [K8]
       · cases h
     · split at h
       · rename_i e he;replace h:=aZ h; obtain ⟨A,h⟩:=h;simp only [a9,pZ,ja] at A;obtain rfl :=bL A.2;cases h;exact ⟨_,U,fun w=>xU he (ik h1) C ⟨fP _,by simp⟩⟩
       · cases h
     · cases h
   · cases h
 · rename_i z;split at h
   · rename_i a k j;obtain ⟨h1,E⟩:=ie (u:=ev N σ x) (v:=ev N σ z) O;have C:=cM E;unfold pk at h;split at h
     · replace h:=aZ h; obtain ⟨A,h⟩:=h;simp only [a9,pZ,ja] at A;cases h;refine ⟨_,U,fun w=>(C8 (lY A.1) (gI h1) C ⟨fP _,?_⟩).trans ?_⟩
       · have :=bM A.2.1; simp; omega
       · simp
     · split at h
       · rename_i e he;obtain ⟨a,cap,hu,Z,I,J,L⟩:=xQ h h1;simp only [pZ,ja] at I J L;exact ⟨_,L,fun w=>xV he hu C ⟨fP _,by simp; omega⟩⟩
       · cases h
     · split at h
       · rename_i e he;replace h:=aZ h; obtain ⟨A,h⟩:=h;simp only [a9,pZ,ja] at A;obtain rfl :=bL A.1;cases h;exact ⟨_,U,fun w=>(xV he (ik h1) C ⟨fP _,by simp⟩).trans<|by simp [C4]⟩
       · cases h
     · cases h
   · cases h
 · rename_i y z;split at h
   · rename_i a k i ag j;obtain ⟨h1,E,I⟩:=lT (u:=ev N σ x) (v:=ev N σ y) (t:=ev N σ z) O;have M:=cM E;have C:=cM I;unfold pk at h;split at h
     · replace h:=aZ h; obtain ⟨A,h⟩:=h;simp only [a9,ja] at A;cases h;have :=bM A.2.1;have :=bM A.2.2;exact ⟨_,U,fun w=>mj (lY A.1) (gI h1) M C ⟨fP _,by simp; omega,by simp; omega⟩⟩
     · split at h
       · rename_i e he;obtain ⟨a,cap,hu,Z,J,L,ad⟩:=xQ h h1;simp only [ja] at J L ad;exact ⟨_,ad,fun w=>xS he hu M C ⟨fP _,by simp; omega,by simp; omega⟩⟩
       · cases h
     · split at h
       · rename_i e he;replace h:=aZ h; obtain ⟨A,h⟩:=h;simp only [a9,ja] at A;obtain rfl :=bL A.1;obtain rfl :=bL A.2;cases h;exact ⟨_,U,fun w=>(xS he (ik h1) M C ⟨fP _,by simp,by simp⟩).trans<|by simp [C4]⟩
       · cases h
     · cases h
   · cases h
 · rename_i y z;split at h
   · rename_i b o n c q k j ag m;obtain ⟨h1,E,I⟩:=lT (u:=ev N σ x) (v:=ev N σ y) (t:=ev N σ z) O;have M:=cM E;have C:=cM I;split at h
     · rename_i e he;replace h:=aZ h; obtain ⟨A,h⟩:=h;simp only [a9] at A;obtain rfl :=bL A.1;have :=bM A.2;cases h;obtain ⟨q,cap,ac,Z,hu,_⟩:=iK h1;exact ⟨_,lU ac (aQ _),fun w=>Gz he hu M C ab⟩
     · cases h
   · cases h
 · rename_i y z u;split at h
   · rename_i b o n c q k i ag j al m;obtain ⟨_,_,V,h1,J⟩:=dV O;obtain ⟨E,I,J⟩:=lT (u:=ev N σ y) (v:=ev N σ z) (t:=ev N σ u)<|by simp at V; rw [J,← V.2]
     have M:=cM E;have C:=cM I;have hu:=cM J;simp at V;rw [← V.1] at h1;split at h
     · rename_i e he;replace h:=aZ h; obtain ⟨A,h⟩:=h;simp only [a9] at A;have aj:=bM A.1;have ak:=bM A.2.1;have am:=bM A.2.2;obtain ⟨q,cap,ac,Z,ai,_⟩:=iK h1;have ae:=fun w=>Lc (dst:=dst) (ty:=ty) (pos :=pos) (af:=af) (g:=g) (w:=w) he ai M C hu ⟨aj,ak,ab⟩;cases hb:aP m i
       · rw [hb] at h; cases h;have ah:m≠i:=fun e=>by subst e; simp at hb
         refine ⟨_,lU ac ab,fun w=>(ae w).trans ?_⟩;simp only [eo,if_neg ah,fC,eJ,hJ]
       · rw [hb] at h; cases h;obtain rfl :=bL hb;refine ⟨_,lU ac ab,fun w=>(ae w).trans ?_⟩;simp only [eo,if_true]
     · cases h
   · cases h
 · cases h
end
end Go.Hb
namespace Go.Hb
def kJ:AV→List AV
 | .agg l=>l
 | v=> [v]
theorem u7 {r:Rn} {v:AV} {u:ag} (h:den r v=some u):aK r (kJ v)=some u.cells.toList:=by
 cases v with
 | agg l=>
   obtain ⟨us,C,rfl⟩:=qn h;simpa [kJ,Value.cells] using C
 | bool b=>have :=jg h; subst this; exact dQ h<|by simp [aK]
 | int k n=>have :=cM h; subst this; exact dQ h<|by simp [aK]
 | str l=>have :=gI h; subst this; exact dQ h<|by simp [aK]
 | ptr b o=>obtain ⟨q,A,rfl⟩:=iJ h; exact dQ h<|by simp [aK]
 | gM=>have :=oy h; subst this; exact dQ h<|by simp [aK]
 | sl b o n c x=>obtain ⟨q,cap,A,_,rfl,_⟩:=iK h; exact dQ h<|by simp [aK]
 | aq=>have :=ik h; subst this; exact dQ h<|by simp [aK]
 | map b=>obtain ⟨q,A,rfl⟩:=mO h; exact dQ h<|by simp [aK]
 | kh=>have :=Ag h; subst this; exact dQ h<|by simp [aK]
 | fn f a c=>obtain ⟨_,_,_,_,rfl⟩:=lV h; exact dQ h<|by simp [aK]
 | gA l=>obtain ⟨q,A,rfl⟩:=vq h; exact dQ h<|by simp [aK]
 | iP=>have :=qo h; subst this; exact dQ h<|by simp [aK]
 | fy t v=>obtain ⟨_,_,rfl⟩:=sj h; exact dQ h<|by simp [aK]
 | cK=>have :=ox h; subst this; exact dQ h<|by simp [aK]
 | bV l=>obtain ⟨_,_,rfl⟩:=Ai h; exact dQ h<|by simp [aK]
def sX:AV→Bool
 | .agg _ | .bV _=>false
 | _=>true
theorem JY {r:Rn} {v:AV} {u:ag} (h:den r v=some u) (h1:sX v=true):u.oneCell'=true :=by
 cases v with
 | agg l=>cases h1
 | bool b=>have :=jg h; subst this; rfl
 | int k n=>have :=cM h; subst this; rfl
 | str l=>have :=gI h; subst this; rfl
 | ptr b o=>obtain ⟨q,A,rfl⟩:=iJ h; rfl
 | gM=>have :=oy h; subst this; rfl
 | sl b o n c x=>obtain ⟨q,cap,A,_,rfl,_⟩:=iK h; rfl
 | aq=>have :=ik h; subst this; rfl
 | map b=>obtain ⟨q,A,rfl⟩:=mO h; rfl
 | kh=>have :=Ag h; subst this; rfl
 | fn f a c=>obtain ⟨_,_,_,_,rfl⟩:=lV h; rfl
 | gA l=>obtain ⟨q,A,rfl⟩:=vq h; rfl
 | iP=>have :=qo h; subst this; rfl
 | fy t v=>obtain ⟨_,_,rfl⟩:=sj h; rfl
 | cK=>have :=ox h; subst this; rfl
 | bV l=>cases h1
def dX:List AV→Bool
 | []=>true
 | v::l=>cond (sX v) (dX l) false
theorem oT {r:Rn} :∀ {l:List AV} {us:List ag},aK r l=some us→dX l=true→∀ u∈us,u.oneCell'=true
 | [],us,h,_,u,hu=>by rw [j9 h] at hu; cases hu
 | v::l,us,h,h1,u,hu=>by
   obtain ⟨E,I,rfl,A,C⟩:=dV h;simp only [dX] at h1;cases hv:sX v
   · rw [hv] at h1; cases h1
   · rw [hv] at h1;rcases eb.1 hu with rfl | hu
     · exact JY A hv
     · exact oT C h1 u hu
def mU (pl:Nat→Option (Nat×Nat)):List AV→List (Nat×AV)→Option (List AV)
 | A,[]=>some A
 | A,(i,v)::ps=>match pl i with
   | some (off,s)=>cond (aP (kJ v).length s && bh (off+s) A.length) (mU pl (A.take off++(kJ v++A.drop (off+s))) ps) none
   | none=>none
theorem AR:∀ (l:List ag) (m off :Nat) (cs:Array ag),off+m+l.length≤cs.size→
 (l.zipIdx m).foldl (fun (cs:Array ag) (c,j)=>cs.setIfInBounds (off+j) c) cs=(cs.toList.take (off+m)++(l++cs.toList.drop (off+m+l.length))).toArray
 | [],m,off,cs,h=>by simp
 | c::l,m,off,cs,h=>by
   simp only [List.zipIdx_cons,List.foldl_cons,dm] at h ⊢;rw [AR l (m+1) off _ (by simp; omega)];apply ub.1;have A:off+m < cs.toList.length:=by rw [lz]; omega
   simp only [Array.toList_setIfInBounds];rw [show off+(m+1)=off+m+1 from by omega,K2 A,K0 ab,show off+m+1 +l.length=off+m+(l.length+1) from by omega];simp
theorem vJ {r:Rn} {pl:Nat→Option (Nat×Nat)} :∀ {ps:List (Nat×AV)} {E L:List AV} {Z:List ag} {vs:List (Nat×ag)},mU pl E ps=some L→aK r E=some Z→
 vs.map gE=ps.map gE→aK r (ps.map uM)=some (vs.map uM)→∃ C,aK r L=some C∧iW pl Z.toArray vs=some C.toArray
 | [],E,L,Z,vs,h,hz,h1,A=>by
   simp only [mU,bH] at h;subst h;obtain rfl :vs= []:=by simpa using h1
   exact ⟨Z,hz,U⟩
 | (i,v)::ps,E,L,Z,vs,h,hz,h1,A=>by
   cases vs with
   | nil=>simp at h1
   | cons p vs=>
     obtain ⟨j,u⟩:=p;simp only [fq,lF] at h1;obtain ⟨rfl,h1⟩:=h1;simp only [fq] at A;obtain ⟨al,am,he,ah,A⟩:=dV A;simp only [lF] at he;obtain ⟨rfl,rfl⟩:=he;simp only [mU] at h;split at h
     · rename_i off s ae;replace h:=aZ h; obtain ⟨I,h⟩:=h;simp only [a9] at I;have O:=bL I.1;have aj:=bM I.2;have J:=u7 ah;have ad:=dd J;have ak:=dd hz;have ai:=fv (je off hz)<|fv J<|jH (off+s) hz;obtain ⟨C,V,ab⟩:=vJ h ai h1 A;refine ⟨C,V,?_⟩;have M:u.cells.size=s:=by rw [← lz,ad,O]
       simp only [iW,ae,M];rw [if_neg (by simp; omega),← ab];congr 1;have ac:=AR u.cells.toList 0 off Z.toArray<|by simp; omega
       rw [show u.cells.zipIdx.foldl (fun (cs:Array ag) (c,j)=>cs.setIfInBounds (off+j) c) Z.toArray=((u.cells.toList.zipIdx 0).foldl (fun (cs:Array ag) (c,j)=>cs.setIfInBounds (off+j) c) Z.toArray) from by
        rw [← D7]; simp [Array.toList_zipIdx],ac]
       simp [M]
     · cases h
def lx:List (Nat×aY)→List AV→List (Nat×AV)
 | p::ps,v::vs=>(p.1,v)::lx ps vs
 | _,_=> []
theorem yx {r:Rn} {f:aY→ag} :∀ {ps:List (Nat×aY)} {xs:List AV},aK r xs=some ((ps.map (·.2)).map f)→
 (ps.map fun p=>(p.1,f p.2)).map gE=(lx ps xs).map gE∧aK r ((lx ps xs).map uM)=some ((ps.map fun p=>(p.1,f p.2)).map uM)
 | [],xs,h=>by
   have :=dd h;obtain rfl :xs= []:=j4<|by simpa using this.symm
   simp [lx,aK]
 | p::ps,[],h=>by have :=dd h; simp at this
 | p::ps,v::xs,h=>by
   simp only [fq] at h;obtain ⟨u,us,he,h1,A⟩:=dV h;simp only [lF] at he;obtain ⟨rfl,rfl⟩:=he;obtain ⟨C,E⟩:=yx (f:=f) A;refine ⟨?_,?_⟩
   · simp only [fq,lx,lF,true_and]; exact C
   · simp only [fq,lx]; exact dQ h1 E
def zO (P:av) (t u:aw) (n:Int):Option AV:=match P.underlying u with
 | some (.int k)=>cond (P.underlying t).isSome (fh k<|nK k n) none
 | _=>none
def uX (P:av) (b:Builtin) (A:Array aw) (xs:List AV):Option AV:=match b with
 | .len=>match xs,A with
   | [.str l],⟨[t]⟩=>cond (isStr P t) (fh .i64 l.length) none
   | [.sl _ _ n _ _],⟨[t]⟩=>cond (jS P t) (fh .i64 n) none
   | [.aq],⟨[t]⟩=>cond (jS P t) (fh .i64 0) none
   | _,_=>none
 | .min =>match xs with
   | [.int k a,.int k' b]=>cond (aP (dK k)<|dK k') (fh k<|min a b) none
   | _=>none
 | .max =>match xs with
   | [.int k a,.int k' b]=>cond (aP (dK k)<|dK k') (fh k<|max a b) none
   | _=>none
 | _=>none
def zn (P:av) (t:aw):Option (Nat×Nat):=match P.underlying t with
 | some (.array n e)=>match P.info? e with
   | some i=>match db P e with
     | some none=>some (n,i.size)
     | _=>none
   | none=>none
 | _=>none
def na (P:av) (o:Op) (xs:List AV):Option AV:=match o with
 | .move _=>match xs with
   | [x]=>some x
   | _=>none
 | .assign _=>match xs with
   | [x]=>some x
   | _=>none
 | .pick _ _ _=>match xs with
   | [.bool true,a,_]=>some a
   | [.bool false,_,b]=>some b
   | _=>none
 | .nilCheck _=>match xs with
   | [.ptr b o]=>some<|.ptr b o
   | _=>none
 | .extract _ i=>match xs with
   | [.bV l]=>l[i]?
   | _=>none
 | .fieldAddr s _ f=>match xs with
   | [.ptr b o]=>match mT P s f with
     | some n=>some<|.ptr b<|o+n
     | none=>none
   | _=>none
 | .field s _ f=>match xs with
   | [.agg l]=>match vH P s f with
     | some n=>l[n]?
     | none=>match vI P s f with
       | some (C,off)=>match db P C with
         | some (some n)=>some<|.agg<|(l.drop off).take n
         | _=>none
       | none=>none
   | _=>none
 | .indexAddr s _ _=>match xs with
   | [.sl b o n _ _,.int _ (.ofNat i)]=>match cW P s with
     | some e=>cond (aE i n) (some<|.ptr b<|o+i*e) none
     | none=>none
   | [.ptr b o,.int _ (.ofNat i)]=>match kI P s with
     | some (n,e)=>cond (aE i n) (some<|.ptr b<|o+i*e) none
     | none=>none
   | _=>none
 | .index t _ _=>match xs with
   | [.str l,.int _ (.ofNat i)]=>cond (isStr P t) (match l[i]? with
     | some c=>fh .u8 c.toNat
     | none=>none) none
   | [.agg l,.int _ (.ofNat i)]=>match zn P t with
     | some (n,s)=>cond (aE i n) l[i*s]? none
     | none=>none
   | _=>none
 | .binOp op t x y _=>match xs with
   | [a,b]=>uW P (cX x || cX y) op t a b
   | _=>none
 | .unOp .not _ _=>match xs with
   | [.bool b]=>some<|.bool<|!b
   | _=>none
 | .convert t u _=>match xs with
   | [.int _ n]=>zO P t u n
   | _=>none
 | .slice t _ lo hi mx=>xO P t lo hi mx xs
 | .makeInterface t _=>match xs with
   | [x]=>cond (kf P t) (some<|.fy t x) none
   | _=>none
 | .typeAssert _ _ a true =>match xs with
   | [.cK]=>cond (kf P a) (match zeroV P a with
     | some z=>match jm 4 z with
       | some z=>some<|.bV [z,.bool false]
       | none=>none
     | none=>none) none
   | [.fy t v]=>cond (kf P a && aP t a) (some<|.bV [v,.bool true]) none
   | _=>none
 | .makeFunc (.func f) ⟨a⟩ _=>some<|.fn f (xs.take a.length)<|xs.drop a.length
 | .build t ⟨ps⟩=>match et P t with
   | some (pl,A)=>match ki (jm 4) A with
     | some A=>match mU (fun i=>pl.toArray[i]?) A (lx ps xs) with
       | some l=>some<|.agg l
       | none=>none
     | none=>none
   | none=>none
 | .call ⟨.builtin b,_,ts⟩=>uX P b ts xs
 | _=>none
section
variable {P:av} {r:Rn} {N:Fm} {σ:Nat→ag} {dst:Option Nat} {ty:aw} {pos :String} {af:Array bR} {g:Option (Nat×Bool)} {x y z:aY}
theorem qE {t:aw} (h:jS P t=true):∃ e,P.underlying t=some (.slice e):=by
 unfold jS at h; split at h
 · exact ⟨_,by assumption⟩
 · cases h
theorem FZ {b:Builtin} {l:List aY} {J:Array aw} {xs:List AV} {v:AV} (h:uX P b J xs=some v) (E:aK r xs=some (l.map<|ev N σ)):YP P r N σ ⟨dst,.call ⟨.builtin b,⟨l⟩,J⟩,ty,pos,af,g⟩ v:=by
 unfold uX at h;have one:∀ {a:AV},aK r [a]=some (l.map<|ev N σ)→∃ x,l= [x]∧den r a=some (ev N σ x):=by
  intro a h;have :=dd h;simp at this;obtain ⟨x,rfl⟩:=rE.1 this;exact ⟨x,U,eK h⟩
 have two:∀ {a b:AV},aK r [a,b]=some (l.map<|ev N σ)→∃ x y,l= [x,y]∧den r a=some (ev N σ x)∧den r b=some (ev N σ y):=by
  intro a b h;have :=dd h;simp at this;obtain ⟨x,y,rfl⟩:∃ x y,l= [x,y]:=by
   match l,this with
   | [x,y],_=>exact ⟨x,y,rfl⟩
  exact ⟨x,y,U,ie h⟩
 split at h
 · split at h
   · obtain ⟨x,rfl,C⟩:=one E;replace h:=aZ h; obtain ⟨A,h⟩:=h;rw [fK] at h; cases h;exact ⟨_,U,fun w=>BI (lY A) U<|gI C⟩
   · obtain ⟨x,rfl,C⟩:=one E;replace h:=aZ h; obtain ⟨A,h⟩:=h;rw [fK] at h; cases h;obtain ⟨e,he⟩:=qE A;obtain ⟨q,cap,M,_,hu,_⟩:=iK C;exact ⟨_,U,fun w=>wO he U hu⟩
   · obtain ⟨x,rfl,C⟩:=one E;replace h:=aZ h; obtain ⟨A,h⟩:=h;rw [fK] at h; cases h;obtain ⟨e,he⟩:=qE A;exact ⟨_,U,fun w=>wO he U<|ik C⟩
   · cases h
 · split at h
   · rename_i k a L b;obtain ⟨x,y,rfl,C,I⟩:=two E;replace h:=aZ h; obtain ⟨A,h⟩:=h;obtain rfl :=mY A;rw [fK] at h; cases h;exact ⟨_,U,fun w=>mn (cM C)<|cM I⟩
   · cases h
 · split at h
   · rename_i k a L b;obtain ⟨x,y,rfl,C,I⟩:=two E;replace h:=aZ h; obtain ⟨A,h⟩:=h;obtain rfl :=mY A;rw [fK] at h; cases h;exact ⟨_,U,fun w=>mx (cM C)<|cM I⟩
   · cases h
 · cases h
theorem FX {t:aw} {parts:Array (Nat×aY)} {pl:List (Nat×Nat)} {C L:List ag} (h:et P t=some (pl,C)) (A:iW (pl.toArray[·]?) C.toArray (parts.toList.map fun p=>(p.1,ev N σ p.2))=some L.toArray) (w:ah):
 (execOp (ev N σ) ⟨dst,.build t parts,ty,pos,af,g⟩).run P w= .ok (.value<|.agg L.toArray) w:=by
 unfold et at h;split at h
 · rename_i it fields hi hu;split at h
   · rename_i z I E hm;simp only [bH,hZ] at h;obtain ⟨rfl,rfl⟩:=h;have hb:P.built t (parts.map fun p=>(p.1,ev N σ p.2)).toList=some L.toArray:=by
      simp only [Array.toArray_toList] at A;simp only [Program.built,hi,hu,E,hm,ix]; exact A
     simp [execOp,run_build w t _ _ hb]
   · cases h
 · cases h
theorem Ch {o:Op} {xs:List AV} {v:AV} (h:na P o xs=some v) (A:aK r xs=some ((ga o).map<|ev N σ)):YP P r N σ ⟨dst,o,ty,pos,af,g⟩ v:=by
 unfold na at h;split at h
 · split at h
   · cases h; exact ⟨_,eK A,fun w=>mv⟩
   · cases h
 · split at h
   · cases h; exact ⟨_,eK A,fun w=>aT⟩
   · cases h
 · split at h
   · cases h;obtain ⟨h1,E,Z⟩:=lT A;exact ⟨_,E,fun w=>mg<|jg h1⟩
   · cases h;obtain ⟨h1,E,Z⟩:=lT A;exact ⟨_,Z,fun w=>oY<|jg h1⟩
   · cases h
 · split at h
   · cases h;have h1:=eK A;obtain ⟨q,M,hu⟩:=iJ h1;exact ⟨_,h1.trans (by rw [hu]),fun w=>nc hu⟩
   · cases h
 · split at h
   · obtain ⟨us,J,hu⟩:=Ai<|eK A;obtain ⟨u,O,V⟩:=ot J h;exact ⟨u,V,fun w=>xt hu<|by simpa using O⟩
   · cases h
 · split at h
   · split at h
     · rename_i n hn;cases h;obtain ⟨q,M,hu⟩:=iJ<|eK A;exact ⟨_,by simp only [den,M]; rfl,fun w=>(fa hn hu).trans<|by rw [hJ]⟩
     · cases h
   · cases h
 · split at h
   · split at h
     · rename_i n hn;obtain ⟨us,J,hu⟩:=qn<|eK A;obtain ⟨u,O,V⟩:=ot J h;exact ⟨u,V,fun w=>HQ hn hu<|by simpa using O⟩
     · split at h
       · rename_i ao off aj;split at h
         · rename_i n ha;cases h;obtain ⟨us,J,hu⟩:=qn<|eK A;have h1:=je n<|jH off J;exact ⟨_,by simp only [den,h1],fun w=>H6 aj ha hu U⟩
         · cases h
       · cases h
   · cases h
 · split at h
   · split at h
     · rename_i e he;replace h:=aZ h; obtain ⟨I,h⟩:=h;cases h;obtain ⟨h1,E⟩:=ie A;obtain ⟨q,cap,M,J,hu,_⟩:=iK h1;have :=cC.1 I;refine ⟨_,by simp only [den,M]; rfl,fun w=>(ia he hu (cM E) ⟨fP _,by simp; omega⟩).trans ?_⟩;simp [hJ]
     · cases h
   · split at h
     · rename_i n e he;replace h:=aZ h; obtain ⟨I,h⟩:=h;cases h;obtain ⟨h1,E⟩:=ie A;obtain ⟨q,M,hu⟩:=iJ h1;have :=cC.1 I;refine ⟨_,by simp only [den,M]; rfl,fun w=>(jj he hu (cM E) ⟨fP _,by simp; omega⟩).trans ?_⟩;simp [hJ]
     · cases h
   · cases h
 · split at h
   · rename_i t _ _ l k i;replace h:=aZ h; obtain ⟨I,h⟩:=h;obtain ⟨h1,E⟩:=ie A;split at h
     · rename_i c J;rw [fK] at h; cases h;obtain ⟨am,ae⟩:=cB.1 J;refine ⟨_,U,fun w=>(fV (lY I) (gI h1) (cM E) am).trans ?_⟩;simp [cn,J]
     · cases h
   · rename_i l k i;split at h
     · rename_i n s L;replace h:=aZ h; obtain ⟨I,h⟩:=h;have I:=cC.1 I;obtain ⟨h1,E⟩:=ie A;obtain ⟨us,J,hu⟩:=qn h1;obtain ⟨u,O,V⟩:=ot J h;have an:=cM E;unfold zn at L;split at L
       · rename_i ap e hn;split at L
         · rename_i j ak;split at L
           · rename_i ha;cases L;refine ⟨u,V,fun w=> ?_⟩;have ae:us.toArray[i*j.size]? =some u:=by simpa using O
             have h0:(0:Int)≤kD i∧kD i < (n:Int):=⟨fP _,by simp; omega⟩
             simp only [execOp,Instr.index,hu,an,asIntOf,iB,kC,gX,bA hn,Sem.run_ite,h0,and_self,if_true,sizeOf,dh ak,part,CK ha];simp [ae]
           · cases L
         · cases L
       · cases L
     · cases h
   · cases h
 · split at h
   · obtain ⟨h1,E⟩:=ie A;exact FW (fun h=>h) h h1 E
   · cases h
 · split at h
   · cases h; exact ⟨_,rfl,fun w=>no<|jg<|eK A⟩
   · cases h
 · split at h
   · unfold zO at h;split at h
     · rename_i k al;replace h:=aZ h; obtain ⟨I,h⟩:=h;rw [fK,rf] at h; cases h;exact ⟨_,U,fun w=>GV al I (cM<|eK A) U⟩
     · cases h
   · cases h
 · exact Ld h A
 · split at h
   · replace h:=aZ h; obtain ⟨I,h⟩:=h;cases h;have h1:=eK A;exact ⟨_,by simp only [den,h1],fun w=>wY I U⟩
   · cases h
 · split at h
   · replace h:=aZ h; obtain ⟨I,h⟩:=h;split at h
     · rename_i z ab;split at h
       · rename_i av ac;cases h;have Z:=mb (r:=r) 4 ac;exact ⟨_,by simp [den,aK,Z],fun w=>Dp I ab<|ox<|eK A⟩
       · cases h
     · cases h
   · replace h:=aZ h; obtain ⟨I,h⟩:=h;simp only [a9] at I;obtain rfl :=bL I.2;cases h;obtain ⟨au,h1,E⟩:=sj<|eK A;exact ⟨_,by simp [den,aK,h1],fun w=>Dn I.1 E⟩
   · cases h
 · rename_i f a c;cases h;simp only [ga,gD] at A;obtain ⟨c⟩:=c;simp only at A;have h1:=je a.length A;have E:=jH a.length A;rw [List.take_left' (by simp)] at h1;rw [List.drop_left' (by simp)] at E;exact ⟨_,by simp only [den,h1,E],fun w=>BY⟩
 · rename_i t ps;split at h
   · rename_i pl aw L;split at h
     · rename_i ax ab;split at h
       · rename_i l ah;cases h;have ac:=oR (r:=r) (fun v a=>mb 4) ab;obtain ⟨h1,E⟩:=yx (f:=ev N σ) A;obtain ⟨C,ag,ai⟩:=vJ ah ac h1 E;exact ⟨.agg C.toArray,by simp only [den,ag],fun w=>FX L ai w⟩
       · cases h
     · cases h
   · cases h
 · rename_i b ad ar;obtain ⟨ad⟩:=ad;exact FZ h A
 · cases h
end
end Go.Hb
namespace Go.Hb
theorem BQ {r s:Rn} (h:r.le s):∀ {l:List (AV×AV)} {es:List MapEntry},fY r l es→fY s l es
 | [],[],_=>trivial
 | p::l,m::es,hm=>⟨kN h hm.1,kN h hm.2.1,BQ h hm.2.2⟩
 | [],_::_,hm=>hm.elim
 | _::_,[],hm=>hm.elim
theorem OR.le {P:av} {r s:Rn} (h:r.le s) {q:Loc} {o:AO} {ob:Option Obj} (E:OR P r q o ob):OR P s q o ob:=by
 cases o with
 | cells l e fz ex=>obtain ⟨c,fr,us,h1,A,C⟩:=E; exact ⟨c,fr,us,h1,ig h A,C⟩
 | map l=>obtain ⟨es,c,h1,A,C⟩:=E; exact ⟨es,c,h1,BQ h A,C⟩
 | loop st O n fr ps aT body D=>
   obtain ⟨fn,J,M,h1,⟨x,A,C⟩,h4,h5⟩:=E;refine ⟨fn,J,M,h1,⟨x,h _ _ A,C⟩,h4,fun i hi=> ?_⟩;have I:=h5 i hi;have L:i < J.size:=ab;rw [nL L] at I ⊢;exact kN h I
 | kO b=>exact E
 | x9 l p=>exact E
structure HR (P:av) (G:Nat) (r:Rn) (T:Nat) (h:Hp) (w:ah):Prop where
 live:∀ i o,h.t.get i=some o→∃ q,r i=some q∧OR P r q o w.heap[q.an]?
 inj:∀ i j o o' q q',h.t.get i=some o→h.t.get j=some o'→r i=some q→r j=some q'→q.an=q'.an→i=j
 new:∀ i,h.nx≤i→i < T→r i=none
 fc:n8 G r
 base:G≤h.nx
def Fr (G:Nat) (r:Rn) (h:Hp) (k:Nat):Prop := ∃ i o q,G≤i∧h.t.get i=some o∧r i=some q∧q.an=k
structure St (P:av) (G T:Nat) (r:Rn) (h:Hp) (w:ah) (r':Rn) (h':Hp) (w':ah):Prop where
 le:r.le r'
 hr:HR P G r' T h' w'
 nx:h.nx≤h'.nx
 md:Md (Fr G r h) w w'
 dW:∀ g,g≤G→∀ k,k < w.heap.size→Fr g r' h' k→Fr g r h k
 out:∀ i,h'.nx≤i→r' i=r i
theorem St.trans {P:av} {G T:Nat} {r r' J:Rn} {h h' E:Hp} {w w' w'':ah} (a:St P G T r h w r' h' w') (b:St P G T r' h' w' J E w''):St P G T r h w J E w'':=
 ⟨Rn.le_trans a.le b.le,b.hr,cG a.nx b.nx,Md.trans' a.md b.md (fun k A C=>a.dW G (aQ _) k A C),fun g I k A C=>a.dW g I k A (b.dW g I k (mC A a.md.size) C),fun i hi=>(b.out i hi).trans<|a.out i<|cG b.nx hi⟩
theorem St.refl {P:av} {G T:Nat} {r:Rn} {h:Hp} {w:ah} (hr:HR P G r T h w):St P G T r h w r h w:=⟨Rn.le_refl r,hr,aQ _,Md.refl _ _,fun _ _ _ _ h=>h,fun _ _=>rfl⟩
theorem St.drew {P:av} {G T:Nat} {r r':Rn} {h h':Hp} {w w':ah} (a:St P G T r h w.drew r' h' w'):St P G T r h w r' h' w':=⟨a.le,a.hr,a.nx,⟨a.md.os,a.md.output,a.md.size,a.md.dL⟩,a.dW,a.out⟩
section
variable {P:av} {G:Nat} {r:Rn} {T:Nat} {h:Hp} {w:ah}
theorem HR.drew (hr:HR P G r T h w):HR P G r T h w.drew:=⟨hr.live,hr.inj,hr.new,hr.fc,hr.base⟩
theorem HR.cells (hr:HR P G r T h w) {b:Nat} {l:List AV} {e fz:Nat} {ex:Ck} (hb:h.t.get b=some (.cells l e fz ex)):
 ∃ q us,r b=some q∧aK r l=some us∧(∀ j u,us[j]? =some u→ay w.heap q.an (q.sh+j)=some u)∧∃ c fr,w.heap[q.an]? =some (.cells c e fr):=by
 obtain ⟨q,I,c,fr,us,h1,A,J,C,_⟩:=hr.live b _ hb;exact ⟨q,us,I,A,fun j u E=>by rw [bp h1]; exact C j u E,c,fr,h1⟩
def YL (P:av) (r:Rn) (N:Fm) (σ:Nat→ag) (o:aC) (w:ah) (v:AV):Prop := ∃ u,den r v=some u∧(execOp (ev N σ) o).run P w= .ok (.value u) w
end
def nn:List AV→Option (List UInt8)
 | []=>some []
 | .int .u8 (.ofNat n)::l=>match nn l with
   | some m=>cond (aE n 256) (some (eX n::m)) none
   | none=>none
 | _=>none
theorem ye {r:Rn} :∀ {l:List AV} {m:List UInt8} {us:List ag},nn l=some m→aK r l=some us→us=U8 m
 | [],m,us,h,hd=>by simp only [nn,bH] at h; subst h; rw [j9 hd]; rfl
 | a::l,m,us,h,hd=>by
   unfold nn at h;split at h
   · rename_i h0; cases h0
   · rename_i n E h0;cases h0;split at h
     · rename_i I hm;replace h:=aZ h; obtain ⟨C,h⟩:=h;cases h;obtain ⟨u,J,rfl,h1,A⟩:=dV hd;obtain rfl :=cM h1;obtain rfl :=ye hm A;have :=cC.1 C;simp only [U8,fq,lF,and_true];congr 1;exact (L6 n this).symm
     · cases h
   · cases h
inductive KK | s | i (k:bw) | bs
def m5 (P:av) (k:aw) (a:AV):Option KK:=match a with
 | .str _=>cond (isStr P k) (some .s) none
 | .int q _=>match P.underlying k with
   | some (.int _)=>some<|.i q
   | _=>none
 | .agg _=>cond (mK P k) (some .bs) none
 | _=>none
def dF (A:KK) (a:AV):Bool:=match A,a with
 | .s,.str _=>true
 | .i k,.int k' _=>aP (dK k)<|dK k'
 | .bs,.agg [.bool _,.str _]=>true
 | _,_=>false
def ff (A:KK):List (AV×AV)→Bool
 | []=>true
 | p::l=>cond (dF A p.1) (ff A l) false
def oN:KK→ag→Prop
 | .s=>IC
 | .i k=>Bj k
 | .bs=>wi
where IC (v:ag):Prop := ∃ s:List UInt8,v=str s
def fW (a b:AV):Bool:=match a,b with
 | .str l,.str m=>il l m
 | .int _ a,.int _ b=>decide (a=b)
 | .agg [.bool a,.str l],.agg [.bool b,.str m]=>cond (a==b) (il l m) false
 | _,_=>false
def l5 (x:AV):List (AV×AV)→Option AV
 | []=>none
 | p::l=>cond (fW p.1 x) (some p.2)<|l5 x l
section
variable {P:av} {r:Rn}
theorem sN {C:KK} {a:AV} {u:ag} (h:dF C a=true) (A:den r a=some u):oN C u:=by
 unfold dF at h;split at h
 · exact ⟨_,gI A⟩
 · rename_i k M n;obtain rfl :=mY h;exact ⟨_,cM A⟩
 · obtain ⟨us,h1,rfl⟩:=qn A;obtain ⟨O,Z,rfl,E,I⟩:=dV h1;obtain ⟨V,ab,rfl,J,L⟩:=dV I;obtain rfl :=j9 L;obtain rfl :=jg E;obtain rfl :=gI J;exact ⟨_,_,U⟩
 · cases h
theorem Bw {a:AV} (h:dF .s a=true):∃ l,a= .str l:=by
 cases a with
 | str l=>exact ⟨l,rfl⟩
 | _=>exact c9 (show false =true from h)
theorem Bv {k:bw} {a:AV} (h:dF (.i k) a=true):∃ n,a= .int k n:=by
 cases a with
 | int A n=>exact ⟨n,by rw [mY (show aP (dK k) (dK A)=true from h)]⟩
 | _=>exact c9 (show false =true from h)
theorem Bu {a:AV} (h:dF .bs a=true):∃ f l,a= .agg [.bool f,.str l]:=by
 unfold dF at h;split at h <;> first
  | exact ⟨_,_,rfl⟩
  | contradiction
  | (exfalso; cases h; done)
  | (rename_i A; cases A; done)
  | (rename_i A _; cases A; done)
theorem Af {f:Bool} {l:List UInt8} {u:ag} (h:den r (.agg [.bool f,.str l])=some u):u= .agg #[.bool f,str l]:=by simpa [den,aK] using h.symm
theorem str_inj {l m:List UInt8} (h:str l=str m):l=m:=by unfold str at h; cases h; rfl
theorem kU {E:KK} {a b:AV} {u v:ag} (h1:dF E a=true) (A:dF E b=true) (hu:den r a=some u) (C:den r b=some v):fW a b=true↔u=v:=by
 cases E with
 | s=>
   obtain ⟨l,rfl⟩:=Bw h1;obtain ⟨m,rfl⟩:=Bw A;rw [gI hu,gI C];simp only [fW,oC,decide_eq_true_iff];exact ⟨fun h=>by rw [h],str_inj⟩
 | i k=>
   obtain ⟨l,rfl⟩:=Bv h1;obtain ⟨m,rfl⟩:=Bv A;rw [cM hu,cM C];simp only [fW,decide_eq_true_iff];exact ⟨fun h=>by rw [h],fun h=>by cases h; rfl⟩
 | bs=>
   obtain ⟨f,l,rfl⟩:=Bu h1;obtain ⟨g,m,rfl⟩:=Bu A;rw [Af hu,Af C];simp only [fW,oC];cases hab:(f==g)
   · have :f≠g:=by simpa using hab
     exact ⟨fun h=>c9 h,fun h=>by simp at h; exact absurd h.1 this⟩
   · obtain rfl :f=g:=by simpa using hab
     simp only [cond_true,decide_eq_true_iff];exact ⟨fun h=>by rw [h],fun h=>by simp at h; exact str_inj h⟩
theorem wu {k:aw} {a:AV} {C:KK} (h:m5 P k a=some C):n9 P k (oN C):=by
 unfold m5 at h;split at h
 · replace h:=aZ h; obtain ⟨A,h⟩:=h;cases h;exact (Bs<|lY A).key
 · split at h
   · cases h; exact (Br<|by assumption).key
   · cases h
 · replace h:=aZ h; obtain ⟨A,h⟩:=h;cases h;exact IT A
 · cases h
theorem sT {A:KK} :∀ {l:List (AV×AV)} {es:List MapEntry},fY r l es→ff A l=true→∀ p∈es.map (fun e=>(e.key,e.val)),oN A p.1
 | [],[],_,_,p,hp=>by simp at hp
 | q::l,m::es,hm,hk,p,hp=>by
   simp only [ff] at hk;cases h1:dF A q.1
   · rw [h1] at hk; cases hk
   · rw [h1] at hk;rcases eb.1 hp with rfl | hp
     · exact sN h1 hm.1
     · exact sT hm.2.2 hk p hp
 | [],_::_,hm,_,_,_=>hm.elim
 | _::_,[],hm,_,_,_=>hm.elim
theorem Bq {E:KK} {x v:AV} {kx:ag} (C:dF E x=true) (A:den r x=some kx):∀ {l:List (AV×AV)} {es:List MapEntry},fY r l es→ff E l=true→l5 x l=some v→∃ u,den r v=some u∧(kx,u)∈es.map (fun e=>(e.key,e.val))
 | [],_,_,_,h=>by cases h
 | q::l,[],hm,_,_=>hm.elim
 | q::l,m::es,hm,hk,h=>by
   simp only [ff] at hk;cases h1:dF E q.1
   · rw [h1] at hk; cases hk
   · rw [h1] at hk;simp only [l5] at h;cases he:fW q.1 x
     case true =>
      have he:=(kU h1 C hm.1 A).1 he;rw [(kU h1 C hm.1 A).2 he] at h;cases h;exact ⟨m.val,hm.2.1,by rw [← he]; exact hH⟩
     case false =>
      rw [he] at h;obtain ⟨u,I,J⟩:=Bq C A hm.2.2 hk h;exact ⟨u,I,gZ _ J⟩
theorem wq {C:KK} {x:AV} {kx:ag} (I:dF C x=true) (E:den r x=some kx):∀ {l:List (AV×AV)} {es:List MapEntry},fY r l es→ff C l=true→l5 x l=none→∀ v,(kx,v)∉es.map (fun e=>(e.key,e.val))
 | [],[],_,_,_,v=>by simp
 | [],_::_,hm,_,_,_=>hm.elim
 | q::l,[],hm,_,_,_=>hm.elim
 | q::l,m::es,hm,hk,h,v=>by
   simp only [ff] at hk;cases h1:dF C q.1
   · rw [h1] at hk; cases hk
   · rw [h1] at hk;simp only [l5] at h;cases he:fW q.1 x
     case true =>rw [he] at h; cases h
     case false =>
      rw [he] at h;intro J;rcases eb.1 J with A | A
      · cases A; have :=(kU h1 I hm.1 E).2 rfl; rw [he] at this; cases this
      · exact wq I E hm.2.2 hk h v A
end
end Go.Hb
namespace Go.Hb
def zP (P:av) (t u:aw) (x:AV) (h:Hp):Option AV:=match x with
 | .sl _ _ 0 _ _=>match P.underlying t with
   | some (.slice e)=>cond (mL P t e u) (some<|.str []) none
   | _=>none
 | .sl b o n _ _=>match h.t.get b with
   | some (.cells l e _ _)=>cond (mL P t e u && bh (o+n) l.length) (match nn ((l.drop o).take n) with
     | some m=>some<|.str m
     | none=>none) none
   | _=>none
 | .aq=>match P.underlying t with
   | some (.slice e)=>cond (mL P t e u) (some<|.str []) none
   | _=>none
 | .ptr b 0=>match h.t.get b with
   | some (.cells l e 0 .x)=>cond (np P t u e l.length || np P u t e l.length) (some<|.ptr b 0) none
   | _=>none
 | _=>none
def sO (P:av) (t:aw) (x:AV) (h:Hp):Option AV:=match x with
 | .ptr b o=>match h.t.get b with
   | some (.cells l _ _ _)=>match db P t with
     | some none=>l[o]?
     | some (some n)=>cond (bh (o+n) l.length) (some<|.agg<|(l.drop o).take n) none
     | none=>none
   | _=>none
 | _=>none
def jn (P:av) (o:Op) (xs:List AV) (h:Hp):Option AV:=match o with
 | .load t _=>match xs with
   | [x]=>sO P t x h
   | _=>none
 | .lookup t _ _ ok=>match xs with
   | [.map b,k]=>match h.t.get b with
     | some (.map l)=>match P.underlying t with
       | some (.map C e)=>match m5 P C k with
         | some A=>cond (dF A k && ff A l) (match l5 k l with
           | some v=>some<|cond ok (.bV [v,.bool true]) v
           | none=>match zeroV P e with
             | some z=>match jm 4 z with
               | some z=>some<|cond ok (.bV [z,.bool false]) z
               | none=>none
             | none=>none) none
         | none=>none
       | _=>none
     | _=>none
   | _=>none
 | .convert t u _=>match xs with
   | [x]=>zP P t u x h
   | _=>none
 | .slice t _ none none none=>match xs with
   | [.ptr b 0]=>match h.t.get b with
     | some (.cells _ _ _ .x)=>match kI P t with
       | some (n,_)=>some<|.sl b 0 n n true
       | none=>none
     | _=>none
   | _=>none
 | .call ⟨.builtin .len,_,⟨[t]⟩⟩=>match xs with
   | [.map b]=>match h.t.get b with
     | some (.map l)=>match P.underlying t with
       | some (.map _ _)=>fh .i64 l.length
       | _=>none
     | _=>none
   | _=>none
 | _=>none
section
variable {P:av} {G:Nat} {r:Rn} {T:Nat} {h:Hp} {w:ah} {N:Fm} {σ:Nat→ag} {dst:Option Nat} {ty:aw} {pos :String} {af:Array bR} {g:Option (Nat×Bool)} {x y z:aY}
theorem BR:∀ {l:List (AV×AV)} {es:List MapEntry},fY r l es→es.length=l.length
 | [],[],_=>rfl
 | p::l,m::es,hm=>by simp [BR hm.2.2]
 | [],_::_,hm=>hm.elim
 | _::_,[],hm=>hm.elim
theorem HR.map (hr:HR P G r T h w) {b:Nat} {l:List (AV×AV)} (hb:h.t.get b=some (.map l)):∃ q es c,r b=some q∧w.heap[q.an]? =some (.map es c)∧fY r l es.toList∧(es.toList.map fun e=>e.key).Nodup:=by
 obtain ⟨q,E,es,c,h1,A,C⟩:=hr.live b _ hb;exact ⟨q,es,c,E,h1,A,C⟩
theorem BB (hr:HR P G r T h w) {t:aw} {a v:AV} {v0:ag} (A:sO P t a h=some v) (O:den r a=some v0):∃ b off u,v0= .pointer (some ⟨b,off,none⟩)∧den r v=some u∧
 ((db P t=some none∧ay w.heap b off =some u)∨∃ (n:Nat) (cs:List ag),db P t=some (some n)∧u= .agg cs.toArray∧cs.length=n∧∀ j,j < n→ay w.heap b (off+j)=cs[j]?):=by
 unfold sO at A;split at A
 · rename_i b o;split at A
   · rename_i l _ _ _ hb;obtain ⟨q,us,Z,C,E,_⟩:=hr.cells hb;obtain ⟨q',J,rfl⟩:=iJ O;rw [Z] at J; cases J;split at A
     · rename_i ha;obtain ⟨u,h1,L⟩:=ot C A;exact ⟨_,_,u,U,L,.inl ⟨ha,E _ _ h1⟩⟩
     · rename_i n ha;replace A:=aZ A; obtain ⟨M,A⟩:=A;have hle:=bM M;cases A;have h1:=je n<|jH o C;have hlen:=dd C;refine ⟨_,_,.agg ((us.drop o).take n).toArray,U,by simp only [den,h1],.inr ⟨n,_,ha,U,by simp; omega,fun j V=> ?_⟩⟩;rw [iY,if_pos V,iE];have I:o+j < us.length:=ab;rw [hJ,bt I];exact E _ _<|bt I
     · cases A
   · cases A
 · cases A
theorem Cg (hr:HR P G r T h w) {o:Op} {xs:List AV} {v:AV} (A:jn P o xs h=some v) (V:aK r xs=some ((ga o).map<|ev N σ)):YL P r N σ ⟨dst,o,ty,pos,af,g⟩ w v:=by
 unfold jn at A;split at A
 · split at A
   · obtain ⟨b,off,u,M,hu,h1⟩:=BB hr A<|eK V;rcases h1 with ⟨ha,E⟩ | ⟨n,cs,ha,rfl,Z,E⟩
     · exact ⟨u,hu,ld ha M E⟩
     · exact ⟨_,hu,fg ha M Z E⟩
   · cases A
 · rename_i t a b ok;split at A
   · rename_i b k;split at A
     · rename_i l hb;obtain ⟨q,es,c,J,hw,hm,hn⟩:=hr.map hb;obtain ⟨h1,L⟩:=ie V;obtain ⟨q',C,hu⟩:=mO h1;rw [J] at C; cases C;split at A
       · rename_i aB e ae;split at A
         · rename_i aA av;replace A:=aZ A; obtain ⟨E,A⟩:=A;simp only [a9] at E;have aj:=wu av;have al:uO w.heap q.an (es.toList.map fun e=>(e.key,e.val)):=⟨es,c,hw,rfl⟩
           have ak:=sT hm E.2;have hi:=sN E.1 L;split at A
           · rename_i aC ai;cases A;obtain ⟨u,O,ab⟩:=Bq E.1 L hm E.2 ai;refine ⟨if ok then .tuple #[u,.bool true] else u,?_,Jd ae aj al ak hu U hi (by rw [E7]; exact hn) ab⟩;cases ok
             · exact O
             · simp [den,aK,O]
           · rename_i ai;have ab:=wq E.1 L hm E.2 ai;split at A
             · rename_i z ax;split at A
               · rename_i aD az;cases A;have O:=mb (r:=r) 4 az;refine ⟨if ok then .tuple #[z,.bool false] else z,?_,Je ae ax aj al ak hu U hi ab⟩;cases ok
                 · exact O
                 · simp [den,aK,O]
               · cases A
             · cases A
         · cases A
       · cases A
     · cases A
   · cases A
 · rename_i t u a;split at A
   · rename_i x;have M:=eK V;unfold zP at A;split at A
     · split at A
       · rename_i e he;replace A:=aZ A; obtain ⟨I,A⟩:=A;cases A;obtain ⟨q',cap,C,hn,hu,_⟩:=iK M;exact ⟨_,U,qi I hu (aV.nil _ _) U⟩
       · cases A
     · rename_i b o n c q _;split at A
       · rename_i l e _ _ hb;obtain ⟨q,us,J,Z,E,_⟩:=hr.cells hb;obtain ⟨q',cap,C,hn,hu,_⟩:=iK M;rw [J] at C; cases C;replace A:=aZ A; obtain ⟨I,A⟩:=A;simp only [a9] at I;have hle:=bM I.2;split at A
         · rename_i m hm;cases A;have h1:=je n<|jH o Z;have L:=ye hm h1;have hlen:=dd Z;have aw:m.length=n:=by
            have :=congrArg kE L;simp [oh] at this;omega
           refine ⟨_,U,qi I.1 hu ⟨fun _=>rfl,fun j u ac=> ?_⟩ aw⟩;rw [← L,iY] at ac;split at ac
           · rw [iE] at ac;show ay w.heap q.an (q.sh+o+j)=some u;rw [hJ]; exact E _ _ ac
           · cases ac
         · cases A
       · cases A
     · split at A
       · rename_i e he;replace A:=aZ A; obtain ⟨I,A⟩:=A;cases A;exact ⟨_,U,qi I (ik M) (aV.nil _ _) U⟩
       · cases A
     · rename_i b;split at A
       · rename_i l e hb;replace A:=aZ A; obtain ⟨I,A⟩:=A;cases A;obtain ⟨q,J,c,fr,us,h1,L,O,ab,ao,ap,ah,ar⟩:=hr.live b _ hb;obtain ⟨ad,am,rfl⟩:=ah.1 rfl;obtain ⟨q',C,hu⟩:=iJ M;rw [J] at C; cases C;rw [ad] at hu;have au:c=c.toList.toArray:=by simp
         rw [au] at h1;refine ⟨_,M.trans (congrArg some hu),?_⟩;rcases Eh.1 I with I | I
         · exact Dx I hu h1<|by simpa using am
         · exact A6 I hu h1<|by simpa using am
       · cases A
     · cases A
   · cases A
 · split at A
   · rename_i b;split at A
     · rename_i hb;split at A
       · rename_i n _ hn;cases A;obtain ⟨q,J,c,fr,us,h1,L,O,ab,ao,ap,ah,ar⟩:=hr.live b _ hb;obtain ⟨ad,_,_⟩:=ah.1 rfl;obtain ⟨q',C,hu⟩:=iJ<|eK V;rw [J] at C; cases C;rw [ad] at hu;exact ⟨_,by rw [lU J (aQ _),ad],FT hn hu⟩
       · cases A
     · cases A
   · cases A
 · rename_i ag t;split at A
   · rename_i b;split at A
     · rename_i l hb;obtain ⟨q,es,c,J,hw,hm,hn⟩:=hr.map hb;split at A
       · rename_i ae;rw [fK] at A; cases A;obtain ⟨ag⟩:=ag;have Z:=dd V;obtain ⟨x,rfl⟩:∃ x,ag= [x]:=rE.1<|by simpa [ga] using Z
         obtain ⟨q',C,hu⟩:=mO<|eK V;rw [J] at C; cases C;refine ⟨_,U,?_⟩;have :=Jg (dst:=dst) (ty:=ty) (pos :=pos) (af:=af) (g:=g) (P:=P) ae rfl hu hw;rw [this];have :=BR hm;rw [lz] at this;rw [this]
       · cases A
     · cases A
   · cases A
 · cases A
end
end Go.Hb
namespace Go.Hb
def Rn.ext (r:Rn) (i:Nat) (q:Loc):Rn:=fun k=>if k=i then some q else r k
theorem Rn.gJ (r:Rn) (i:Nat) (q:Loc):r.ext i q i=some q:=if_pos rfl
theorem Rn.jL (r:Rn) {i k:Nat} (q:Loc) (h:k≠i):r.ext i q k=r k:=if_neg h
theorem Rn.qG {r:Rn} {i:Nat} (q:Loc) (h:r i=none):r.le (r.ext i q):=fun k x A=>by
 by_cases e:k=i
 · subst e; rw [h] at A; cases A
 · rw [Rn.jL r q e]; exact A
theorem OR.obj {P:av} {r:Rn} {q:Loc} {o:AO} {ob:Option Obj} (h:OR P r q o ob):∃ b,ob=some b:=by
 cases o with
 | cells l e fz ex=>obtain ⟨c,fr,us,h1,_⟩:=h; exact ⟨_,h1⟩
 | map l=>obtain ⟨es,c,h1,_⟩:=h; exact ⟨_,h1⟩
 | loop st A n fr ps aT body D=>obtain ⟨_,_,_,h1,_⟩:=h; exact ⟨_,h1⟩
 | kO b=>exact ⟨_,h⟩
 | x9 l p=>exact ⟨_,h⟩
section
variable {P:av} {G:Nat} {r:Rn} {T:Nat} {h:Hp} {w:ah}
theorem n8.le {r s:Rn} (A:n8 G r) (h:r.le s):n8 G s:=fun g C=>let ⟨m,hm⟩:=A g C; ⟨m,h _ _ hm⟩
theorem HR.lt (hr:HR P G r T h w) {i:Nat} {o:AO} {q:Loc} (hi:h.t.get i=some o) (E:r i=some q):q.an < w.heap.size:=by
 obtain ⟨q',A,C⟩:=hr.live i o hi;rw [E] at A; cases A;obtain ⟨b,hb⟩:=C.obj;exact (dq.1 hb).1
theorem HR.put (hr:HR P G r T h w) {i V:Nat} {o:AO} {q:Loc} {r':Rn} {w':ah} (hle:r.le r') (hi:aE i cj=true) (U:r' i=some q) (ad:OR P r' q o w'.heap[q.an]?)
 (hw:∀ k,k≠q.an→k < w.heap.size→w'.heap[k]? =w.heap[k]?) (O:∀ j J q',j≠i→h.t.get j=some J→r j=some q'→q'.an≠q.an)
 (ac:h.nx≤V) (ab:∀ k,V≤k→k < T→r' k=none):HR P G r' T ⟨h.t.set i o,V⟩ w':=by
 refine ⟨fun j J A=> ?_,fun j k L M ag ai A E h1 I he=> ?_,ab,hr.fc.le hle,cG hr.base ac⟩
 · rw [Tr.kQ _ _ _ _ hi] at A;split at A
   · rename_i e; subst e; cases A; exact ⟨q,U,ad⟩
   · rename_i e;obtain ⟨q',h1,C⟩:=hr.live j J A;refine ⟨q',hle _ _ h1,?_⟩;rw [hw _ (O j J q' e A h1) (hr.lt A h1)];exact C.le hle
 · simp only [Tr.kQ _ _ _ _ hi] at A E;split at A
   · rename_i e;split at E
     · rename_i e'; rw [e,e']
     · rename_i e';exfalso;subst e;rw [U] at h1; cases h1;obtain ⟨q',C,_⟩:=hr.live k M E;rw [hle _ _ C] at I; cases I;exact O k M _ e' E C he.symm
   · rename_i e;split at E
     · rename_i e';exfalso;subst e';rw [U] at I; cases I;obtain ⟨q',C,_⟩:=hr.live j L A;rw [hle _ _ C] at h1; cases h1;exact O j L _ e A C he
     · obtain ⟨q',C,_⟩:=hr.live j L A;obtain ⟨ae,Z,_⟩:=hr.live k M E;rw [hle _ _ C] at h1; cases h1;rw [hle _ _ Z] at I; cases I;exact hr.inj j k L M _ _ A E C Z he
theorem HR.del (hr:HR P G r T h w) {i:Nat} (hi:aE i cj=true):HR P G r T ⟨h.t.del i,h.nx⟩ w:=by
 refine ⟨fun j o A=> ?_,fun j k E I J L A C=> ?_,hr.new,hr.fc,hr.base⟩
 · rw [Tr.oJ _ _ _ hi] at A;split at A
   · cases A
   · exact hr.live j o A
 · simp only [Tr.oJ _ _ _ hi] at A C;split at A
   · cases A
   · split at C
     · cases C
     · exact hr.inj j k E I J L A C
theorem Fr.set {g:Nat} {r':Rn} {i O:Nat} {o:AO} {q:Loc} (hi:aE i cj=true) (M:r' i=some q) (hle:r.le r') (hr:HR P G r T h w) {k:Nat} (L:Fr g r' ⟨h.t.set i o,O⟩ k):k=q.an∨Fr g r h k:=by
 obtain ⟨j,I,q',J,A,C,rfl⟩:=L;rw [Tr.kQ _ _ _ _ hi] at A;split at A
 · rename_i e; subst e; rw [M] at C; cases C; exact .inl rfl
 · obtain ⟨V,E,_⟩:=hr.live j I A;have :=hle _ _ E;rw [C] at this; cases this;exact .inr ⟨j,I,_,J,A,E,U⟩
def YM (P:av) (G:Nat) (r:Rn) (T:Nat) (N:Fm) (σ:Nat→ag) (o:aC) (h:Hp) (w:ah) (v:AV) (h':Hp):Prop :=
 ∃ r' u w',den r' v=some u∧((execOp (ev N σ) o).run P w= .ok (.value u) w'∨(execOp (ev N σ) o).run P w= .ok .skip w'∧u=undef)∧St P G T r h w r' h' w'
def cS (h:Hp) (o:AO):Option Hp:=cond (aE h.nx cj) (some ⟨h.t.set h.nx o,h.nx+1⟩) none
theorem JB (w:ah) (ob:Obj) (F:Nat→Prop):Md F w {w with heap:=w.heap.push ob} :=
 ⟨rfl,rfl,by simp,fun k A _=>by simp only [tZ]; rw [if_neg ab]⟩
theorem HR.cS (hr:HR P G r T h w) {o:AO} {h':Hp} (hn:cS h o=some h') (hT:h'.nx≤T) (room:Nat) {w':ah} {ob:Obj} (C:w'.heap=w.heap.push ob) (V:w'.os=w.os) (Z:w'.output=w.output) (U:∀ r',r.le r'→r' h.nx=some ⟨w.heap.size,0,room⟩→OR P r' ⟨w.heap.size,0,room⟩ o (some ob)):
 ∃ r',r' h.nx=some ⟨w.heap.size,0,room⟩∧St P G T r h w r' h' w':=by
 unfold Hb.cS at hn;replace hn:=aZ hn; obtain ⟨E,hn⟩:=hn;cases hn;simp only at hT;have hle:=Rn.qG (i:=h.nx) ⟨w.heap.size,0,room⟩<|hr.new h.nx (aQ _) ab;have I:∀ k,k < w.heap.size→w'.heap[k]? =w.heap[k]? :=fun k A=>by rw [C,tZ,if_neg ab]
 refine ⟨r.ext h.nx ⟨w.heap.size,0,room⟩,Rn.gJ _ _ _,hle,hr.put hle E (Rn.gJ _ _ _) ?_ (fun k _ O=>I k O) (fun j ae q' ad L ac=> ?_) (lJ _) (fun k A M=> ?_),lJ _,⟨V,Z,by rw [C]; simp,fun k A _=>I k A⟩,fun g _ k A J=> ?_,fun k A=>Rn.jL _ _<|by simp only at A; omega⟩
 · rw [C]; simp only [tZ,if_true]; exact U _ hle<|Rn.gJ _ _ _
 · have :=hr.lt L ac; simp only; omega
 · rw [Rn.jL _ _ ab]; exact hr.new k ab M
 · rcases Fr.set E (Rn.gJ _ _ _) hle hr J with h1 | h1
   · simp only at h1; omega
   · exact h1
theorem xl {r':Rn} {l:List AV} {us:List ag} {e b:Nat} (A:aK r' l=some us) (h1:dX l=true):OR P r' ⟨b,0,0⟩ (.cells l e 0 .x) (some<|.cells us.toArray e (0,0)):=
 ⟨us.toArray,(0,0),us,rfl,A,by simp [dd A],fun j u C=>by simpa using C,aQ _,oT A h1,⟨fun _=>⟨rfl,by simp [dd A],rfl⟩,fun _=>rfl⟩,fun s _=>by simp⟩
variable {N:Fm} {σ:Nat→ag} {dst:Option Nat} {ty:aw} {pos :String} {af:Array bR} {g:Option (Nat×Bool)} {x y z:aY}
theorem YM.new (hr:HR P G r T h w) {o:aC} {l:List AV} {us:List ag} {e:Nat} {h':Hp} {v:AV} {f:Nat→ag} (hn:Hb.cS h (.cells l e 0 .x)=some h') (hT:h'.nx≤T) (A:aK r l=some us) (h1:dX l=true)
 (I:(execOp (ev N σ) o).run P w= .ok (.value<|f w.heap.size) {w with heap:=w.heap.push<|.cells us.toArray e (0,0)}) (J:∀ r':Rn,r' h.nx=some ⟨w.heap.size,0,0⟩→den r' v=some (f w.heap.size)):YM P G r T N σ o h w v h':=by
 obtain ⟨r',C,E⟩:=hr.cS hn hT 0 (w':= {w with heap:=w.heap.push<|.cells us.toArray e (0,0)}) rfl rfl rfl fun r' hle _=>xl (ig hle A) h1;exact ⟨r',_,_,J r' C,.inl I,E⟩
theorem HR.kZ (hr:HR P G r T h w) {i:Nat} {o J:AO} {q:Loc} {w':ah} (hi:h.t.get i=some J) (hb:aE i cj=true) (C:r i=some q) (L:G≤i) (V:OR P r q o w'.heap[q.an]?) (hm:Md (fun k=>k=q.an) w w'):
 St P G T r h w r ⟨h.t.set i o,h.nx⟩ w':=by
 have I:∀ g,g≤G→Fr g r h q.an:=fun g A=>⟨i,J,q,cG A L,hi,C,rfl⟩
 refine ⟨Rn.le_refl r,hr.put (Rn.le_refl r) hb C V (fun k E U=>hm.dL k U E) (fun j Z ab O A h1 he=>O<|hr.inj j i _ _ _ _ A hi h1 C he) (aQ _) hr.new,aQ _,hm.mono fun k _ E=>by rw [E]; exact I G (aQ _),fun g A k _ M=> ?_,fun _ _=>rfl⟩;rcases Fr.set hb C (Rn.le_refl r) hr M with h1 | h1
 · rw [h1]; exact I g A
 · exact h1
end
end Go.Hb
namespace Go.Hb
def m4 (x v:AV):List (AV×AV)→List (AV×AV)
 | []=> [(x,v)]
 | p::l=>cond (fW p.1 x) ((p.1,v)::l) (p::m4 x v l)
def Bx:KK→Bool
 | .bs=>false
 | _=>true
def oZ (P:av) (t:aw) (b:Nat) (k v:AV) (h:Hp):Option Hp:=match h.t.get b with
 | some (.map l)=>match P.underlying t with
   | some (.map C e)=>match m5 P C k with
     | some A=>cond (aE b cj && (bh h.nx b==false) && (dF A k && ff A l) && (Bx A || (l5 k l).isNone)) (some ⟨h.t.set b (.map<|m4 k v l),h.nx⟩) none
     | none=>none
   | _=>none
 | _=>none
section
variable {P:av} {G:Nat} {r:Rn} {T:Nat} {h:Hp} {w:ah}
theorem BS {x v:AV} {kx u:ag} {C:KK} (J:dF C x=true) (A:den r x=some kx) (I:den r v=some u) {m:MapEntry} (mX:m.key=kx) (E:m.val=u):∀ {l:List (AV×AV)} {es:List MapEntry},fY r l es→ff C l=true→(∀ e∈es,e.key≠kx)→fY r (m4 x v l) (es++ [m])
 | [],[],_,_,_=>⟨by rw [mX]; exact A,by rw [E]; exact I,trivial⟩
 | [],_::_,hm,_,_=>hm.elim
 | _::_,[],hm,_,_=>hm.elim
 | q::l,e::es,hm,hk,hn=>by
   simp only [ff] at hk;cases h1:dF C q.1
   · rw [h1] at hk; cases hk
   · rw [h1] at hk;have he:fW q.1 x=false :=by
      cases hq:fW q.1 x
      · rfl
      · exact absurd ((kU h1 J hm.1 A).1 hq)<|hn e hH
     simp only [m4,he,cond_false];exact ⟨hm.1,hm.2.1,BS J A I mX E hm.2.2 hk fun e he=>hn e<|gZ _ he⟩
theorem BT {x v:AV} {kx u:ag} {A:KK} (E:dF A x=true) (C:den r x=some kx) (J:den r v=some u) {f:MapEntry→MapEntry} (I:∀ e,e.key=kx→(f e).key=kx∧(f e).val=u):∀ {l:List (AV×AV)} {es:List MapEntry} {j:Nat} {e':MapEntry},fY r l es→ff A l=true→
 es[j]? =some e'→e'.key=kx→(es.map fun e=>e.key).Nodup→fY r (m4 x v l) (es.modify j f)
 | [],[],j,e',_,_,hj,_,_=>by simp at hj
 | [],_::_,_,_,hm,_,_,_,_=>hm.elim
 | _::_,[],_,_,hm,_,_,_,_=>hm.elim
 | q::l,e::es,0,e',hm,hk,hj,hk',_=>by
   simp only [ff] at hk;cases h1:dF A q.1
   · rw [h1] at hk; cases hk
   · simp only [iD,bH] at hj;subst hj;simp only [m4,(kU h1 E hm.1 C).2 hk',cond_true];obtain ⟨L,M⟩:=I e hk';exact ⟨by show den r q.1=some (f e).key; rw [hm.1,L,hk'],by show den r v=some (f e).val; rw [M]; exact J,hm.2.2⟩
 | q::l,e::es,j+1,e',hm,hk,hj,hk',hn=>by
   simp only [ff] at hk;cases h1:dF A q.1
   · rw [h1] at hk; cases hk
   · rw [h1] at hk;simp only [iX] at hj;simp only [fq,uD] at hn;have he:fW q.1 x=false :=by
      cases hq:fW q.1 x
      · rfl
      · have :=(kU h1 E hm.1 C).1 hq;exact absurd (jv.2 ⟨e',j5 hj,hk'.trans this.symm⟩) hn.1
     simp only [m4,he,cond_false];exact ⟨hm.1,hm.2.1,BT E C J I hm.2.2 hk hj hk' hn.2⟩
theorem IU {k:aw} {a:AV} {A:KK} (h:m5 P k a=some A) (E:Bx A=true):∀ w v,oN A v→(rq v v).run P w= .ok v w:=by
 unfold m5 at h;split at h
 · replace h:=aZ h; obtain ⟨C,h⟩:=h;cases h;exact (Bs<|lY C).stays
 · split at h
   · cases h; exact (Br<|by assumption).stays
   · cases h
 · replace h:=aZ h; obtain ⟨C,h⟩:=h;cases h;cases E
 · cases h
theorem Ct (hr:HR P G r T h w) {t:aw} {b:Nat} {k v:AV} {h':Hp} {q:Loc} {kx u:ag} (O:G≤b) (hp:oZ P t b k v h=some h') (M:r b=some q) (E:den r k=some kx) (ak:den r v=some u):
 ∃ w',(yF t (.map<|some q.an) kx u).run P w= .ok () w'∧St P G T r h w r h' w':=by
 unfold oZ at hp;split at hp
 · rename_i l hb;split at hp
   · rename_i ax e aj;split at hp
     · rename_i au ad;replace hp:=aZ hp; obtain ⟨ab,hp⟩:=hp;simp only [a9] at ab;obtain ⟨⟨⟨Z,_⟩,hka,hkl⟩,hstay⟩:=ab;cases hp;obtain ⟨q',es,c,ai,hw,hm,hn⟩:=hr.map hb;rw [M] at ai; cases ai;have J:=wu ad;have hi:=sN hka E;have am:∀ e∈es.toList,oN au e.key:=sx rfl (sT hm hkl);have ae:=(dq.1 hw).1;rcases J.find w kx es.toList hi am with ⟨h1,ah⟩ | ⟨j,e',h1,C,A⟩
       · refine ⟨{w with heap:=w.heap.setIfInBounds q.an<|.map (es.push {key:=kx,val:=u,born:=c})<|c+1},by simp [yF,bA aj,run_getObj_map hw,J.check _ w kx hi,h1,setObj,lC,hw],?_⟩;refine hr.kZ hb Z M O ?_ ⟨U,U,by simp,fun i _ L=>by simp only; rw [yy (fun e=>L e.symm)]⟩;refine ⟨_,_,by simp only; rw [yz ae],?_,?_⟩
         · simp only [Ee];exact BS hka E ak U U hm hkl ah
         · simp only [Ee,gD,fq,List.map_nil];rw [List.nodup_append];refine ⟨hn,by simp,?_⟩;intro a ha av V al;simp at V;subst al V;obtain ⟨p,hp,ar⟩:=jv.1 ha;exact ah p hp ar
       · have ap:(rq kx kx).run P w= .ok kx w:=by
          rcases Eh.1 hstay with I | I
          · exact IU ad I w kx hi
          · exfalso;cases hg:l5 k l with
            | none=>exact wq hka E hm hkl hg e'.val<|by rw [← A]; exact jv.2 ⟨e',j5 C,rfl⟩
            | some v=>rw [hg] at I; cases I
         have ao:es[j]? =some e':=by simpa using C
         refine ⟨{w with heap:=w.heap.setIfInBounds q.an<|.map (es.modify j fun e=> {e with key:=kx,val:=u}) c},?_,?_⟩
         · simp [yF,bA aj,run_getObj_map hw,J.check _ w kx hi,h1,ao,A,ap,setObj,lC,hw]
         · refine hr.kZ hb Z M O ?_ ⟨U,U,by simp,fun i _ L=>by simp only; rw [yy (fun e=>L e.symm)]⟩;refine ⟨_,_,by simp only; rw [yz ae],?_,?_⟩
           · rw [Ed];exact BT hka E ak (fun e _=>⟨U,U⟩) hm hkl C A hn
           · rw [Ed];have :(es.toList.modify j fun e=> {e with key:=kx,val:=u}).map (fun e=>e.key)=es.toList.map fun e=>e.key:=by
              apply um;intro i;simp only [eV,List.getElem?_modify];by_cases ac:j=i
              · subst ac; rw [C]; simp [A]
              · simp [ac]
             rw [this]; exact hn
     · cases hp
   · cases hp
 · cases hp
end
def ko (A:List AV):Nat→List AV
 | 0=> []
 | n+1=>A++ko A n
def qZ (P:av) (G:Nat) (t:aw) (b o:Nat) (v:AV) (h:Hp):Option Hp:=match h.t.get b with
 | some (.cells l e fz ex)=>match cD P t with
   | some n=>cond ((aP (kJ v).length n && bh (o+n) l.length) && (bh fz o && (dX (kJ v) && (bh G b && aE b cj)))) (some ⟨h.t.set b (.cells (l.take o++(kJ v++l.drop (o+n))) e fz ex),h.nx⟩) none
   | none=>none
 | _=>none
def po (P:av) (t:aw):Option (Nat×Nat×Nat×List AV):=match P.underlying t with
 | some (.slice e)=>match P.info? e with
   | some i=>match i.zero with
     | some z=>match ki (jm 4) z.cells.toList with
       | some A=>cond (aP A.length i.size && (aE 0 i.size && dX A)) (some (e,i.size,i.bytes,A)) none
       | none=>none
     | none=>none
   | none=>none
 | _=>none
def oV (P:av) (G:Nat) (o:Op) (xs:List AV) (h:Hp):Option (AV×Hp):=match o with
 | .alloc e=>match zeroOf P e with
   | some (some A)=>match ki (jm 4) A with
     | some l=>cond (dX l) (match cS h (.cells l e 0 .x) with
       | some h'=>some (.ptr h.nx 0,h')
       | none=>none) none
     | none=>none
   | _=>none
 | .box e _=>match xs with
   | [x]=>cond (dX<|kJ x) (match cS h (.cells (kJ x) e 0 .x) with
     | some h'=>some (.ptr h.nx 0,h')
     | none=>none) none
   | _=>none
 | .makeMap _ none=>match cS h (.map []) with
   | some h'=>some (.map h.nx,h')
   | none=>none
 | .buildSlice t n ⟨ps⟩=>match po P t with
   | some (e,s,_,A)=>cond (bh (n*s) 16777216) (match mU (fun i=>some (i*s,s)) (ko A n) (lx ps xs) with
     | some l=>cond (dX l) (match cS h (.cells l e 0 .x) with
       | some h'=>some (.sl h.nx 0 n n true,h')
       | none=>none) none
     | none=>none) none
   | none=>none
 | .makeSlice t _ _=>match xs with
   | [.int .i64 (.ofNat n),.int .i64 (.ofNat c)]=>match po P t with
     | some (e,s,by_,A)=>cond (bh n c && (bh (by_*c) 281474976710656 && aE c 9223372036854775808)) (match cS h (.cells (ko A c) e 0 .x) with
       | some h'=>some (.sl h.nx 0 n c true,h')
       | none=>none) none
     | none=>none
   | _=>none
 | .store t _ _=>match xs with
   | [.ptr b o,v]=>match qZ P G t b o v h with
     | some h'=>some (.bV [],h')
     | none=>none
   | _=>none
 | .mapUpdate t _ _ _=>match xs with
   | [.map b,k,v]=>cond (bh G b) (match oZ P t b k v h with
     | some h'=>some (.bV [],h')
     | none=>none) none
   | _=>none
 | .insert t _ _ _=>match xs with
   | [.map b,k,v]=>cond (bh G b) (match oZ P t b k v h with
     | some h'=>some (.bV [],h')
     | none=>none) none
   | _=>none
 | _=>none
section
variable {P:av} {G:Nat} {r:Rn} {T:Nat} {h:Hp} {w:ah} {N:Fm} {σ:Nat→ag} {dst:Option Nat} {ty:aw} {pos :String} {af:Array bR} {g:Option (Nat×Bool)} {x y z:aY}
theorem iI (r:Rn):den r (.bV [])=some undef:=by simp [den,aK]; rfl
theorem tj {r:Rn} {A:List AV} {Z:List ag} (h:aK r A=some Z):∀ n,aK r (ko A n)=some ((dr n Z).flatten)
 | 0=>by simp [ko,aK]
 | n+1=>by simp only [ko,E9,nZ]; exact fv h<|tj h n
theorem Ce:∀ {l m:List AV},dX l=true→dX m=true→dX (l++m)=true
 | [],m,_,h=>h
 | a::l,m,h,h'=>by
   simp only [dX,List.cons_append] at h ⊢;cases ha:sX a
   · rw [ha] at h; cases h
   · rw [ha] at h; exact Ce h h'
theorem xu {A:List AV} (h:dX A=true):∀ n,dX (ko A n)=true
 | 0=>rfl
 | n+1=>Ce h<|xu h n
theorem xp (Z:Array ag) (A:0 < Z.size):∀ n,(lA<|n*Z.size).map (Z[· % Z.size]!)=((dr n Z.toList).flatten).toArray:=by
 intro n;apply ub.1;simp only [ix,Array.toList_range]
 induction n with
 | zero=>simp
 | succ n ih=>
   rw [Nat.succ_mul,Fe,List.range_add,gD,E9,nZ,E7];congr 1
   · apply um;intro i;simp only [eV];by_cases hi:i < Z.size
     · rw [List.getElem?_range hi,fC,Nat.mod_eq_of_lt hi];rw [getElem!_pos Z i hi];simp [hi]
     · rw [jt (by simp; omega),jt (by simp; omega)]; rfl
   · rw [← ih];apply List.map_congr_left;intro i _;simp
theorem tH {r:Rn} {t e s E:Nat} {C:List AV} (h:po P t=some (e,s,E,C)):∃ i z,P.underlying t=some (.slice e)∧P.info? e=some i∧i.zero=some z∧i.size=s∧i.bytes=E∧z.cells.size=s∧0 < s∧aK r C=some z.cells.toList∧dX C=true∧C.length=s:=by
 unfold po at h;split at h
 · rename_i e' hu;split at h
   · rename_i i hi;split at h
     · rename_i z L;split at h
       · rename_i O M;replace h:=aZ h; obtain ⟨A,h⟩:=h;simp only [a9] at A;cases h;have I:=oR (r:=r) (fun v a=>mb 4) M;have J:=bL A.1;have :=dd I;exact ⟨i,z,hu,hi,L,U,U,by rw [← lz]; omega,cC.1 A.2.1,I,A.2.2,J⟩
       · cases h
     · cases h
   · cases h
 · cases h
theorem LC (hr:HR P G r T h w) {t b o:Nat} {v:AV} {h':Hp} {u:ag} (A:qZ P G t b o v h=some h') (ay:den r v=some u) (az:den r (.ptr b o)=some (ev N σ x)) (aA:ev N σ y=u):YM P G r T N σ ⟨dst,.store t x y,ty,pos,af,g⟩ h w (.bV []) h':=by
 unfold qZ at A;split at A
 · rename_i l e fz ex hb;split at A
   · rename_i n hn;replace A:=aZ A; obtain ⟨ah,A⟩:=A;simp only [a9] at ah;obtain ⟨⟨I,c2⟩,c3,c4,J,c6⟩:=ah;have I:=bL I;have c2:=bM c2;have c3:=bM c3;have J:=bM J;cases A;obtain ⟨q,aj,c,fr,us,h1,M,aC,ac,ap,ad,ae,ar⟩:=hr.live b _ hb;obtain ⟨q',ak,hu⟩:=iJ az;rw [aj] at ak; cases ak;have V:=u7 ay;have aw:=dd V;have aE:=dd M;have ai:=oT V c4;have hlen:u.cells.toList.length=n:=by rw [aw,I]
     have bq:=run_storeCells_atF P q.an (q.sh+o) e fr u.cells.toList 0 c w h1 ab ab ai;unfold cD at hn;simp only [fQ] at hn;obtain ⟨i,hi,A⟩:=hn;have ax:u.cells.size=n:=by rw [← lz,hlen]
     obtain ⟨L,O⟩:∃ L,c.toList.take (q.sh+o+0)++u.cells.toList++c.toList.drop (q.sh+o+0 +u.cells.toList.length)=L:=⟨_,rfl⟩
     rw [O] at bq;have aD:L.length=c.size:=by rw [← O]; simp; omega
     have au:∀ k,L[k]? =if k < q.sh+o then c[k]? else if k < q.sh+o+n then u.cells.toList[k - (q.sh+o)]? else c[k]? :=by
      intro k;rw [← O,lI];by_cases E:k < q.sh+o
      · rw [if_pos E,gC,eU (by simp; omega),iY,if_pos E]; simp
      · rw [if_neg E];by_cases Z:k < q.sh+o+n
        · rw [if_pos Z,eU (by simp; omega),fm (by simp; omega)];congr 1; simp; omega
        · rw [if_neg Z,fm (by simp; omega),iE];simp only [bK,cV,lz,pG];congr 1; omega
     refine ⟨r,undef,w.setRow q.an L.toArray,iI r,.inr ⟨?_,U⟩,?_⟩
     · simp [execOp,Instr.storeAt,hu,aA,Instr.sureAddr,storeVar,sizeOf,dh hi,A,ax,bq]
     · refine hr.kZ hb c6 aj J ?_ ⟨U,U,by simp,fun k _ av=>setRow_other w q.an k _ av⟩;rw [setRow_heap w q.an _ _ e _ h1];refine ⟨L.toArray,fr,us.take o++(u.cells.toList++us.drop (o+n)),U,fv (je o M) (fv V<|jH (o+n) M),?_,fun j a C=> ?_,ap,?_,⟨fun hex=> ?_,ae.2⟩,fun s A=> ?_⟩
       · simp only [bK,cV,ju,eW]; omega
       · rw [lG,au];by_cases E:j < o
         · rw [eU (by simp; omega),iY,if_pos E] at C;rw [if_pos ab]; exact ac _ _ C
         · rw [fm (by simp; omega)] at C;rw [if_neg ab];have al:(us.take o).length=o:=by simp; omega
           rw [al] at C;by_cases Z:j < o+n
           · rw [eU ab] at C;rw [if_pos ab,show q.sh+j - (q.sh+o)=j - o from by omega]; exact C
           · rw [fm ab,iE,hlen] at C;rw [if_neg ab];refine ac j a ?_;rw [← C]; congr 1; omega
       · intro a ha;rcases dx.1 ha with ha | ha
         · exact ad a<|uB ha
         · rcases dx.1 ha with ha | ha
           · exact ai a ha
           · exact ad a<|uA ha
       · obtain ⟨am,aB,ao⟩:=ae.1 hex;refine ⟨am,?_,ao⟩;simp only [bK,cV,ju,eW]; omega
       · have :=ar s A;simp only [eW]; omega
   · cases A
 · cases A
end
end Go.Hb
namespace Go.Hb
section
variable {P:av} {G:Nat} {r:Rn} {T:Nat} {h:Hp} {w:ah} {N:Fm} {σ:Nat→ag} {dst:Option Nat} {ty:aw} {pos :String} {af:Array bR} {g:Option (Nat×Bool)} {x y z:aY}
theorem Ad {r':Rn} {i b room n c:Nat} (hi:r' i=some ⟨b,0,room⟩) (hn:n≤c):den r' (.sl i 0 n c true)=some (.slice (some ⟨b,0,none⟩) n c):=by
 rw [lU hi hn]
theorem HV {t e s n:Nat} {A L:List AV} {Z:ag} {ps:List (Nat×aY)} {xs:List AV} (ac:0 < s) (V:Z.cells.size=s) (U:aK r A=some Z.cells.toList) (M:mU (fun i=>some (i*s,s)) (ko A n) (lx ps xs)=some L) (J:aK r xs=some ((ps.map (·.2)).map<|ev N σ)):
 ∃ C,aK r L=some C∧iW (fun i=>some (i*s,s)) ((lA<|n*s).map (Z.cells[· % Z.cells.size]!)) (ps.map fun p=>(p.1,ev N σ p.2))=some C.toArray:=by
 obtain ⟨h1,E⟩:=yx (f:=ev N σ) J;obtain ⟨C,I,O⟩:=vJ M (tj U n) h1 E;refine ⟨C,I,?_⟩;rw [← O];congr 1;have :=xp Z.cells ab n;rw [V] at this ⊢;exact this
theorem J1 (hr:HR P G r T h w) {o:Op} {xs:List AV} {v:AV} {h':Hp} (A:oV P G o xs h=some (v,h')) (hT:h'.nx≤T) (O:aK r xs=some ((ga o).map<|ev N σ)):YM P G r T N σ ⟨dst,o,ty,pos,af,g⟩ h w v h':=by
 unfold oV at A;split at A
 · rename_i e;split at A
   · rename_i ao M;split at A
     · rename_i l ay;replace A:=aZ A; obtain ⟨E,A⟩:=A;split at A
       · rename_i J hn;cases A;have aw:=oR (r:=r) (fun v a=>mb 4) ay;unfold zeroOf at M;simp only [fQ] at M;obtain ⟨i,hi,zv,aF,rfl⟩:=M;refine YM.new hr (f:=fun b=> .pointer<|some ⟨b,0,none⟩) hn hT aw E ?_ fun r' I=>by simp only [den,I]
         simp [execOp,ug,zeroValue,dh hi,aF,newVar,newRow]
       · cases A
     · cases A
   · cases A
 · rename_i e _;split at A
   · rename_i x;replace A:=aZ A; obtain ⟨E,A⟩:=A;split at A
     · rename_i J hn;cases A;have h1:=eK O;refine YM.new hr (f:=fun b=> .pointer<|some ⟨b,0,none⟩) hn hT (u7 h1) E ?_ fun r' I=>by simp only [den,I]
       simp [execOp,Instr.box,newVar,newRow]
     · cases A
   · cases A
 · split at A
   · rename_i J hn;cases A;obtain ⟨r',aA,I⟩:=hr.cS hn hT 0 (w':= {w with heap:=w.heap.push<|.map #[] 0}) rfl rfl rfl fun r' hle _=>⟨#[],0,rfl,trivial,by simp⟩
     refine ⟨r',.map (some w.heap.size),_,by simp only [den,aA],.inl ?_,I⟩;simp [execOp,Instr.makeMap]
   · cases A
 · rename_i t n ps;split at A
   · rename_i e s ap ao M;replace A:=aZ A; obtain ⟨E,A⟩:=A;have E:=bM E;split at A
     · rename_i l ax;replace A:=aZ A; obtain ⟨h1,A⟩:=A;split at A
       · rename_i J hn;cases A;obtain ⟨i,zv,hu,hi,ah,rfl,rfl,V,al,ai,an,aE⟩:=tH (r:=r) M;obtain ⟨C,av,ac⟩:=HV (N:=N) (σ:=σ) (t:=t) (e:=e) al V ai ax O;refine YM.new hr (f:=fun b=> .slice (some ⟨b,0,none⟩) n n) hn hT av h1 ?_ fun r' I=>Ad I<|aQ _;have aG:(ps.toArray.map fun p=>(p.1,ev N σ p.2)).toList=ps.map fun p=>(p.1,ev N σ p.2):=by simp
         by_cases ak:n*i.size=0
         · have az:n=0:=by rcases Nat.mul_eq_zero.1 ak with h | h; exact h; omega
           subst az;have aj:∀ f:Nat→ag,Array.map f (lA 0)= #[]:=fun f=>Array.eq_empty_of_size_eq_zero<|by simp
           rw [pX,aj] at ac;simp [execOp,rp,bA hu,sizeOf,dh hi,aj,ac,newRow]
         · simp only [execOp,rp,iB,bA hu,gX,sizeOf,dh hi,kC,Sem.run_ite,zeroValue,ah,ix,ac];rw [if_neg (by rw [show (2:Nat) ^ 24=16777216 from rfl]; omega),if_neg ak];simp [newRow]
       · cases A
     · cases A
   · cases A
 · rename_i t _ _;split at A
   · rename_i n c;split at A
     · rename_i e s ap ao M;replace A:=aZ A; obtain ⟨E,A⟩:=A;simp only [a9] at E;have ar:=bM E.1;have c2:=bM E.2.1;have c3:=cC.1 E.2.2;split at A
       · rename_i J hn;cases A;obtain ⟨i,zv,hu,hi,ah,rfl,rfl,V,al,ai,an,aE⟩:=tH (r:=r) M;have am:=run_make (P:=P) w t e i zv hu hi ah .i64 .i64 n c ab ab (by rw [← Int.natCast_mul]; omega) ab;have au:madeCells zv.cells (c*i.size)=((dr c zv.cells.toList).flatten).toArray:=by
          have :=xp zv.cells ab c;rw [V] at this;rw [← this]; unfold madeCells; rw [V]
         rw [pO,pO,au] at am;refine YM.new hr (f:=fun b=> .slice (some ⟨b,0,none⟩) n c) hn hT (tj ai c) (xu an c) ?_ fun r' I=>Ad I ar;obtain ⟨h1,L⟩:=ie O;have aC:=cM h1;have aD:=cM L;simp [execOp,aC,aD,am]
       · cases A
     · cases A
   · cases A
 · split at A
   · split at A
     · rename_i J aB;cases A;obtain ⟨h1,L⟩:=ie O;exact LC hr aB L h1 U
     · cases A
   · cases A
 · split at A
   · replace A:=aZ A; obtain ⟨E,A⟩:=A;split at A
     · rename_i J hp;cases A;obtain ⟨h1,L,Z⟩:=lT O;obtain ⟨q,ad,hu⟩:=mO h1;obtain ⟨w',ae,I⟩:=Ct hr (bM E) hp ad L Z;exact ⟨r,undef,w',iI r,.inr ⟨by simp [execOp,hu,ae],U⟩,I⟩
     · cases A
   · cases A
 · split at A
   · replace A:=aZ A; obtain ⟨E,A⟩:=A;split at A
     · rename_i J hp;cases A;obtain ⟨h1,L,Z⟩:=lT O;obtain ⟨q,ad,hu⟩:=mO h1;obtain ⟨w',ae,I⟩:=Ct hr (bM E) hp ad L Z;exact ⟨r,undef,w',iI r,.inr ⟨by simp [execOp,hu,ae],U⟩,I⟩
     · cases A
   · cases A
 · cases A
end
end Go.Hb
namespace Go.Hb
def tP:List UInt8→List AV
 | []=> []
 | c::l=> .int .u8 (kD c.toNat)::tP l
def qh (o:Nat):Ck→Ck
 | .a=> .a
 | _=>match o with
   | 0=> .z
   | _=> .a
theorem zJ {o:Nat} {e:Ck} :qh o e≠.x:=by
 cases e <;> simp only [qh] <;> first | (intro h; cases h; done) | (split <;> intro h <;> cases h)
theorem Gx {o:Nat} {e:Ck} (h:qh o e≠.a):e≠.a∧o=0:=by
 cases e with
 | a=>exact absurd rfl h
 | _=>
   refine ⟨fun h=>(by cases h),?_⟩;simp only [qh] at h;split at h
   · rfl
   · exact absurd U h
def xY (P:av) (s:Nat) (A:aw) (x:AV) (h:Hp):Option (Nat×List AV):=match x with
 | .sl b o n _ _=>match h.t.get b with
   | some (.cells l _ _ _)=>cond (jS P A && bh (o+n*s) l.length) (some (n,(l.drop o).take (n*s))) none
   | _=>none
 | .aq=>cond (jS P A) (some (0,[])) none
 | .str l=>cond (isStr P A && aP s 1) (some (l.length,tP l)) none
 | _=>none
def uV (P:av) (G:Nat) (t C:aw) (A E:AV) (h:Hp):Option (AV×Hp):=match po P t with
 | some (e,s,by_,_)=>match xY P s C E h with
   | some (m,news)=>cond (dX news) (match A with
     | .aq=>match m with
       | 0=>some (.aq,h)
       | _=>cond (bh (m*by_) 140737488355328 && bh m 1000000000) (match cS h (.cells news e 0 .z) with
         | some h'=>some (.sl h.nx 0 m 0 false,h')
         | none=>none) none
     | .sl b o n c x=>match m with
       | 0=>some (.sl b o n c x,h)
       | _=>match h.t.get b with
         | some (.cells l e' fz ex)=>cond ((aP e e' && (bh ((n+m)*by_) 140737488355328 && bh (n+m) 1000000000)) && (bh (o+n*s) l.length && (bh G b && aE b cj)))
           (cond x (cond (bh (n+m) c)
            (cond (bh (o+(n+m)*s) l.length && bh fz (o+n*s)) (some (.sl b o (n+m) c true,⟨h.t.set b (.cells (l.take (o+n*s)++(news++l.drop (o+(n+m)*s))) e fz ex),h.nx⟩)) none)
            (match cS h (.cells ((l.drop o).take (n*s)++news) e 0 .z) with
             | some h'=>some (.sl h.nx 0 (n+m) 0 false,h')
             | none=>none))
            (cond (aP o (c*s) && bh fz (o+n*s)) (match cS ⟨h.t.del b,h.nx⟩ (.cells ((l.drop o).take (n*s)++news) e (fz - o)<|qh o ex) with
             | some h'=>some (.sl h.nx 0 (n+m) 0 false,h')
             | none=>none) none)) none
         | _=>none
     | _=>none) none
   | none=>none
 | none=>none
section
variable {P:av} {G:Nat} {r:Rn} {T:Nat} {h:Hp} {w:ah} {N:Fm} {σ:Nat→ag} {dst:Option Nat} {ty:aw} {pos :String} {af:Array bR} {g:Option (Nat×Bool)} {x y z:aY}
theorem DC:∀ l:List UInt8,aK r (tP l)=some (U8 l)
 | []=>by simp [tP,aK,U8]
 | c::l=>dQ rfl (DC l)
theorem Lm (hr:HR P G r T h w) {s m:Nat} {M:aw} {x:AV} {news:List AV} {u:ag} (he:xY P s M x h=some (m,news)) (h1:dX news=true) (hu:den r x=some u):∃ N,aK r news=some N∧Src P s M u m N w:=by
 unfold xY at he;split at he
 · rename_i b o n V Z;split at he
   · rename_i l _ _ _ hb;replace he:=aZ he; obtain ⟨A,he⟩:=he;simp only [a9] at A;cases he;obtain ⟨q,us,U,J,O,_⟩:=hr.cells hb;obtain ⟨q',cap,L,hn,rfl,_⟩:=iK hu;rw [U] at L; cases L;obtain ⟨e',E⟩:=qE A.1;have hle:=bM A.2;have hlen:=dd J;have I:=je (m*s)<|jH o J;refine ⟨_,I,Src.ofSlice w E _ _ _ _ (by simp; omega) (fun j u C=> ?_)<|oT I h1⟩;rw [eJ,jc,hJ];rw [iY] at C;split at C
     · rw [iE] at C; exact O _ _ C
     · cases C
   · cases he
 · replace he:=aZ he; obtain ⟨A,he⟩:=he;cases he;obtain rfl :=ik hu;obtain ⟨e',E⟩:=qE A;exact ⟨[],by simp [aK],Src.ofNil w E 0⟩
 · replace he:=aZ he; obtain ⟨A,he⟩:=he;simp only [a9] at A;cases he;obtain rfl :=gI hu;obtain rfl :=bL A.2;exact ⟨_,DC _,Src.ofString w (lY A.1) ⟨⟨_⟩⟩⟩
 · cases he
theorem zk {t J ty e:aw} {i:TypeInfo} (I:P.underlying t=some (.slice e)) (hi:P.info? e=some i) {x:ag} {news:List ag} (A:Src P i.size J x 0 news w) {base:Option Addr} {n c:Nat} (hn:n≤c):
 (j2 #[t,J] ty #[.slice base n c,x]).run P w= .ok (.slice base n c) w:=by
 have L:news= []:=j4<|by rw [A.newsLen]; simp
 subst L;have E:=A.cells;cases base with
 | none=>rcases A.kind with ⟨e',C⟩ | C <;> simp [j2,run_underlying I,run_underlying C,sizeOf,typeInfo,hi,A.len,hn,E]
 | some a=>rcases A.kind with ⟨e',C⟩ | C <;> simp [j2,run_underlying I,run_underlying C,sizeOf,typeInfo,hi,A.len,hn,E,storeCells]
theorem zl {t E ty e:aw} {i:TypeInfo} (I:P.underlying t=some (.slice e)) (hi:P.info? e=some i) {x:ag} {m:Nat} {news:List ag} (A:Src P i.size E x m news w) {b off n c:Nat} {cur:Array ag} {fz:Nat×Nat} (hn:n+m≤c)
 (hb:w.heap[b]? =some (.cells cur e fz)) (J:fz.2≤off+n*i.size) (L:off+n*i.size+news.length≤cur.size):
 (j2 #[t,E] ty #[.slice (some ⟨b,off,none⟩) n c,x]).run P w= .ok (.slice (some ⟨b,off,none⟩) (n+m) c) (w.setRow b (cur.toList.take (off+n*i.size)++news++cur.toList.drop (off+n*i.size+news.length)).toArray):=by
 have bq:=run_storeCells_atF P b (off+n*i.size) e fz news 0 cur w hb ab ab A.one;simp only [lI] at bq;rcases A.kind with ⟨e',C⟩ | C <;> simp [j2,run_underlying I,run_underlying C,sizeOf,typeInfo,hi,A.len,hn,A.cells,Addr.add_lit,bq]
theorem xG (L X:List ag) (a:Nat) (h:a+X.length≤L.length) (k:Nat):(L.take a++X++L.drop (a+X.length))[k]? =if k < a then L[k]? else if k < a+X.length then X[k - a]? else L[k]? :=by
 by_cases A:k < a
 · rw [if_pos A,gC,eU (by simp; omega),iY,if_pos A]
 · rw [if_neg A];by_cases C:k < a+X.length
   · rw [if_pos C,eU (by simp; omega),fm (by simp; omega)];congr 1; simp; omega
   · rw [if_neg C,fm (by simp; omega),iE];simp only [bK,cV];congr 1; omega
theorem zj {t A ty e:aw} {i:TypeInfo} {z:ag} (L:P.underlying t=some (.slice e)) (hi:P.info? e=some i) (M:i.zero=some z) (O:z.cells.size=i.size) (Z:0 < i.size) {x:ag} {m:Nat} {olds news:List ag} (I:Src P i.size A x m news w) {base:Option Addr} {n c:Nat}
 (J:olds.length=n*i.size) (hold:(uf i.size n<|.slice base n c).run P w.drew= .ok olds.toArray w.drew) (V:∀ u∈olds,u.oneCell'=true) (C:c < n+m) (U:n+m≤1000000000) (hb:(n+m)*i.bytes≤140737488355328):
 ∃ (cap:Nat) (cs:Array ag),n+m≤cap∧cap*i.size=cs.size∧(∀ (j:Nat) (u:ag),(olds++news)[j]? =some u→cs[j]? =some u)∧(j2 #[t,A] ty #[.slice base n c,x]).run P w= .ok (.slice (some ⟨w.heap.size,0,none⟩) (n+m) cap) {w.drew with heap:=w.heap.push<|.cells cs e (0,0)} :=by
 have hr:=run_append_grow_src (P:=P) w t A ty e i z L hi M base n c olds hold x m news I C ab<|growslice_fits C hb;refine ⟨_,_,grownCap_ge w (n+m) c e,?_,?_,hr⟩
 · have :=grownCap_ge w (n+m) c e;simp only [Array.size_append,eW,size_zeroCells,O,bK,J,I.newsLen,← mB];congr 1; omega
 · intro j u E;rw [Array.getElem?_append_left (by have :=(cB.1 E).1; simpa using this)];simpa using E
theorem HW (hr:HR P G r T h w) {b o n c s:Nat} {x:Bool} {l:List AV} {e fz:Nat} {ex:Ck} {us:List ag} {q:Loc} (hb:h.t.get b=some (.cells l e fz ex)) (L:r b=some q) (C:aK r l=some us) (hle:o+n*s≤l.length) (cap:Nat):
 (uf s n<|.slice (some ⟨q.an,q.sh+o,none⟩) n cap).run P w.drew= .ok ((us.drop o).take<|n*s).toArray w.drew:=by
 obtain ⟨q',M,I,E,J,_⟩:=hr.cells hb;rw [L] at I; cases I;rw [C] at E; cases E;have hlen:=dd C;refine run_firstCells_some (P:=P) w.drew s n _ n cap _ (by simp; omega) fun j u A=> ?_;rw [eJ,jc,hJ];rw [iY] at A;split at A
 · rw [iE] at A; exact J _ _ A
 · cases A
theorem FQ (hr:HR P G r T h w) {t ar:aw} {a3 a5 v:AV} {h':Hp} (ha:uV P G t ar a3 a5 h=some (v,h')) (hT:h'.nx≤T) (aB:den r a3=some (ev N σ x)) (bw:den r a5=some (ev N σ y)):YM P G r T N σ ⟨dst,.call ⟨.builtin .append,#[x,y],#[t,ar]⟩,ty,pos,af,g⟩ h w v h':=by
 have aj:∀ {u:ag} {w':ah},(j2 #[t,ar] ty #[ev N σ x,ev N σ y]).run P w= .ok u w'→(execOp (ev N σ) ⟨dst,.call ⟨.builtin .append,#[x,y],#[t,ar]⟩,ty,pos,af,g⟩).run P w= .ok (.value u) w':=by
  intro u w' h;simp [execOp,resolve,invoke,builtin,h]
 unfold uV at ha;split at ha
 · rename_i e s bB bP bx;obtain ⟨i,zv,hu,hi,a0,rfl,rfl,a1,aX,bI,bN,bJ⟩:=tH (r:=r) bx;split at ha
   · rename_i m news bu;replace ha:=aZ ha; obtain ⟨aV,ha⟩:=ha;obtain ⟨Nw,ao,O⟩:=Lm hr bu aV bw;have bf:=dd ao;have aM:=oT ao aV;split at ha
     · have ac:=ik aB;split at ha
       · cases ha;exact ⟨r,_,w,aB,.inl (aj<|by rw [ac]; exact zk hu hi O<|aQ _),St.refl hr⟩
       · rename_i aK;replace ha:=aZ ha; obtain ⟨C,ha⟩:=ha;simp only [a9] at C;have aC:=bM C.1;have c2:=bM C.2;have hm:0 < m:=Fl fun e=>aK<|by rw [e]
         split at ha
         · rename_i V hn;cases ha;obtain ⟨cap,cs,ad,ak,av,ax⟩:=zj (w:=w) (ty:=ty) (base:=none) (n:=0) (c:=0) (olds:= []) hu hi a0 a1 aX O (by simp) (run_firstCells_none (P:=P) w.drew i.size 0 0 0) (by simp) ab ab<|by rw [cH]; exact aC
           rw [cH] at ad ax;rw [List.nil_append] at av;obtain ⟨r',az,bq⟩:=hr.cS hn hT cap (w':= {w.drew with heap:=w.heap.push<|.cells cs e (0,0)}) rfl rfl rfl fun r' hle _=>by
            refine ⟨cs,(0,0),Nw,U,ig hle ao,?_,fun j u A=>by rw [cH]; exact av j u A,by simp,aM,⟨(fun h=>by cases h),fun _=>rfl⟩,fun s E=> ?_⟩
            · rw [cH,← bf,O.newsLen,← ak]; exact n5 _ ad
            · have :s=i.size:=by unfold cD at E; rw [hi] at E; simpa using E.symm
              rw [this,cH,ak]; exact aQ _
           refine ⟨r',_,_,?_,.inl (aj<|by rw [ac]; exact ax),bq⟩;rw [ow az (by simpa using ad)]; simp
         · cases ha
     · rename_i b o n c a4;obtain ⟨q,cap,ae,bp,ac,bj,bi⟩:=iK aB;split at ha
       · cases ha;exact ⟨r,_,w,aB,.inl (aj<|by rw [ac]; exact zk hu hi O bp),St.refl hr⟩
       · rename_i aK;have hm:0 < m:=Fl fun e=>aK<|by rw [e]
         split at ha
         · rename_i l e' fz ex hb;replace ha:=aZ ha; obtain ⟨C,ha⟩:=ha;simp only [a9] at C;obtain ⟨⟨aC,c2,c3⟩,aD,au,c6⟩:=C;obtain rfl :=bL aC;have c2:=bM c2;have c3:=bM c3;have aD:=bM aD;have au:=bM au;obtain ⟨q',ai,cc,fr,us,h1,Z,bE,aE,bb,aF,aG,aP⟩:=hr.live b _ hb;rw [ae] at ai; cases ai;have bH:=dd Z;have bm:=HW (s:=i.size) (x:=a4) (c:=c) hr hb ae Z aD;have holds:=je (n*i.size)<|jH o Z;have aL:((us.drop o).take<|n*i.size).length=n*i.size:=by simp; omega
           have aW:∀ u∈(us.drop o).take (n*i.size),u.oneCell'=true :=fun u hu=>aF u<|uA<|uB hu;have ay:=fv holds ao;have aS:∀ u∈(us.drop o).take (n*i.size)++Nw,u.oneCell'=true :=fun u hu=>(dx.1 hu).elim (aW u)<|aM u;have aT:∀ s,cD P e=some s→s=i.size:=fun s E=>by unfold cD at E; rw [hi] at E; simpa using E.symm
           have aU:((us.drop o).take (n*i.size)++Nw).length=(n+m)*i.size:=by rw [bK,aL,O.newsLen,mB]
           have grow:∀ {h0 V:Hp} {aO:Nat} {ck:Ck},ck≠.x→HR P G r T h0 w→St P G T r h w r h0 w→h0.nx=h.nx→cap < n+m→Hb.cS h0 (.cells ((l.drop o).take (n*i.size)++news) e aO ck)=some V→V.nx≤T→
            YM P G r T N σ ⟨dst,.call ⟨.builtin .append,#[x,y],#[t,ar]⟩,ty,pos,af,g⟩ h w (.sl h.nx 0 (n+m) 0 false) V:=by
            intro h0 V aO ck bg bt bv br J hn hT;obtain ⟨a6,cs,ad,ak,av,ax⟩:=zj (w:=w) (ty:=ty) (base:=some ⟨q.an,q.sh+o,none⟩) (n:=n) (c:=cap) hu hi a0 a1 aX O aL (bm cap) aW J c3 c2;obtain ⟨r',az,bq⟩:=bt.cS hn hT a6 (w':= {w.drew with heap:=w.heap.push<|.cells cs e (0,0)}) rfl rfl rfl fun r' hle _=>by
             refine ⟨cs,(0,0),_,U,ig hle ay,?_,fun j u A=>by rw [cH]; exact av j u A,by simp,aS,⟨fun h=>absurd h bg,fun _=>rfl⟩,fun s E=> ?_⟩
             · rw [cH,← dd ay,aU,← ak]; exact n5 _ ad
             · rw [aT s E,cH,ak]; exact aQ _
            rw [br] at az;refine ⟨r',_,_,?_,.inl (aj<|by rw [ac]; exact ax),St.trans bv bq⟩;rw [ow az (by simpa using ad)]; simp
           cases a4
           · obtain ⟨rfl,bG⟩:=bi rfl;simp only [cond_false] at ha;replace ha:=aZ ha; obtain ⟨C,ha⟩:=ha;simp only [a9] at C;have d1:=bL C.1;have d2:=bM C.2;split at ha
             · rename_i V hn;cases ha;have aA:=hr.del c6;have aY:St P G T r h w r ⟨h.t.del b,h.nx⟩ w:=⟨Rn.le_refl r,aA,aQ _,Md.refl _ _,fun g _ k _ aI=>by
                obtain ⟨j,a2,q',bc,A,ai,rfl⟩:=aI;rw [Tr.oJ _ _ _ c6] at A;split at A
                · cases A
                · exact ⟨j,a2,q',bc,A,ai,U⟩,fun _ _=>rfl⟩
               by_cases M:n+m≤q.room - c
               ·
                have bF:=aP i.size<|by unfold cD; rw [hi]; rfl
                have bD:q.sh+o+(n+m)*i.size≤cc.size:=by
                 have :(c+(n+m))*i.size≤q.room*i.size:=n5 _ ab;rw [mB] at this;omega
                have a7:Nw.length=m*i.size:=O.newsLen;have a8:(n+m)*i.size=n*i.size+m*i.size:=mB _ _ _;have ap:=zl (w:=w) (ty:=ty) (off :=q.sh+o) hu hi O M h1 ab ab;unfold Hb.cS at hn;replace hn:=aZ hn; obtain ⟨aH,hn⟩:=hn;cases hn;simp only at hT aH;have hle:=Rn.qG (i:=h.nx) ⟨q.an,q.sh+o,q.room - c⟩<|hr.new h.nx (aQ _) ab;obtain ⟨L,al⟩:∃ L,cc.toList.take (q.sh+o+n*i.size)++Nw++cc.toList.drop (q.sh+o+n*i.size+Nw.length)=L:=⟨_,rfl⟩
                have am:=xG cc.toList Nw (q.sh+o+n*i.size)<|by simp; omega
                rw [al] at ap am;have bd:L.length=cc.size:=by rw [← al]; simp; omega
                have aJ:=setRow_heap w q.an _ L.toArray e _ h1;have aR:∀ g,g≤G→Fr g r h q.an:=fun g J=>⟨b,_,q,cG J au,hb,ae,rfl⟩
                refine ⟨r.ext h.nx ⟨q.an,q.sh+o,q.room - c⟩,_,w.setRow q.an L.toArray,?_,.inl (aj<|by rw [ac]; exact ap),⟨hle,aA.put hle aH (Rn.gJ _ _ _) ?_ (fun k I _=>setRow_other w q.an k _ I) ?_ (lJ _) (fun k I bo=> ?_),lJ _,⟨U,U,by simp,fun k _ I=>setRow_other w q.an k _ fun e=>I<|by rw [e]; exact aR G<|aQ _⟩,fun g J k I aI=> ?_,fun k I=>Rn.jL _ _<|by simp only at I; omega⟩⟩
                · rw [ow (Rn.gJ _ _ _) (by simpa using M)]; simp
                · rw [aJ];refine ⟨L.toArray,fr,_,U,ig hle ay,?_,fun j u A=> ?_,by simp only; omega,aS,⟨fun h=>absurd h zJ,fun h=>by obtain ⟨h1,Z⟩:=Gx h; simp only; rw [aG.2 h1,Z]⟩,fun s E=> ?_⟩
                  · rw [← dd ay,aU]; simp only [eW]; omega
                  · simp only [lG];rw [am];by_cases aN:j < n*i.size
                    · rw [eU ab,iY,if_pos aN,iE] at A;rw [if_pos ab,pG,hJ]; exact aE _ _ A
                    · rw [fm ab,aL] at A;have :=(cB.1 A).1;rw [if_neg ab,if_pos ab,show q.sh+o+j - (q.sh+o+n*i.size)=j - n*i.size from by omega]; exact A
                  · rw [aT s E];simp only [eW];have :(c+(q.room - c))*i.size=q.room*i.size:=by congr 1; omega
                    rw [mB] at this;omega
                · intro j a2 q' A J ai he;rw [Tr.oJ _ _ _ c6] at J;split at J
                  · cases J
                  · rename_i bn;exact bn<|hr.inj j b _ _ _ _ J hb ai ae he
                · rw [Rn.jL _ _ (by simp only at I; omega)]; exact hr.new k (by simp only at I; omega) bo
                · rcases Fr.set aH (Rn.gJ _ _ _) hle aA aI with h1 | h1
                  · rw [h1]; exact aR g J
                  · exact aY.dW g J k I h1
               · exact grow zJ aA aY U ab hn hT
             · cases ha
           · obtain rfl :=bj rfl;simp only [cond_true] at ha;cases M:bh (n+m) cap
             · rw [M] at ha;simp only [cond_false] at ha;split at ha
               · rename_i V hn;cases ha;exact grow (fun h=>by cases h) hr (St.refl hr) U (by
                  rcases dD cap (n+m) with h | h
                  · exact h
                  · rw [yU h] at M; cases M) hn hT
               · cases ha
             · rw [M] at ha;simp only [cond_true] at ha;replace ha:=aZ ha; obtain ⟨C,ha⟩:=ha;simp only [a9] at C;have d1:=bM C.1;have d2:=bM C.2;have M:=bM M;cases ha;have a7:Nw.length=m*i.size:=O.newsLen;have a8:(n+m)*i.size=n*i.size+m*i.size:=mB _ _ _;have ap:=zl (w:=w) (ty:=ty) (off :=q.sh+o) hu hi O M h1 ab ab;obtain ⟨L,al⟩:∃ L,cc.toList.take (q.sh+o+n*i.size)++Nw++cc.toList.drop (q.sh+o+n*i.size+Nw.length)=L:=⟨_,rfl⟩
               have am:=xG cc.toList Nw (q.sh+o+n*i.size)<|by simp; omega
               rw [al] at ap am;have bd:L.length=cc.size:=by rw [← al]; simp; omega
               have aJ:=setRow_heap w q.an _ L.toArray e _ h1;refine ⟨r,_,w.setRow q.an L.toArray,lU ae M,.inl (aj<|by rw [ac]; exact ap),hr.kZ hb c6 ae au ?_ ⟨U,U,by simp,fun k _ I=>setRow_other w q.an k _ I⟩⟩;rw [aJ];have bl:=fv (je (o+n*i.size) Z)<|fv ao<|jH (o+(n+m)*i.size) Z;refine ⟨L.toArray,fr,_,U,bl,?_,fun j u A=> ?_,bb,?_,⟨fun hex=> ?_,aG.2⟩,fun s E=> ?_⟩
               · simp only [bK,cV,ju,eW]; omega
               · simp only [lG];rw [am];by_cases aN:j < o+n*i.size
                 · rw [eU (by simp; omega),iY,if_pos aN] at A;rw [if_pos ab,pG]; exact aE _ _ A
                 · rw [fm (by simp; omega)] at A;have ba:(us.take<|o+n*i.size).length=o+n*i.size:=by simp; omega
                   rw [ba] at A;rw [if_neg ab];by_cases bO:j < o+(n+m)*i.size
                   · rw [eU ab] at A;rw [if_pos ab,show q.sh+j - (q.sh+o+n*i.size)=j - (o+n*i.size) from by omega]; exact A
                   · rw [fm ab,iE] at A;rw [if_neg ab,pG];refine aE j u ?_;rw [← A]; congr 1; omega
               · intro a ha;rcases dx.1 ha with ha | ha
                 · exact aF a<|uB ha
                 · rcases dx.1 ha with ha | ha
                   · exact aM a ha
                   · exact aF a<|uA ha
               · obtain ⟨bz,x2,bA⟩:=aG.1 hex;refine ⟨bz,?_,bA⟩;simp only [bK,cV,ju,eW]; omega
               · have :=aP s E;simp only [eW]; omega
         · cases ha
     · cases ha
   · cases ha
 · cases ha
end
end Go.Hb
namespace Go.Hb
def ya (P:av) (G:Nat) (t:aw) (b o n c i:Nat) (h:Hp):Option (AV×Hp):=match cW P t with
 | some e=>cond (aP i n && (bh G b && aE b cj)) (match h.t.get b with
   | some (.cells l A fz ex)=>match cD P A with
     | some e'=>cond (aP e e' && (aP o (c*e) && bh (o+n*e) l.length)) (match cS ⟨h.t.del b,h.nx⟩ (.cells [] A fz .a) with
       | some h'=>some (.sl h.nx 0 0 0 false,h')
       | none=>none) none
     | none=>none
   | _=>none) none
 | none=>none
def xe (P:av) (t:aw) (n i j:Nat) (h:Hp):Option (AV×Hp):=match cW P t with
 | some _=>cond (aP i n && (aP j n && aE h.nx cj)) (some (.sl h.nx 0 0 0 false,⟨h.t,h.nx+1⟩)) none
 | none=>none
def vb (P:av) (G:Nat) (t:aw) (x:AV) (h:Hp):Option (AV×Hp):=match x with
 | .aq=>cond (jS P t) (some (.bV [],h)) none
 | .sl b o n c q=>match po P t with
   | some (e,s,_,zs)=>match n with
     | 0=>some (.bV [],h)
     | _=>match h.t.get b with
       | some (.cells l e' fz ex)=>cond ((bh (o+n*s) l.length && bh fz o) && (bh G b && aE b cj)) (some (.bV [],⟨h.t.set b (.cells (l.take o++(ko zs n++l.drop (o+n*s))) e' fz ex),h.nx⟩)) none
       | _=>none
   | none=>none
 | _=>none
def kT (x:AV):List (AV×AV)→List (AV×AV)
 | []=> []
 | p::l=>cond (fW p.1 x) l (p::kT x l)
def vp (P:av) (G:Nat) (t:aw) (b:Nat) (k:AV) (h:Hp):Option (AV×Hp):=match h.t.get b with
 | some (.map l)=>match P.underlying t with
   | some (.map C e)=>match m5 P C k with
     | some A=>cond ((bh G b && aE b cj) && (dF A k && ff A l)) (some (.bV [],⟨h.t.set b (.map<|kT k l),h.nx⟩)) none
     | none=>none
   | _=>none
 | _=>none
def yi (P:av) (G:Nat) (A:aw) (x y:AV) (h:Hp):Option (AV×Hp):=match x,y with
 | .ptr _ _,.int .i64 0=>some (.str [],h)
 | .gM,.int .i64 0=>some (.str [],h)
 | .ptr b 0,.int .i64 (.ofNat n)=>match h.t.get b with
   | some (.cells l e fz ex)=>match ex with
     | .a=>none
     | _=>cond ((ptrTo P A e && (bh n l.length && (aE 0 n && aE n 1000000000))) && (bh G b && aE b cj)) (match nn (l.take n) with
       | some m=>some (.str m,⟨h.t.set b (.cells l e (max fz n) .z),h.nx⟩)
       | none=>none) none
   | _=>none
 | _,_=>none
def ta (P:av) (G:Nat) (o:Op) (xs:List AV) (h:Hp):Option (AV×Hp):=match o with
 | .call ⟨.builtin .append,_,⟨[t,tx]⟩⟩=>match xs with
   | [s,x]=>uV P G t tx s x h
   | _=>none
 | .call ⟨.builtin .clear,_,⟨[t]⟩⟩=>match xs with
   | [x]=>vb P G t x h
   | _=>none
 | .call ⟨.builtin .delete,_,⟨[t,_]⟩⟩=>match xs with
   | [.map b,k]=>vp P G t b k h
   | _=>none
 | .call ⟨.builtin .unsafeSliceData,_,_⟩=>match xs with
   | [.aq]=>some (.gM,h)
   | [.sl b o n c x]=>cond (aE 0 n) (some (.ptr b o,h)) none
   | _=>none
 | .call ⟨.builtin .unsafeString,_,⟨[pt,_]⟩⟩=>match xs with
   | [x,y]=>yi P G pt x y h
   | _=>none
 | .slice t _ (some _) none none=>match xs with
   | [.sl b o n c false,.int _ (.ofNat i)]=>ya P G t b o n c i h
   | _=>none
 | .slice t _ (some _) (some _) none=>match xs with
   | [.sl b o n c false,.int _ (.ofNat i),.int _ (.ofNat j)]=>xe P t n i j h
   | _=>none
 | _=>none
inductive AD | mark (D:Nat) | fn (f:Nat) (args:List AV)
inductive EX | bC | ret | ext (id:Nat)
inductive Tk
 | cd (rd:Option Nat) (n:Nat) (c:bP) (fr:Tr AV) (D:List AD) (h:Hp)
 | lp (rd:Option Nat) (n:Nat) (c:bP) (fr:Tr AV) (D:List AD) (h:Hp)
 | cl (f:Nat) (args:List AV) (h:Hp)
 | yl (l:Nat) (args:List AV) (h:Hp)
 | df (f:Nat) (args:List AV) (h:Hp)
inductive Rs | no | cd (e:EX) (fr:Tr AV) (D:List AD) (h:Hp) | rv (v:AV) (h:Hp)
inductive Ro | no | v (x:AV) (h:Hp) | d (a:AD)
abbrev Xt:=Nat→Option (List AV→Hp→Option (AV×Hp))
def fN (n:Nat) (fr:Tr AV) (d:Option Nat) (v:AV):Option (Tr AV):=match d with
 | none=>some fr
 | some d=>cond (aE d n && aE d cj) (some<|fr.set d v) none
def r9 (X:Xt) (ih:Tk→Rs) (f:AV) (args:List AV) (h:Hp):Ro:=match f with
 | .fn f a c=>match X f with
   | some e=>match e (a++(args++c)) h with
     | some (v,h)=> .v v h
     | none=> .no
   | none=>match ih (.cl f (a++(args++c)) h) with
     | .rv v h=> .v v h
     | _=> .no
 | .gA l=>match ih (.yl l args h) with
   | .rv v h=> .v v h
   | _=> .no
 | _=> .no
def qP (P:av) (G:Nat) (X:Xt) (ih:Tk→Rs) (o:Op) (xs:List AV) (h:Hp):Ro:=match na P o xs with
 | some v=> .v v h
 | none=>match jn P o xs h with
   | some v=> .v v h
   | none=>match o with
     | .call ⟨.value _,_,_⟩=>match xs with
       | f::args=>r9 X ih f args h
       | []=> .no
     | .defer ⟨.value _,_,_⟩=>match xs with
       | .fn f a c::args=> .d<|.fn f<|a++(args++c)
       | _=> .no
     | _=>match oV P G o xs h with
       | some (v,h)=> .v v h
       | none=>match ta P G o xs h with
         | some (v,h')=>cond (bh h.nx h'.nx) (.v v h') .no
         | none=> .no
inductive Gd | y | n | no
def jN (n:Nat) (ops:List aC) (fr:Tr AV) (g:Option (Nat×Bool)):Gd:=match g with
 | none=> .y
 | some (j,want)=>match ops[j]? with
   | some o=>match o.dst with
     | some t=>cond (aE t n) (match dg fr t with
       | .bool b=>cond (b==want) .y .n
       | .bV []=> .n
       | _=> .no) .no
     | none=> .no
   | none=> .no
def jY (P:av) (G:Nat) (X:Xt) (ih:Tk→Rs) (rd:Option Nat) (n:Nat) (ops:List aC):List aC→Tr AV→List AD→Hp→Rs
 | [],fr,D,h=> .cd .bC fr D h
 | o::l,fr,D,h=>match jN n ops fr o.guard with
   | .y=>match kn G n fr (ga o.op) with
     | some xs=>match qP P G X ih o.op xs h with
       | .v v h=>match fN n fr o.dst v with
         | some fr=>jY P G X ih rd n ops l fr D h
         | none=> .no
       | .d a=>match rd with
         | none=>match fN n fr o.dst (.bV []) with
           | some fr=>jY P G X ih rd n ops l fr (a::D) h
           | none=> .no
         | some _=> .no
       | .no=> .no
     | none=> .no
   | .n=>match fN n fr o.dst (.bV []) with
     | some fr=>jY P G X ih rd n ops l fr D h
     | none=> .no
   | .no=> .no
def iL:Nat→List AV→Tr AV→Tr AV
 | _,[],fr=>fr
 | i,v::l,fr=>iL (i+1) l<|fr.set i v
def nf (n:Nat):List Nat→List AV→Tr AV→Option (Tr AV)
 | [],[],fr=>some fr
 | p::ps,v::vs,fr=>match fN n fr (some p) v with
   | some fr=>nf n ps vs fr
   | none=>none
 | _,_,_=>none
def iQ (P:av) (n:Nat) (fr:Tr AV) (h:Hp):List ResultVar→Option (List AV)
 | []=>some []
 | .tmp t::l=>match iQ P n fr h l with
   | some vs=>cond (aE t n) (some (dg fr t::vs)) none
   | none=>none
 | .cell a t::l=>match iQ P n fr h l with
   | some vs=>cond (aE a n) (match sO P t (dg fr a) h with
     | some v=>some (v::vs)
     | none=>none) none
   | none=>none
def nb:List AV→AV
 | [v]=>v
 | vs=> .bV vs
def jW (G:Nat) (ih:Tk→Rs):List AD→Hp→Option Hp
 | [],h=>some h
 | .mark d::l,h=>match h.t.get d with
   | some (.kO true)=>cond (bh G d && aE d cj) (jW G ih l ⟨h.t.set d (.kO false),h.nx⟩) none
   | _=>none
 | .fn f args::l,h=>match ih (.df f args h) with
   | .rv _ h=>jW G ih l h
   | _=>none
def AM:EX→Option bP
 | .bC=>none
 | .ret=>some .ret
 | .ext i=>some<|.exit i
def oA (G:Nat) (ih:Tk→Rs) (rd:Option Nat) (n:Nat) (fr:Tr AV) (D:List AD) (l:Nat) (h:Hp):Rs:=match h.t.get l with
 | some (.loop st A m C ps aT body d)=>match st with
   | .busy=> .no
   | _=>cond (bh G l && aE l cj) (match A with
     | none=> .cd .bC fr D ⟨h.t.set l (.loop .exhausted A m C ps aT body d),h.nx⟩
     | some c=>ih (.cd rd n c fr D ⟨h.t.set l (.loop .exhausted A m C ps aT body d),h.nx⟩)) .no
 | _=> .no
def o6 (ih:Tk→Rs) (G:Nat) (rd:Option Nat) (n:Nat) (g:aY) (ps:List Nat) (aT body:bP) (fr:Tr AV) (D:List AD) (h:Hp):Rs:=match km G n fr g with
 | some (.fn f a c)=>match rd with
   | none=>match cS h (.kO true) with
     | some h1=>match cS h1 (.loop .ready none n fr ps aT body h.nx) with
       | some A=>match ih (.cl f (a++(.gA h1.nx::c)) A) with
         | .rv _ C=>oA G ih rd n fr (.mark h.nx::D) h1.nx C
         | _=> .no
       | none=> .no
     | none=> .no
   | some E=>match h.t.get E with
     | some (.loop _ _ _ _ _ _ _ d)=>match cS h (.loop .ready none n fr ps aT body d) with
       | some A=>match ih (.cl f (a++(.gA h.nx::c)) A) with
         | .rv _ C=>oA G ih rd n fr D h.nx C
         | _=> .no
       | none=> .no
     | _=> .no
 | _=> .no
def rh (G:Nat) (ih:Tk→Rs) (l:Nat) (args:List AV) (h:Hp):Rs:=match h.t.get l with
 | some (.loop .ready J n fr ps aT body d)=>match nf n ps args fr with
   | some fr=>match ih (.cd (some l) n aT fr [] h) with
     | .cd .bC fr [] h=>match h.t.get l with
       | some (.loop .ready L C A M E I d1)=>cond (bh G l && aE l cj) (match ih (.cd (some l) n body fr [] ⟨h.t.set l (.loop .busy L C A M E I d1),h.nx⟩) with
         | .cd e fr [] h=>match h.t.get l with
           | some (.loop .busy J C A ps aT body d)=>match e with
             | .bC=> .rv (.bool true) ⟨h.t.set l (.loop .ready none C A ps aT body d),h.nx⟩
             | e=> .rv (.bool false) ⟨h.t.set l (.loop .done (AM e) C A ps aT body d),h.nx⟩
           | _=> .no
         | _=> .no) .no
       | _=> .no
     | _=> .no
   | none=> .no
 | _=> .no
mutual
def eL:AV→AV→Bool
 | .bool a,.bool b=>a==b
 | .int k a,.int k' b=>cond (aP (dK k)<|dK k') (decide (a=b)) false
 | .str l,.str m=>il l m
 | .ptr b o,.ptr b' o'=>aP b b' && aP o o'
 | .gM,.gM=>true
 | .sl b o n c x,.sl b' o' n' c' x'=>(aP b b' && aP o o') && (aP n n' && (aP c c' && (x==x')))
 | .aq,.aq=>true
 | .map b,.map b'=>aP b b'
 | .kh,.kh=>true
 | .fn f a c,.fn f' a' c'=>aP f f' && (jJ a a' && jJ c c')
 | .gA l,.gA l'=>aP l l'
 | .iP,.iP=>true
 | .fy t v,.fy t' v'=>aP t t' && eL v v'
 | .cK,.cK=>true
 | .agg l,.agg m=>jJ l m
 | .bV l,.bV m=>jJ l m
 | _,_=>false
def jJ:List AV→List AV→Bool
 | [],[]=>true
 | a::l,b::m=>cond (eL a b) (jJ l m) false
 | _,_=>false
end
def pq:List aY→List Nat
 | []=> []
 | .tmp t::l=>t::pq l
 | _::l=>pq l
def vV (ops:List aC) (g:Option (Nat×Bool)):List Nat:=match g with
 | none=> []
 | some (j,_)=>match ops[j]? with
   | some q=>match q.dst with
     | some t=> [t]
     | none=> []
   | none=> []
def o4 (ops:List aC) (o:aC):List Nat:=vV ops o.guard++pq (ga o.op)
def qJ (t:Nat):List Nat→Bool
 | []=>false
 | u::l=>cond (aP t u) true<|qJ t l
def sU (d:Option Nat) (l:List Nat):Bool:=match d with
 | some t=>qJ t l
 | none=>false
def ma (l:List Nat) (i:Nat):Nat:=kX l i 0
def l7 (acc:List Nat):List bR→Nat
 | []=>0
 | e::l=>cond (dG .any e && aE e.on acc.length) (Nat.lor (Nat.lor (Nat.pow 2 e.on)<|ma acc e.on)<|l7 acc l)<|l7 acc l
def ij:List aC→List Nat→List Nat
 | [],acc=>acc
 | o::l,acc=>ij l<|acc++ [l7 acc o.after.toList]
def jB (A:List Nat) (i j:Nat):Bool:=rM (ma A i) j
def qq (i:Nat):List bR→Bool
 | []=>true
 | e::l=>cond (dG .any e && !(aE e.on i)) false<|qq i l
def AE (a b:Option Nat):Bool:=match a,b with
 | some a,some b=>aP a b
 | _,_=>false
def sa (ops:List aC) (E:List Nat) (i:Nat) (A:aC):Nat→List aC→Bool
 | _,[]=>true
 | j,C::l=>cond (aE j i) ((!(AE A.dst C.dst) && (jB E i j || (!(sU C.dst<|o4 ops A) && !(sU A.dst<|o4 ops C)))) && sa ops E i A (j+1) l) true
def oq (ops:List aC) (A:List Nat):Nat→List aC→Bool
 | _,[]=>true
 | i,C::l=>(qq i C.after.toList && sa ops A i C 0 ops) && oq ops A (i+1) l
inductive Cs | s | p | l | a | c
structure Rec where
 k:Cs
 xs:List AV
 v:AV
 hb:Hp
 ha:Hp
def rX (P:av) (e:aw):Option (List AV):=match zeroOf P e with
 | some (some A)=>match ki (jm 4) A with
   | some l=>cond (dX l) (some l) none
   | none=>none
 | _=>none
def early (A:List Nat) (i:Nat) (last:Option Nat):Bool:=match last with
 | some c=> !(jB A i c)
 | none=>false
def xr (P:av) (G:Nat) (X:Xt) (ih:Tk→Rs) (fr:Bool) (o:Op) (xs:List AV) (h:Hp):Option Rec:=match na P o xs with
 | some v=>some ⟨.p,xs,v,h,h⟩
 | none=>match jn P o xs h with
   | some v=>some ⟨.l,xs,v,h,h⟩
   | none=>match fr,o with
     | true,.alloc e=>match rX P e with
       | some l=>match cS h (.cells l e 0 .x) with
         | some h'=>some ⟨.a,xs,.ptr h.nx 0,h,h'⟩
         | none=>none
       | none=>none
     | _,_=>match qP P G X ih o xs h with
       | .v v h'=>some ⟨.c,xs,v,h,h'⟩
       | _=>none
def IY (i:Nat) (last:Option Nat):Cs→Option Nat
 | .c=>some i
 | _=>last
def k9 (P:av) (G:Nat) (X:Xt) (ih:Tk→Rs) (n:Nat) (ops:List aC) (A:List Nat):Nat→Option Nat→List aC→Tr AV→Hp→Option (List Rec×Tr AV×Hp)
 | _,_,[],fr,h=>some ([],fr,h)
 | i,last,o::l,fr,h=>match jN n ops fr o.guard with
   | .y=>match kn G n fr (ga o.op) with
     | some xs=>match xr P G X ih (early A i last) o.op xs h with
       | some r=>match fN n fr o.dst r.v with
         | some fr=>match k9 P G X ih n ops A (i+1) (IY i last r.k) l fr r.ha with
           | some (rs,fr,h)=>some (r::rs,fr,h)
           | none=>none
         | none=>none
       | none=>none
     | none=>none
   | .n=>match fN n fr o.dst (.bV []) with
     | some fr=>match k9 P G X ih n ops A (i+1) last l fr h with
       | some (rs,fr,h')=>some (⟨.s,[],.bV [],h,h⟩::rs,fr,h')
       | none=>none
     | none=>none
   | .no=>none
def vA (a:Option AV) (v:AV):Bool:=match a with
 | some a=>eL a v
 | none=>false
def qN (P:av) (A:List Nat) (i:Nat) (o:Op) (xs:List AV) (v:AV):Nat→List Rec→Bool
 | _,[]=>true
 | j,q::l=>cond (match q.k with
   | .c=>cond (aE j i) (jB A i j || vA (jn P o xs q.hb) v) (jB A j i || vA (jn P o xs q.ha) v)
   | .a=> !(aE j i)
   | _=>true) (qN P A i o xs v (j+1) l) false
def qM (A:List Nat) (i:Nat):Nat→List Rec→Bool
 | _,[]=>true
 | j,q::l=>cond (match q.k with
   | .c=>cond (aE j i) (jB A i j) true
   | .a=>cond (aE j i) (jB A i j) true
   | _=>true) (qM A i (j+1) l) false
def kY (P:av) (A:List Nat) (rs:List Rec):Nat→List aC→List Rec→Bool
 | _,[],[]=>true
 | i,o::l,q::m=>cond (match q.k with
   | .l=>qN P A i o.op q.xs q.v 0 rs
   | .c=>qM A i 0 rs
   | _=>true) (kY P A rs (i+1) l m) false
 | _,_,_=>false
def sn (P:av) (G:Nat) (X:Xt) (ih:Tk→Rs) (n:Nat) (ops:List aC) (fr:Tr AV) (D:List AD) (h:Hp):Rs:=match ij ops [] with
 | A=>cond (oq ops A 0 ops) (match k9 P G X ih n ops A 0 none ops fr h with
   | some (rs,fr,h)=>cond (kY P A rs 0 ops rs) (.cd .bC fr D h) .no
   | none=> .no) .no
def fk (P:av) (G:Nat) (X:Xt) (ih:Tk→Rs):Tk→Rs
 | .cd rd n c fr D h=>match c with
   | .skip => .cd .bC fr D h
   | .region _ ⟨ops⟩ draw=>cond draw (sn P G X ih n ops fr D h)<|jY P G X ih rd n ops ops fr D h
   | .seq a b=>match ih (.cd rd n a fr D h) with
     | .cd .bC fr D h=>ih<|.cd rd n b fr D h
     | r=>r
   | .cond x a b=>match km G n fr x with
     | some (.bool true)=>ih<|.cd rd n a fr D h
     | some (.bool false)=>ih<|.cd rd n b fr D h
     | _=> .no
   | .block id c=>match ih (.cd rd n c fr D h) with
     | .cd (.ext j) fr D h=>cond (aP j id) (.cd .bC fr D h)<|.cd (.ext j) fr D h
     | r=>r
   | .loop c=>ih<|.lp rd n c fr D h
   | .rangeFunc g ⟨ps⟩ aT body=>o6 ih G rd n g ps aT body fr D h
   | .exit id=> .cd (.ext id) fr D h
   | .ret=> .cd .ret fr D h
   | _=> .no
 | .lp rd n c fr D h=>match ih (.cd rd n c fr D h) with
   | .cd .bC fr D h=>ih<|.lp rd n c fr D h
   | r=>r
 | .cl f args h=>match P.funcs[f]? with
   | some fn=>match fn.body with
     | some c=>cond (bh args.length fn.ntmps && aE fn.ntmps cj) (match ih (.cd none fn.ntmps c (iL 0 args .nil) [] h) with
       | .cd (.ext _) _ _ _=> .no
       | .cd _ fr D h=>match jW G ih D h with
         | some h=>match iQ P fn.ntmps fr h fn.results.toList with
           | some vs=> .rv (nb vs) h
           | none=> .no
         | none=> .no
       | _=> .no) .no
     | none=> .no
   | none=> .no
 | .yl l args h=>rh G ih l args h
 | .df f args h=>match P.funcs[f]? with
   | some fn=>match fn.body with
     | some c=>cond (bh args.length fn.ntmps && aE fn.ntmps cj) (match (match c with
       | .seq (.region _ ⟨⟨some d,.call ⟨.builtin .recover,⟨[]⟩,⟨[]⟩⟩,ty,pos,af,none⟩::rest⟩ false) y=>match fN fn.ntmps (iL 0 args .nil) (some d) .cK with
         | some fr=>match jY P G X ih none fn.ntmps (⟨some d,.call ⟨.builtin .recover,⟨[]⟩,⟨[]⟩⟩,ty,pos,af,none⟩::rest) rest fr [] h with
           | .cd .bC fr [] h=>ih<|.cd none fn.ntmps y fr [] h
           | _=> .no
         | none=> .no
       | c=>ih (.cd none fn.ntmps c (iL 0 args .nil) [] h)) with
       | .cd (.ext _) _ _ _=> .no
       | .cd _ fr [] h=>match iQ P fn.ntmps fr h fn.results.toList with
         | some vs=> .rv (nb vs) h
         | none=> .no
       | _=> .no) .no
     | none=> .no
   | none=> .no
def qC (c:Nat):List UInt8→Nat→Int
 | [],_=> -1
 | b::l,i=>cond (aP b.toNat c) (kD i)<|qC c l<|i+1
def yw (xs:List AV) (h:Hp):Option (AV×Hp):=match xs with
 | [.str l,.int .u8 (.ofNat c)]=>cond (aE c 256) (match fh .i64 (qC c l 0) with
   | some v=>some (v,h)
   | none=>none) none
 | _=>none
def yv (xs:List AV) (h:Hp):Option (AV×Hp):=match xs with
 | [x]=>some (x,h)
 | _=>none
end Go.Hb
namespace Go.Hb
section
variable {P:av} {G:Nat} {r:Rn} {T:Nat} {h:Hp} {w:ah} {N:Fm} {σ:Nat→ag} {dst:Option Nat} {ty:aw} {pos :String} {af:Array bR} {g:Option (Nat×Bool)} {x y z:aY}
theorem HR.CQ (hr:HR P G r T h w) {b o:Nat} {l news:List AV} {e fz:Nat} {ex:Ck} {q:Loc} {Nw:List ag} (hb:h.t.get b=some (.cells l e fz ex)) (ak:bh G b=true) (al:aE b cj=true) (O:r b=some q) (E:aK r news=some Nw) (h1:dX news=true) (hle:o+news.length≤l.length) (aw:fz≤o):
 ∃ c fr,w.heap[q.an]? =some (.cells c e fr)∧fr.2≤q.sh+o∧q.sh+o+Nw.length≤c.size∧(∀ u∈Nw,u.oneCell'=true)∧
   St P G T r h w r ⟨h.t.set b (.cells (l.take o++(news++l.drop (o+news.length))) e fz ex),h.nx⟩ (w.setRow q.an (c.toList.take (q.sh+o)++Nw++c.toList.drop (q.sh+o+Nw.length)).toArray):=by
 obtain ⟨q',V,c,fr,us,Z,I,az,ac,ap,ad,ae,ar⟩:=hr.live b _ hb;rw [O] at V; cases V;have ax:=dd E;have ay:=dd I;have M:=oT E h1;obtain ⟨L,C⟩:∃ L,c.toList.take (q.sh+o)++Nw++c.toList.drop (q.sh+o+Nw.length)=L:=⟨_,rfl⟩
 have J:=xG c.toList Nw (q.sh+o)<|by have :=lz (xs:=c); omega
 rw [C] at J;have av:L.length=c.size:=by rw [← C]; simp; omega
 refine ⟨c,fr,Z,ab,ab,M,?_⟩;rw [C];refine hr.kZ hb al O (bM ak) ?_ ⟨U,U,by simp,fun k _ am=>setRow_other w q.an k _ am⟩;rw [setRow_heap w q.an _ _ e _ Z];refine ⟨L.toArray,fr,_,U,fv (je o I) (fv E<|jH (o+news.length) I),?_,fun j a A=> ?_,ap,?_,⟨fun hex=> ?_,ae.2⟩,fun s ao=> ?_⟩
 · simp only [bK,cV,ju,eW]; omega
 · rw [lG,J];have ah:(us.take o).length=o:=by simp; omega
   by_cases m1:j < o
   · rw [eU ab,iY,if_pos m1] at A;rw [if_pos ab,pG]; exact ac _ _ A
   · rw [fm ab,ah] at A;rw [if_neg ab];by_cases aA:j < o+Nw.length
     · rw [eU ab] at A;rw [if_pos ab,show q.sh+j - (q.sh+o)=j - o from by omega]; exact A
     · rw [fm ab,iE] at A;rw [if_neg ab,pG];refine ac j a ?_;rw [← A]; congr 1; omega
 · intro a ha;rcases dx.1 ha with ha | ha
   · exact ad a<|uB ha
   · rcases dx.1 ha with ha | ha
     · exact M a ha
     · exact ad a<|uA ha
 · obtain ⟨ai,au,aj⟩:=ae.1 hex;refine ⟨ai,?_,aj⟩;simp only [bK,cV,ju,eW]; omega
 · have :=ar s ao;simp only [eW]; omega
theorem JS (hr:HR P G r T h w) {t b o n c i j:Nat} {h':Hp} {v:AV} {k am:bw} (hn:xe P t n i j h=some (v,h')) (hT:h'.nx≤T) (aj:den r (.sl b o n c false)=some (ev N σ x)) (ak:ev N σ y= .int k (kD i)) (al:ev N σ z= .int am (kD j)):YM P G r T N σ ⟨dst,.slice t x (some y) (some z) none,ty,pos,af,g⟩ h w v h':=by
 unfold xe at hn;split at hn
 · rename_i e he;replace hn:=aZ hn; obtain ⟨J,hn⟩:=hn;simp only [a9] at J;obtain rfl :=bL J.1;obtain rfl :=bL J.2.1;cases hn;simp only at hT;obtain ⟨q,au,ar,hu⟩:=sm aj;have ai:=xS (dst:=dst) (ty:=ty) (pos :=pos) (af:=af) (g:=g) (w:=w) he hu ak al ⟨fP _,Int.le_refl _,by simp; omega⟩;obtain ⟨ad,ac⟩:∃ ad:Nat,eo (some ⟨q.an,q.sh+o,none⟩) (q.room - c) j e=some ⟨q.an,ad,none⟩:=by
    unfold eo; split
    · exact ⟨_,U⟩
    · exact ⟨_,by rw [fC,eJ]⟩
   have hle:=Rn.qG (i:=h.nx) ⟨q.an,ad,q.room - c - j⟩<|hr.new h.nx (aQ _) ab;refine ⟨r.ext h.nx ⟨q.an,ad,q.room - c - j⟩,_,w,?_,.inl ai,hle,⟨fun j I C=> ?_,fun j k O V aw ao C E h1 A he=> ?_,fun k E ag=> ?_,hr.fc.le hle,cG hr.base<|lJ _⟩,lJ _,Md.refl _ _,fun g ap k E ae=> ?_,fun k E=>Rn.jL _ _<|by simp only at E; omega⟩
   · rw [ow (Rn.gJ _ _ _) (by simp)];simp [ac]
   · obtain ⟨q',h1,A⟩:=hr.live j I C;exact ⟨q',hle _ _ h1,A.le hle⟩
   · obtain ⟨q',L,_⟩:=hr.live j O C;obtain ⟨av,M,_⟩:=hr.live k V E;rw [hle _ _ L] at h1; cases h1;rw [hle _ _ M] at A; cases A;exact hr.inj j k O V _ _ C E L M he
   · simp only at E; rw [Rn.jL _ _ ab]; exact hr.new k ab ag
   · obtain ⟨j,I,q',Z,C,ah,rfl⟩:=ae;obtain ⟨ao,A,_⟩:=hr.live j I C;have :=hle _ _ A;rw [ah] at this; cases this;exact ⟨j,I,_,Z,C,A,U⟩
 · cases hn
theorem HR.Hi (hr:HR P G r T h w) {b:Nat} (hb:aE b cj=true):St P G T r h w r ⟨h.t.del b,h.nx⟩ w:=
 ⟨Rn.le_refl r,hr.del hb,aQ _,Md.refl _ _,fun g _ k _ E=>by
  obtain ⟨j,J,q',C,A,I,rfl⟩:=E;rw [Tr.oJ _ _ _ hb] at A;split at A
  · cases A
  · exact ⟨j,J,q',C,A,I,U⟩,fun _ _=>rfl⟩
theorem HR.JJ (hr:HR P G r T h w) {b:Nat} {o:AO} {q q':Loc} {h':Hp} {ob:AO} (hb:h.t.get b=some ob) (I:aE b cj=true) (L:r b=some q) (U:bh G b=true) (E:q'.an=q.an) (hn:Hb.cS ⟨h.t.del b,h.nx⟩ o=some h') (hT:h'.nx≤T) (ad:∀ r',r.le r'→OR P r' q' o w.heap[q.an]?):
 ∃ r',r' h.nx=some q'∧St P G T r h w r' h' w:=by
 have M:=hr.del I;have ag:=hr.Hi I;unfold Hb.cS at hn;replace hn:=aZ hn; obtain ⟨J,hn⟩:=hn;cases hn;simp only at hT J;have hle:=Rn.qG (i:=h.nx) q'<|hr.new h.nx (aQ _) ab;have O:∀ g,g≤G→Fr g r h q.an:=fun g A=>⟨b,_,q,cG A (bM U),hb,L,rfl⟩
 refine ⟨r.ext h.nx q',Rn.gJ _ _ _,hle,M.put hle J (Rn.gJ _ _ _) (by rw [E]; exact ad _ hle) (fun _ _ _=>rfl) (fun j ai aj ah A ae he=> ?_) (lJ _) (fun k C ac=> ?_),lJ _,Md.refl _ _,fun g A k C V=> ?_,fun k C=>Rn.jL _ _<|by simp only at C; omega⟩
 · rw [Tr.oJ _ _ _ I] at A;split at A
   · cases A
   · rename_i Z;exact Z<|hr.inj j b _ _ _ _ A hb ae L<|by rw [he,E]
 · simp only at C; rw [Rn.jL _ _ ab]; exact hr.new k ab ac
 · rcases Fr.set J (Rn.gJ _ _ _) hle M V with h1 | h1
   · rw [h1,E]; exact O g A
   · exact ag.dW g A k C h1
theorem LV (hr:HR P G r T h w) {t b o n c i:Nat} {h':Hp} {v:AV} {k:bw} (hn:ya P G t b o n c i h=some (v,h')) (hT:h'.nx≤T) (aj:den r (.sl b o n c false)=some (ev N σ x)) (ak:ev N σ y= .int k (kD i)):YM P G r T N σ ⟨dst,.slice t x (some y) none none,ty,pos,af,g⟩ h w v h':=by
 unfold ya at hn;split at hn
 · rename_i e he;replace hn:=aZ hn; obtain ⟨C,hn⟩:=hn;simp only [a9] at C;obtain rfl :=bL C.1;obtain ⟨_,M,O⟩:=C;split at hn
   · rename_i l aB fz ex hb;split at hn
     · rename_i e' E;replace hn:=aZ hn; obtain ⟨A,hn⟩:=hn;simp only [a9] at A;obtain rfl :=bL A.1;have d1:=bL A.2.1;have d2:=bM A.2.2;split at hn
       · rename_i ao ae;cases hn;obtain ⟨q,I,ar,hu⟩:=sm aj;obtain ⟨q',J,cc,fr,us,al,au,av,aw,ax,ay,az,am⟩:=hr.live b _ hb;rw [I] at J; cases J;have aA:=am e E;have ai:=xV (dst:=dst) (ty:=ty) (pos :=pos) (af:=af) (g:=g) (w:=w) he hu ak ⟨fP _,Int.le_refl _⟩;have ah:(c+i+(q.room - c - i))*e=q.room*e:=by congr 1; omega
         rw [mB,mB] at ah;obtain ⟨ad,V,ap,Z⟩:∃ ad:Nat,eo (some ⟨q.an,q.sh+o,none⟩) (q.room - c) i e=some ⟨q.an,ad,none⟩∧q.sh≤ad∧ad+(q.room - c - i)*e≤cc.size:=by
          unfold eo; split
          · rename_i h0;refine ⟨_,U,ab,?_⟩;rw [show q.room - c - i=0 from by omega,pX]; omega
          · exact ⟨q.sh+o+i*e,by rw [fC,eJ],ab,ab⟩
         obtain ⟨r',ag,bq⟩:=hr.JJ (q':=⟨q.an,ad,q.room - c - i⟩) hb O I M rfl ae hT fun r' hle=>by
          refine ⟨cc,fr,[],al,by simp [aK],by simp only [gY,lI]; omega,fun j u ac=>by simp at ac,by simp only; omega,fun u hu=>by simp at hu,⟨(fun h=>by cases h),fun h=>absurd U h⟩,fun s L=> ?_⟩;rw [E] at L; cases L;exact Z
         refine ⟨r',_,w,?_,.inl ai,bq⟩;rw [ow ag (by simp)];simp [V]
       · cases hn
     · cases hn
   · cases hn
 · cases hn
theorem Gy (hr:HR P G r T h w) {t:aw} {a v:AV} {h':Hp} (hn:vb P G t a h=some (v,h')) (M:den r a=some (ev N σ x)):YM P G r T N σ ⟨dst,.call ⟨.builtin .clear,#[x],#[t]⟩,ty,pos,af,g⟩ h w v h':=by
 have E:∀ {u:ag} {w':ah},(ue #[t] ty #[ev N σ x]).run P w= .ok u w'→(execOp (ev N σ) ⟨dst,.call ⟨.builtin .clear,#[x],#[t]⟩,ty,pos,af,g⟩).run P w= .ok (.value u) w':=by
  intro u w' h;simp [execOp,resolve,invoke,builtin,h]
 unfold vb at hn;split at hn
 · replace hn:=aZ hn; obtain ⟨A,hn⟩:=hn;cases hn;obtain ⟨e,he⟩:=qE A;have hu:=ik M;exact ⟨r,undef,w,iI r,.inl (E<|by rw [hu]; simp [ue,bA he]; rfl),St.refl hr⟩
 · rename_i b o n c q;split at hn
   · rename_i e s ap ao ac;obtain ⟨i,zv,hu,hi,ad,rfl,rfl,ak,av,ai,aj,ax⟩:=tH (r:=r) ac;obtain ⟨U,cap,Z,ar,O,_⟩:=iK M;split at hn
     · cases hn;exact ⟨r,undef,w,iI r,.inl (E<|by rw [O]; simp [ue,bA hu]; rfl),St.refl hr⟩
     · rename_i V;split at hn
       · rename_i l e' fz ex hb;replace hn:=aZ hn; obtain ⟨A,hn⟩:=hn;simp only [a9] at A;obtain ⟨⟨C,c2⟩,c3,c4⟩:=A;have C:=bM C;have c2:=bM c2;cases hn;have I:=tj ai n;have hlen:=dd I;have J:(ko ao n).length=n*i.size:=by
          rw [← hlen]; simp [List.length_flatten,ak]
         obtain ⟨cc,fr,al,ay,az,am,bq⟩:=hr.CQ (o:=o) hb c3 c4 Z I (xu aj n) (by rw [J]; exact C) c2;have L:=run_storeCells_atF P U.an (U.sh+o) e' fr _ 0 cc w al ab ab am;simp only [lI] at L;rw [J] at bq;refine ⟨r,undef,_,iI r,.inl (E ?_),bq⟩;rw [O];have ae:(Ek zv.cells n).toList=(dr n zv.cells.toList).flatten:=by
          have :=xp zv.cells ab n;have :=congrArg Array.toList this;simpa [Ek] using this
         have au:n≠0:=fun h=>V<|by rw [h]
         obtain ⟨m,rfl⟩:∃ m,n=m+1:=⟨n - 1,ab⟩
         simp [ue,bA hu,zeroValue,dh hi,ad,ae,L];rfl
       · cases hn
   · cases hn
 · cases hn
theorem BP {x:AV} {kx:ag} {A:KK} (E:dF A x=true) (C:den r x=some kx):∀ {l:List (AV×AV)} {es:List MapEntry} {j:Nat} {e':MapEntry},fY r l es→ff A l=true→
 es[j]? =some e'→e'.key=kx→(es.map fun e=>e.key).Nodup→fY r (kT x l) (es.eraseIdx j)
 | [],[],j,e',_,_,hj,_,_=>by simp at hj
 | [],_::_,_,_,hm,_,_,_,_=>hm.elim
 | _::_,[],_,_,hm,_,_,_,_=>hm.elim
 | q::l,e::es,0,e',hm,hk,hj,hk',_=>by
   simp only [ff] at hk;cases h1:dF A q.1
   · rw [h1] at hk; cases hk
   · simp only [iD,bH] at hj;subst hj;simp only [kT,(kU h1 E hm.1 C).2 hk',cond_true];exact hm.2.2
 | q::l,e::es,j+1,e',hm,hk,hj,hk',hn=>by
   simp only [ff] at hk;cases h1:dF A q.1
   · rw [h1] at hk; cases hk
   · rw [h1] at hk;simp only [iX] at hj;simp only [fq,uD] at hn;have he:fW q.1 x=false :=by
      cases hq:fW q.1 x
      · rfl
      · have :=(kU h1 E hm.1 C).1 hq;exact absurd (jv.2 ⟨e',j5 hj,hk'.trans this.symm⟩) hn.1
     simp only [kT,he,cond_false];exact ⟨hm.1,hm.2.1,BP E C hm.2.2 hk hj hk' hn.2⟩
theorem Bp {x:AV} {kx:ag} {A:KK} (E:dF A x=true) (C:den r x=some kx):∀ {l:List (AV×AV)} {es:List MapEntry},fY r l es→ff A l=true→(∀ e∈es,e.key≠kx)→kT x l=l
 | [],_,_,_,_=>rfl
 | q::l,[],hm,_,_=>hm.elim
 | q::l,e::es,hm,hk,hn=>by
   simp only [ff] at hk;cases h1:dF A q.1
   · rw [h1] at hk; cases hk
   · rw [h1] at hk;have he:fW q.1 x=false :=by
      cases hq:fW q.1 x
      · rfl
      · exact absurd ((kU h1 E hm.1 C).1 hq)<|hn e hH
     simp only [kT,he,cond_false,Bp E C hm.2.2 hk (fun e he=>hn e<|gZ _ he)]
theorem Hh (hr:HR P G r T h w) {t E:aw} {b:Nat} {k v:AV} {h':Hp} (hp:vp P G t b k h=some (v,h')) (ao:den r (.map b)=some (ev N σ x)) (C:den r k=some (ev N σ y)):YM P G r T N σ ⟨dst,.call ⟨.builtin .delete,#[x,y],#[t,E]⟩,ty,pos,af,g⟩ h w v h':=by
 have U:∀ {u:ag} {w':ah},(yC #[t,E] ty #[ev N σ x,ev N σ y]).run P w= .ok u w'→(execOp (ev N σ) ⟨dst,.call ⟨.builtin .delete,#[x,y],#[t,E]⟩,ty,pos,af,g⟩).run P w= .ok (.value u) w':=by
  intro u w' h;simp [execOp,resolve,invoke,builtin,h]
 unfold vp at hp;split at hp
 · rename_i l hb;split at hp
   · rename_i au e V;split at hp
     · rename_i ap aj;replace hp:=aZ hp; obtain ⟨I,hp⟩:=hp;simp only [a9] at I;obtain ⟨⟨ad,ae⟩,hka,hkl⟩:=I;cases hp;obtain ⟨q,es,c,M,hw,hm,hn⟩:=hr.map hb;obtain ⟨q',O,hu⟩:=mO ao;rw [M] at O; cases O;have A:=wu aj;have hi:=sN hka C;have ai:∀ e∈es.toList,oN ap e.key:=sx rfl (sT hm hkl);have ak:=(dq.1 hw).1;have st:∀ (es':Array MapEntry),fY r (kT k l) es'.toList→(es'.toList.map fun e=>e.key).Nodup→St P G T r h w r ⟨h.t.set b (.map<|kT k l),h.nx⟩ {w with heap:=w.heap.setIfInBounds q.an<|.map es' c} :=fun es' Z ab=>
        hr.kZ hb ae M (bM ad) ⟨es',c,by simp only; rw [yz ak],Z,ab⟩ ⟨rfl,rfl,by simp,fun i _ al=>by simp only; rw [yy (fun e=>al e.symm)]⟩
       rcases A.find w (ev N σ y) es.toList hi ai with ⟨h1,am⟩ | ⟨j,e',h1,L,ac⟩
       · refine ⟨r,undef,_,iI r,.inl (U ?_),st es (by rw [Bp hka C hm hkl am]; exact hm) hn⟩;rw [hu];simp [yC,bA V,run_getObj_map hw,A.check _ w _ hi,h1,setObj,lC,hw];rfl
       · have ar:=(cB.1 L).1;have J:(es.eraseIdxIfInBounds j).toList=es.toList.eraseIdx j:=by simp
         refine ⟨r,undef,_,iI r,.inl (U ?_),st (es.eraseIdxIfInBounds j) (by rw [J]; exact BP hka C hm hkl L ac hn) (by
          rw [J];exact List.Nodup.sublist (Np _<|List.eraseIdx_sublist _ _) hn)⟩
         rw [hu];simp [yC,bA V,run_getObj_map hw,A.check _ w _ hi,h1,setObj,lC,hw];rfl
     · cases hp
   · cases hp
 · cases hp
theorem Mf (hr:HR P G r T h w) {A it:aw} {a b v:AV} {h':Hp} (hp:yi P G A a b h=some (v,h')) (Z:den r a=some (ev N σ x)) (ac:den r b=some (ev N σ y)):YM P G r T N σ ⟨dst,.call ⟨.builtin .unsafeString,#[x,y],#[A,it]⟩,ty,pos,af,g⟩ h w v h':=by
 have O:∀ {u:ag} {w':ah},(Builtin.unsafeString_ #[A,it] ty #[ev N σ x,ev N σ y]).run P w= .ok u w'→(execOp (ev N σ) ⟨dst,.call ⟨.builtin .unsafeString,#[x,y],#[A,it]⟩,ty,pos,af,g⟩).run P w= .ok (.value u) w':=by
  intro u w' h;simp [execOp,resolve,invoke,builtin,h]
 have al:den r (.str [])=some (.string .empty):=rfl;unfold yi at hp;split at hp
 · cases hp;obtain ⟨q,M,hu⟩:=iJ Z;have E:=cM ac;exact ⟨r,_,w,al,.inl (O<|by rw [hu,E]; exact ED w A it ty _),St.refl hr⟩
 · cases hp;have hu:=oy Z;have E:=cM ac;exact ⟨r,_,w,al,.inl (O<|by rw [hu,E]; exact ED w A it ty _),St.refl hr⟩
 · rename_i I n _;split at hp
   · rename_i l e fz ex hb;have key:ex≠.a→cond ((ptrTo P A e && (bh n l.length && (aE 0 n && aE n 1000000000))) && (bh G I && aE I cj)) (match nn (l.take n) with
      | some m=>some (AV.str m,(⟨h.t.set I (.cells l e (max fz n) .z),h.nx⟩:Hp))
      | none=>none) none=some (v,h')→YM P G r T N σ ⟨dst,.call ⟨.builtin .unsafeString,#[x,y],#[A,it]⟩,ty,pos,af,g⟩ h w v h':=by
      intro hex hp;replace hp:=aZ hp; obtain ⟨ak,hp⟩:=hp;simp only [a9] at ak;obtain ⟨⟨C,ai,c2,c3⟩,hG,hbm⟩:=ak;have ai:=bM ai;have c2:=cC.1 c2;have c3:=cC.1 c3;split at hp
      · rename_i m hm;cases hp;obtain ⟨q,M,cc,fr,us,ad,ae,aC,ap,aD,aF,aG,aH⟩:=hr.live I _ hb;have V:=aG.2 hex;obtain ⟨q',ao,hu⟩:=iJ Z;rw [M] at ao; cases ao;have E:=cM ac;rw [V] at hu;have av:=je n ae;have aj:=ye hm av;have aI:=dd ae;have J:m.length=n:=by
         have :=congrArg kE aj;simp [oh] at this;omega
        unfold ptrTo at C;split at C
        · rename_i e' ax;simp only [a9,beq_iff_eq] at C;obtain ⟨rfl,ar⟩:=C;have aB:w.shape? q.an=some (e',cc.size):=by simp [World.shape?,ad]
          have L:m≠[]:=fun h=>by rw [h] at J; simp at J; omega
          have au:=Lib.run_unsafeString_row (P:=P) w A it ty e' ax ar q.an cc.size aB m L ab ab (fun j u ay=>by
           have h1:us[j]? =some (.int .u8 u.toNat):=by
            have :(us.take n)[j]? =some (.int .u8 u.toNat):=by rw [aj]; simp [U8,ay]
            rw [iY] at this;split at this
            · exact this
            · cases this
           rw [eJ,jc,bp ad,cH];have :=ap j _ h1;rwa [V,cH] at this)
          have am:lD w ⟨q.an,0,none⟩ m.length= {w with heap:=w.heap.modify q.an fun
           | .cells c elem (lo,hi)=> .cells c elem (if lo==hi then (0,0 +m.length) else (min lo 0,max hi (0 +m.length)))
           | o=>o} :=by
           unfold lD;rw [if_neg ab];rfl
          obtain ⟨lo,hi⟩:=fr;have aA:(lD w ⟨q.an,0,none⟩ m.length).heap[q.an]? =some (.cells cc e' (if lo==hi then (0,0 +m.length) else (min lo 0,max hi (0 +m.length)))):=by
           rw [am];simp only [Ea,if_true,ad];rfl
          refine ⟨r,.string ⟨m.toArray⟩,lD w ⟨q.an,0,none⟩ m.length,U,.inl (O ?_),hr.kZ hb hbm M (bM hG) ?_ ?_⟩
          · rw [hu,E,← J]; exact au
          · rw [aA];refine ⟨cc,_,us,U,ae,aC,ap,?_,aF,⟨(fun h=>by cases h),fun _=>V⟩,aH⟩;simp only at aD;split <;> simp only <;> omega
          · rw [am];exact ⟨U,U,by simp,fun k _ az=>by simp only [Ea]; rw [if_neg (fun e=>az e.symm)]⟩
        · cases C
      · cases hp
     split at hp
     · cases hp
     · rename_i L;exact key L hp
   · cases hp
 · cases hp
theorem J2 (hr:HR P G r T h w) {o:Op} {xs:List AV} {v:AV} {h':Hp} (A:ta P G o xs h=some (v,h')) (hT:h'.nx≤T) (I:aK r xs=some ((ga o).map<|ev N σ)):YM P G r T N σ ⟨dst,o,ty,pos,af,g⟩ h w v h':=by
 have two:∀ {a b:AV} {l:List aY},aK r [a,b]=some (l.map<|ev N σ)→∃ x y,l= [x,y]∧den r a=some (ev N σ x)∧den r b=some (ev N σ y):=by
  intro a b l h;have :=dd h;simp at this;obtain ⟨x,y,rfl⟩:∃ x y,l= [x,y]:=by
   match l,this with
   | [x,y],_=>exact ⟨x,y,rfl⟩
  exact ⟨x,y,U,ie h⟩
 have one:∀ {a:AV} {l:List aY},aK r [a]=some (l.map<|ev N σ)→∃ x,l= [x]∧den r a=some (ev N σ x):=by
  intro a l h;have :=dd h;simp at this;obtain ⟨x,rfl⟩:=rE.1 this;exact ⟨x,U,eK h⟩
 unfold ta at A;split at A
 · rename_i C t ae;split at A
   · obtain ⟨C⟩:=C;obtain ⟨x,y,rfl,E,J⟩:=two I;exact FQ hr A hT E J
   · cases A
 · rename_i C t;split at A
   · obtain ⟨C⟩:=C;obtain ⟨x,rfl,E⟩:=one I;exact Gy hr A E
   · cases A
 · rename_i C t Z;split at A
   · obtain ⟨C⟩:=C;obtain ⟨x,y,rfl,E,J⟩:=two I;exact Hh hr A E J
   · cases A
 · rename_i C ad;obtain ⟨C⟩:=C;split at A
   · cases A;obtain ⟨x,rfl,E⟩:=one I;exact ⟨r,_,w,U,.inl (yh (v:= .nilFunc) (ik E)<|.inl U),St.refl hr⟩
   · replace A:=aZ A; obtain ⟨M,A⟩:=A;have M:=cC.1 M;cases A;obtain ⟨x,rfl,E⟩:=one I;obtain ⟨q,cap,V,hn,hu,_⟩:=iK E;exact ⟨r,_,w,by simp only [den,V],.inl (yh (v:= .nilFunc) hu<|.inr ab),St.refl hr⟩
   · cases A
 · rename_i C ac it;split at A
   · obtain ⟨C⟩:=C;obtain ⟨x,y,rfl,E,J⟩:=two I;exact Mf hr A E J
   · cases A
 · split at A
   · obtain ⟨h1,L⟩:=ie I;exact LV hr A hT h1<|cM L
   · cases A
 · split at A
   · obtain ⟨h1,L,O⟩:=lT I;exact JS hr A hT h1 (cM L)<|cM O
   · cases A
 · cases A
end
end Go.Hb
namespace Go.Hb
def jK:EX→bd
 | .bC=> .normal
 | .ret=> .ret
 | .ext i=> .exit i
def jI (r:Rn):List AD→List Deferred→Prop
 | [],[]=>True
 | .mark d::l,x::m=>(∃ q,r d=some q∧x= {target:= .collected q.an,args:= #[]})∧jI r l m
 | .fn f args::l,x::m=>(∃ (a:List ag) (cap A:Array ag),aK r args=some a∧x= {target:= .fn (.func f) cap,args:=A}∧A++cap=a.toArray)∧jI r l m
 | _,_=>False
def qS (r:Rn):Option Nat→Option Nat→Prop
 | none,none=>True
 | some l,some k=> ∃ q,r l=some q∧q.an=k
 | _,_=>False
theorem mN {r s:Rn} (h:r.le s):∀ {D:List AD} {m:List Deferred},jI r D m→jI s D m
 | [],[],_=>trivial
 | [],_::_,h'=>h'.elim
 | .mark d::l,[],h'=>h'.elim
 | .fn f args::l,[],h'=>h'.elim
 | .mark d::l,x::m,⟨⟨q,h1,h2⟩,h3⟩=>⟨⟨q,h _ _ h1,h2⟩,mN h h3⟩
 | .fn f args::l,x::m,⟨⟨a,cap,as_,h1,h2⟩,h3⟩=>⟨⟨a,cap,as_,ig h h1,h2⟩,mN h h3⟩
theorem Cu {r s:Rn} (h:r.le s) {a b:Option Nat} (hr:qS r a b):qS s a b:=by
 cases a <;> cases b
 · trivial
 · exact hr.elim
 · exact hr.elim
 · obtain ⟨q,h1,A⟩:=hr; exact ⟨q,h _ _ h1,A⟩
theorem ee.le {r s:Rn} (h:r.le s) {n:Nat} {fr:Tr AV} {σ:Nat→ag} (A:ee r n fr σ):ee s n fr σ:=fun i hi=>kN h<|A i hi
def dy (P:av) (G:Nat) (rd:Option Nat) (n:Nat) (W:Option Nat→(bd→Act→ah→Prop)→Act→ah→Prop) (fr:Tr AV) (D:List AD) (h:Hp) (e:EX) (E:Tr AV) (C:List AD) (h':Hp):Prop :=
 h.nx≤h'.nx∧∀ (T:Nat) (r:Rn) (w:ah) (σ:Nat→ag) (Dl:List Deferred) (rr:Option Nat) (Q:bd→Act→ah→Prop),h'.nx≤T→HR P G r T h w→ee r n fr σ→jI r D Dl→qS r rd rr→
  (∀ (r':Rn) (w':ah) (σ':Nat→ag) (A:List Deferred),St P G T r h w r' h' w'→ee r' n E σ'→jI r' C A→Q (jK e) (act ⟨n,A,[],rr⟩ σ') w')→W rr Q (act ⟨n,Dl,[],rr⟩ σ) w
def jA (P:av) (G:Nat) (f:Nat) (args:List AV) (h:Hp) (v:AV) (h':Hp):Prop :=
 h.nx≤h'.nx∧∀ (T:Nat) (r:Rn) (w:ah) (L:List ag),h'.nx≤T→HR P G r T h w→aK r args=some L→bo P f L.toArray w fun u w'=> ∃ r',den r' v=some u∧St P G T r h w r' h' w'
def uR (P:av) (G:Nat) (l:Nat) (args:List AV) (h:Hp) (v:AV) (h':Hp):Prop :=
 h.nx≤h'.nx∧∀ (T:Nat) (r:Rn) (w:ah) (L:List ag) (q:Loc),h'.nx≤T→HR P G r T h w→aK r args=some L→r l=some q→YieldAt eR 0 P q.an L.toArray w fun e w'=> ∃ u r',e= .returned u∧den r' v=some u∧St P G T r h w r' h' w'
def Fz (P:av) (G:Nat) (f:Nat) (args:List AV) (h h':Hp):Prop :=
 h.nx≤h'.nx∧∀ (T:Nat) (r:Rn) (w:ah) (L:List ag),h'.nx≤T→HR P G r T h w→aK r args=some L→CallsDIn eR 0 P f L.toArray .returning w fun e A w'=> ∃ v,e= .returned v∧A= .returning∧∃ r',St P G T r h w r' h' w'
def tW (P:av) (c:bP) (rr:Option Nat) (Q:bd→Act→ah→Prop) (a:Act) (w:ah):Prop :=
 ∀ (b:Frame) (k:List Item) (cs:List Frame),b.roundOf=(fe rr).round→(fe rr).fn b.fn→(fe rr).room (cs.length+1 +0)→
   ∃ e A w',Q e A w'∧ArrivesIn (Machine.fenced P<|fe rr) P (lone (b.atR a (.code c:: .inLoop c::k)) cs w) b k cs e A w'
def lN (P:av) (G:Nat):Tk→Rs→Prop
 | .cd rd n c fr D h,.cd e fr' D' h'=>dy P G rd n (fun rr Q a w=>c.wpIn (fe rr) 0 P Q a w) fr D h e fr' D' h'
 | .lp rd n c fr D h,.cd e fr' D' h'=>dy P G rd n (tW P c) fr D h e fr' D' h'
 | .cl f args h,.rv v h'=>jA P G f args h v h'
 | .yl l args h,.rv v h'=>uR P G l args h v h'
 | .df f args h,.rv v h'=>Fz P G f args h h'
 | _,.no=>True
 | _,_=>False
def Good (P:av) (G:Nat) (ih:Tk→Rs):Prop := ∀ t,lN P G t (ih t)
def iG (P:av) (G:Nat) (X:Xt):Prop := ∀ f e,X f=some e→∀ xs h v h',e xs h=some (v,h')→h.nx≤h'.nx∧∀ (T:Nat) (r:Rn) (w:ah) (us:List ag),h'.nx≤T→HR P G r T h w→aK r xs=some us→
 ∃ r' u w',den r' v=some u∧(callFunc f us.toArray).run P w= .ok (.value u) w'∧St P G T r h w r' h' w'
def gj (P:av):Prop := ∀ f fn c,P.funcs[f]? =some fn→fn.body=some c→gk P f
section
variable {P:av} {G:Nat} {r:Rn} {T:Nat} {h:Hp} {w:ah} {N:Fm} {σ:Nat→ag} {dst:Option Nat} {ty:aw} {pos :String} {af:Array bR} {g:Option (Nat×Bool)} {x y z:aY} {K:Act→ah→Prop} {Q:bd→Act→ah→Prop}
theorem tV {o:aC} (hn:∀ c,o.op≠.defer c) {u:ag} {w':ah} (hr:(execOp (ev N σ) o).run P w= .ok (.value u) w'∨(execOp (ev N σ) o).run P w= .ok .skip w'∧u=undef) (A:K ((act N σ).put o.dst u) w'):o.wpIn (fe N.r) 0 P (act N σ) w K Q:=by
 refine ⟨fun f _=>ka _ f,?_⟩;rw [mS,rA _ _ _ hn,dt];rcases hr with hr | ⟨hr,rfl⟩
 · rw [hr]; exact A
 · rw [hr]; exact A
theorem zE {f:Nat} {fo:aY} {first cap:Array ag} {args:Array aY} {A:Array aw} (C:ev N σ fo= .func (.func f) first cap):(execOp (ev N σ) ⟨dst,.call ⟨.value fo,args,A⟩,ty,pos,af,g⟩).run P w=(callFunc f<|first++args.map (ev N σ)++cap).run P w:=by
 simp only [execOp,resolve,C,lB,iB,kC,gX,invoke]
end
end Go.Hb
namespace Go.Hb
section
variable {P:av} {G:Nat} {h:Hp}
theorem kg {o:AO} {h':Hp} (hn:cS h o=some h'):h'.nx=h.nx+1:=by
 unfold cS at hn;replace hn:=aZ hn; obtain ⟨_,hn⟩:=hn;cases hn; rfl
theorem Cr {t:aw} {b:Nat} {k v:AV} {h':Hp} (hp:oZ P t b k v h=some h'):h'.nx=h.nx:=by
 unfold oZ at hp;split at hp
 · split at hp
   · split at hp
     · replace hp:=aZ hp; obtain ⟨_,hp⟩:=hp; cases hp; rfl
     · cases hp
   · cases hp
 · cases hp
theorem LB {t b o:Nat} {v:AV} {h':Hp} (A:qZ P G t b o v h=some h'):h'.nx=h.nx:=by
 unfold qZ at A;split at A
 · split at A
   · replace A:=aZ A; obtain ⟨_,A⟩:=A; cases A; rfl
   · cases A
 · cases A
theorem J0 {o:Op} {xs:List AV} {v:AV} {h':Hp} (A:oV P G o xs h=some (v,h')):h.nx≤h'.nx:=by
 unfold oV at A;split at A
 · split at A
   · split at A
     · replace A:=aZ A; obtain ⟨_,A⟩:=A;split at A
       · rename_i hn; cases A; have :=kg hn; omega
       · cases A
     · cases A
   · cases A
 · split at A
   · replace A:=aZ A; obtain ⟨_,A⟩:=A;split at A
     · rename_i hn; cases A; have :=kg hn; omega
     · cases A
   · cases A
 · split at A
   · rename_i hn; cases A; have :=kg hn; omega
   · cases A
 · split at A
   · replace A:=aZ A; obtain ⟨_,A⟩:=A;split at A
     · replace A:=aZ A; obtain ⟨_,A⟩:=A;split at A
       · rename_i hn; cases A; have :=kg hn; omega
       · cases A
     · cases A
   · cases A
 · split at A
   · split at A
     · replace A:=aZ A; obtain ⟨_,A⟩:=A;split at A
       · rename_i hn; cases A; have :=kg hn; omega
       · cases A
     · cases A
   · cases A
 · split at A
   · split at A
     · rename_i C; cases A; have :=LB C; omega
     · cases A
   · cases A
 · split at A
   · replace A:=aZ A; obtain ⟨_,A⟩:=A;split at A
     · rename_i hp; cases A; have :=Cr hp; omega
     · cases A
   · cases A
 · split at A
   · replace A:=aZ A; obtain ⟨_,A⟩:=A;split at A
     · rename_i hp; cases A; have :=Cr hp; omega
     · cases A
   · cases A
 · cases A
end
section
variable {P:av} {G:Nat} {X:Xt} {ih:Tk→Rs} {n:Nat}
def j8 (P:av) (G:Nat) (o:Op) (xs:List AV) (h:Hp) (v:AV) (h':Hp):Prop :=
 h.nx≤h'.nx∧∀ (T:Nat) (r:Rn) (w:ah) (N:Fm) (σ:Nat→ag) (dst:Option Nat) (ty:aw) (pos :String) (af:Array bR) (g:Option (Nat×Bool)) (K:Act→ah→Prop) (Q:bd→Act→ah→Prop),h'.nx≤T→HR P G r T h w→aK r xs=some ((ga o).map<|ev N σ)→
  (∀ (r':Rn) (u:ag) (w':ah),den r' v=some u→St P G T r h w r' h' w'→K ((act N σ).put dst u) w')→(Oper.mk dst o ty pos af g).wpIn (fe N.r) 0 P (act N σ) w K Q
theorem j8.run {o:Op} {xs:List AV} {h h':Hp} {v:AV} (hn:∀ c,o≠.defer c) (L:h.nx≤h'.nx)
 (hr:∀ (T:Nat) (r:Rn) (w:ah) (N:Fm) (σ:Nat→ag) (dst:Option Nat) (ty:aw) (pos :String) (af:Array bR) (g:Option (Nat×Bool)),h'.nx≤T→HR P G r T h w→aK r xs=some ((ga o).map<|ev N σ)→YM P G r T N σ ⟨dst,o,ty,pos,af,g⟩ h w v h'):j8 P G o xs h v h':=
 ⟨L,fun T r w N σ dst ty pos af g K Q hT I E J=>by
  obtain ⟨r',u,w',h1,A,C⟩:=hr T r w N σ dst ty pos af g hT I E;exact tV hn A (J r' u w' h1 C)⟩
theorem Gn (aj:Good P G ih) (ap:iG P G X) (ao:gj P) (av:∀ f args h v h',ih (.cl f args h)= .rv v h'→∃ fn c,P.funcs[f]? =some fn∧fn.body=some c) {fo:aY} {I:List aY} {ac:Array aw} {f:AV} {args:List AV} {h h':Hp} {v:AV} (C:r9 X ih f args h= .v v h'):
 j8 P G (.call ⟨.value fo,⟨I⟩,ac⟩) (f::args) h v h':=by
 have ag:∀ c,Op.call ⟨.value fo,⟨I⟩,ac⟩≠.defer c:=fun c e=>by cases e
 unfold r9 at C;split at C
 · rename_i f a c;split at C
   · rename_i e he;split at C
     · rename_i v1 h1 ah;cases C;obtain ⟨ab,E⟩:=ap f e he _ _ _ _ ah;refine j8.run ag ab fun T r w N σ dst ty pos af g hT Z U=> ?_;obtain ⟨u,us,A,V,O⟩:=dV U;simp only [ga,fq,lF] at A;obtain ⟨A,rfl⟩:=A;obtain ⟨J,c',ha,ad,rfl⟩:=lV V;obtain ⟨r',u,w',L,M,am⟩:=E T r w _ hT Z<|fv ha<|fv O ad;refine ⟨r',u,w',L,.inl ?_,am⟩;rw [zE A];have :J.toArray++(⟨I⟩:Array aY).map (ev N σ)++c'.toArray=(J++(I.map (ev N σ)++c')).toArray:=by simp
       rw [this]; exact M
     · cases C
   · split at C
     · rename_i v1 h1 al;cases C;have E:=aj<|.cl f (a++(args++c)) h;rw [al] at E;obtain ⟨ab,E⟩:=E;obtain ⟨fn,cd,ax,ar⟩:=av _ _ _ _ _ al;have au:=ao f fn cd ax ar;refine ⟨ab,fun T r w N σ dst ty pos af g K Q hT Z U ae=> ?_⟩;obtain ⟨u,us,A,V,O⟩:=dV U;simp only [ga,fq,lF] at A;obtain ⟨A,rfl⟩:=A;obtain ⟨J,c',ha,ad,rfl⟩:=lV V;have az:=E T r w _ hT Z<|fv ha<|fv O ad;refine ⟨fun f _=>ka _ f,?_⟩;rw [mS,rA _ _ _ ag,dt,zE A];have :J.toArray++(⟨I⟩:Array aY).map (ev N σ)++c'.toArray=(J++(I.map (ev N σ)++c')).toArray:=by simp
       rw [this,au];simp only [Oper.uponIn_enter];refine ⟨fun h0=>(by rw [mR] at h0; cases h0),CallsIn.mono (sB az) ?_⟩;rintro e w' ⟨u,rfl,r',L,M⟩;exact ae r' u w' L M
     · cases C
 · rename_i l;split at C
   · rename_i v1 h1 aB;cases C;have E:=aj<|.yl l args h;rw [aB] at E;obtain ⟨ab,E⟩:=E;refine ⟨ab,fun T r w N σ dst ty pos af g K Q hT Z U ae=> ?_⟩;obtain ⟨u,us,A,V,O⟩:=dV U;simp only [ga,fq,lF] at A;obtain ⟨A,rfl⟩:=A;obtain ⟨q,ay,rfl⟩:=vq V;obtain ⟨fn,tmps,aa,ai,aA,ak⟩:=E T r w _ q hT Z O ay;refine ⟨fun f _=>ka _ f,?_⟩;rw [mS,rA _ _ _ ag,dt];have ah:(execOp (ev N σ) ⟨dst,.call ⟨.value fo,⟨I⟩,ac⟩,ty,pos,af,g⟩).run P w= .ok (.round q.an fn tmps aa ai) w:=by
      have hm:(⟨I⟩:Array aY).map (ev N σ)=(I.map<|ev N σ).toArray:=by simp
      simp only [execOp,resolve,A,lB,iB,kC,gX,invoke];simp [aA]
     rw [ah];simp only [rB];refine ⟨fun h0=>(by rw [mR] at h0; cases h0),?_⟩;have h1:RoundIn (fe N.r) (0 - 1) P q.an fn tmps aa ai w fun e w'=> ∃ u r',e= .returned u∧den r' v=some u∧St P G T r h w r' h' w':=by
      cases hr:N.r with
      | none=>exact ak
      | some k=>exact ak
     refine RoundIn.mono h1 ?_;rintro e w' ⟨u,r',rfl,L,M⟩;exact ae r' u w' L M
   · cases C
 · cases C
theorem Ci (U:Good P G ih) (V:iG P G X) (O:gj P) (Z:∀ f args h v h',ih (.cl f args h)= .rv v h'→∃ fn c,P.funcs[f]? =some fn∧fn.body=some c) {o:Op} {xs:List AV} {h h':Hp} {v:AV} (A:qP P G X ih o xs h= .v v h'):j8 P G o xs h v h':=by
 unfold qP at A;split at A
 · rename_i v1 hp;cases A;have E:∀ c,o≠.defer c:=fun c e=>by subst e; simp [na] at hp
   refine j8.run E (aQ _) fun T r w N σ dst ty pos af g hT C I=> ?_;obtain ⟨u,h1,J⟩:=Ch (dst:=dst) (ty:=ty) (pos :=pos) (af:=af) (g:=g) hp I;exact ⟨r,u,w,h1,.inl (J w),St.refl C⟩
 · split at A
   · rename_i v1 M;cases A;have E:∀ c,o≠.defer c:=fun c e=>by subst e; simp [jn] at M
     refine j8.run E (aQ _) fun T r w N σ dst ty pos af g hT C I=> ?_;obtain ⟨u,h1,J⟩:=Cg (dst:=dst) (ty:=ty) (pos :=pos) (af:=af) (g:=g) C M I;exact ⟨r,u,w,h1,.inl J,St.refl C⟩
   · split at A
     · rename_i fo L ab;split at A
       · obtain ⟨L⟩:=L;exact Gn U V O Z A
       · cases A
     · split at A <;> cases A
     · rename_i ac E;split at A
       · rename_i v1 h1 hm;cases A;have E:∀ c,o≠.defer c:=fun c e=>by subst e; simp [oV] at hm
         exact j8.run E (J0 hm) fun T r w N σ dst ty pos af g hT C I=>J1 C hm hT I
       · split at A
         · rename_i v1 h1 hm;cases hle:bh h.nx h1.nx
           · rw [hle] at A; cases A
           rw [hle] at A;cases A;have E:∀ c,o≠.defer c:=fun c e=>by subst e; simp [ta] at hm
           exact j8.run E (bM hle) fun T r w N σ dst ty pos af g hT C I=>J2 C hm hT I
         · cases A
end
end Go.Hb
namespace Go.Hb
section
variable {P:av} {G:Nat} {X:Xt} {ih:Tk→Rs} {n:Nat} {r:Rn}
theorem ph {fr C:Tr AV} {d:Option Nat} {v:AV} {u:ag} {σ:Nat→ag} (A:fN n fr d v=some C) (I:ee r n fr σ) (J:den r v=some u):ee r n C (dv σ d u):=by
 cases d with
 | none=>simp only [fN,bH] at A; subst A; exact I
 | some d=>
   simp only [fN] at A;replace A:=aZ A; obtain ⟨E,A⟩:=A;simp only [a9] at E;cases A;intro i hi;simp only [dv,aX,dg,Tr.kQ _ _ _ _ E.2];by_cases e:i=d
   · subst e;rw [if_pos rfl,show aP i i=true from by simp]; exact J
   · rw [if_neg e,show aP i d=false from by
      cases hb:aP i d
      · rfl
      · exact absurd (bL hb) e]
     exact I i hi
theorem vU {ops:List aC} {fr:Tr AV} {o:aC} {N:Fm} {σ:Nat→ag} (A:jN N.n ops fr o.guard= .y) (C:ee r N.n fr σ):kB o (yielded ops.toArray (act N σ).tmps)=true :=by
 unfold jN at A;split at A
 · exact fl _ (by assumption) _
 · rename_i j want E;split at A
   · rename_i M I;split at A
     · rename_i t J;cases hb:aE t N.n
       · rw [hb] at A; cases A
       · rw [hb] at A;simp only [cond_true] at A;split at A
         · rename_i b L;cases hbw:(b==want)
           · rw [hbw] at A; cases A
           · have h1:=C t<|cC.1 hb;rw [L] at h1;rw [mu E (by simp [dS,I,J]) hb (jg h1),hbw]
         · cases A
         · cases A
     · cases A
   · cases A
theorem Ba {ops:List aC} {fr:Tr AV} {o:aC} {N:Fm} {σ:Nat→ag} (A:jN N.n ops fr o.guard= .n) (E:ee r N.n fr σ):kB o (yielded ops.toArray (act N σ).tmps)=false :=by
 unfold jN at A;split at A
 · cases A
 · rename_i j want I;split at A
   · rename_i M J;split at A
     · rename_i t L;cases hb:aE t N.n
       · rw [hb] at A; cases A
       · rw [hb] at A;simp only [cond_true] at A;split at A
         · rename_i b C;cases hbw:(b==want)
           · have h1:=E t<|cC.1 hb;rw [C] at h1;rw [mu I (by simp [dS,J,L]) hb (jg h1),hbw]
           · rw [hbw] at A; cases A
         · rename_i C;have h1:=E t<|cC.1 hb;rw [C] at h1;rw [iI] at h1;exact yo I (by simp [dS,J,L]) hb (fD h1).symm
         · cases A
     · cases A
   · cases A
theorem qQ (ac:Good P G ih) (ad:iG P G X) (ab:gj P) (ae:∀ f args h v h',ih (.cl f args h)= .rv v h'→∃ fn c,P.funcs[f]? =some fn∧fn.body=some c) {rd:Option Nat} {ops:List aC} :∀ {l:List aC} {fr Z:Tr AV} {D V:List AD} {h h':Hp},
 jY P G X ih rd n ops l fr D h= .cd .bC Z V h'→dy P G rd n (fun rr Q a w=>wpListIn (fe rr) 0 P ops.toArray Q l a w) fr D h .bC Z V h'
 | [],fr,Z,D,V,h,h',he=>by
   simp only [jY,Rs.cd.injEq,true_and] at he;obtain ⟨rfl,rfl,rfl⟩:=he;exact ⟨aQ _,fun T r w σ Dl rr Q hT C A I L J=>J r w σ Dl (St.refl C) A I⟩
 | o::l,fr,Z,D,V,h,h',he=>by
   simp only [jY] at he;split at he
   · rename_i ah;split at he
     · rename_i xs an;split at he
       · rename_i v h1 bJ;split at he
         · rename_i av M;obtain ⟨aF,s1⟩:=Ci ac ad ab ae bJ;obtain ⟨O,s2⟩:=qQ ac ad ab ae he;refine ⟨cG aF O,fun T r w σ Dl rr Q hT C A I L J=> ?_⟩;show wpListIn _ _ _ _ _ _ _ _;unfold wpListIn;rw [if_pos (vU (N:=⟨n,Dl,[],rr⟩) ah A)];obtain ⟨d,op,ty,pos,af,g⟩:=o;refine s1 T r w ⟨n,Dl,[],rr⟩ σ d ty pos af g _ Q (cG O hT) C (sY C.fc A an) fun r' u w' hu bq=> ?_;rw [eI];exact s2 T r' w' _ Dl rr Q hT bq.hr (ph M (A.le bq.le) hu) (mN bq.le I) (Cu bq.le L) fun ao ap ar ai am al ak=>J ao ap ar ai (bq.trans am) al ak
         · cases he
       · rename_i a bJ;split at he
         · split at he
           · rename_i av M;obtain ⟨O,s2⟩:=qQ ac ad ab ae he;refine ⟨O,fun T r w σ Dl rr Q hT C A I L J=> ?_⟩;have aB:rr=none:=by
              cases rr with
              | none=>rfl
              | some k=>exact L.elim
             subst aB;show wpListIn _ _ _ _ _ _ _ _;unfold wpListIn;rw [if_pos (vU (N:=⟨n,Dl,[],none⟩) ah A)];obtain ⟨d,op,ty,pos,af,g⟩:=o;simp only at bJ an M;have aE:=sY (N:=⟨n,Dl,[],none⟩) C.fc A an;unfold qP at bJ;split at bJ
             · cases bJ
             · split at bJ
               · cases bJ
               · split at bJ
                 · rename_i fo E au;split at bJ
                   · unfold r9 at bJ;split at bJ
                     · split at bJ
                       · split at bJ <;> cases bJ
                       · split at bJ <;> cases bJ
                     · split at bJ <;> cases bJ
                     · cases bJ
                   · cases bJ
                 · rename_i fo E au _ _;split at bJ
                   · rename_i f aG c' args _ _;cases bJ;obtain ⟨E⟩:=E;obtain ⟨u,us,ag,az,ax⟩:=dV aE;simp only [ga,fq,lF] at ag;obtain ⟨ag,rfl⟩:=ag;obtain ⟨aj,c2,ha,ay,rfl⟩:=lV az;refine ⟨fun f _=>trivial,?_⟩;have aD:(execOp (ev ⟨n,Dl,[],none⟩ σ) ⟨d,.defer ⟨.value fo,⟨E⟩,au⟩,ty,pos,af,g⟩).run P w= .ok (.defer {target:= .fn (.func f) c2.toArray,args:=aj.toArray++(⟨E⟩:Array aY).map (ev ⟨n,Dl,[],none⟩ σ)}) w:=by
                      simp [execOp,resolve,ag,lB]
                     show rB _ _ _ _ _ _ _ (lC P (Oper.semAt (fe none).round _ _) w);rw [mS,Oper.semAt_none,dt,aD];simp only [Oper.uponIn_defer];have aA:({(act ⟨n,Dl,[],none⟩ σ) with defers:= {target:=Target.fn (.func f) c2.toArray,args:=aj.toArray++(⟨E⟩:Array aY).map (ev ⟨n,Dl,[],none⟩ σ)} ::(act ⟨n,Dl,[],none⟩ σ).defers} :Act)=act ⟨n,{target:= .fn (.func f) c2.toArray,args:=aj.toArray++(⟨E⟩:Array aY).map (ev ⟨n,Dl,[],none⟩ σ)} ::Dl,[],none⟩ σ:=rfl;rw [aA,eI];refine s2 T r w _ _ none Q hT C (ph M A<|iI r) ⟨⟨_,_,_,fv ha (fv ax ay),U,by simp⟩,I⟩ L fun ao ap ar ai am al ak=>J ao ap ar ai am al ak
                   · cases bJ
                 · split at bJ
                   · cases bJ
                   · split at bJ
                     · rename_i aw _;cases hle:bh h.nx aw.nx
                       · rw [hle] at bJ; cases bJ
                       · rw [hle] at bJ; cases bJ
                     · cases bJ
           · cases he
         · cases he
       · cases he
     · cases he
   · rename_i ah;split at he
     · rename_i av M;obtain ⟨O,s2⟩:=qQ ac ad ab ae he;refine ⟨O,fun T r w σ Dl rr Q hT C A I L J=> ?_⟩;show wpListIn _ _ _ _ _ _ _ _;unfold wpListIn;rw [if_neg (by rw [Ba (N:=⟨n,Dl,[],rr⟩) ah A]; simp)];refine ⟨fun f _=>ka _ f,?_⟩;rw [eI];exact s2 T r w _ Dl rr Q hT C (ph M A<|iI r) I L J
     · cases he
   · cases he
end
end Go.Hb
namespace Go.Hb
section
variable {P:av} {G:Nat} {X:Xt} {ih:Tk→Rs} {n:Nat} {r:Rn} {T:Nat} {h:Hp} {w:ah}
theorem HR.loop (hr:HR P G r T h w) {l:Nat} {st:LoopState} {E:Option bP} {fr:Tr AV} {ps:List Nat} {aT body:bP} {D:Nat} (M:h.t.get l=some (.loop st E n fr ps aT body D)):
 ∃ q fn A C,r l=some q∧w.heap[q.an]? =some (.loop {state:=st,pending:=E,fn:=fn,tmps:=A,params:=ps.toArray,assign:=aT,body:=body,defers:=C})∧(∃ x,r D=some x∧x.an=C)∧A.size=n∧∀ i,i < n→den r (dg fr i)=A[i]? :=by
 obtain ⟨q,O,fn,A,C,h1,I,J,L⟩:=hr.live l _ M;exact ⟨q,fn,A,C,O,h1,I,J,L⟩
theorem HR.xJ (hr:HR P G r T h w) {l:Nat} {q:Loc} {st st':LoopState} {E pe':Option bP} {fr:Tr AV} {ps:List Nat} {aT body:bP} {D fn C:Nat} {A:Array ag} (O:h.t.get l=some (.loop st E n fr ps aT body D)) (J:bh G l=true) (hb:aE l cj=true) (Z:r l=some q)
 (hw:w.heap[q.an]? =some (.loop {state:=st,pending:=E,fn:=fn,tmps:=A,params:=ps.toArray,assign:=aT,body:=body,defers:=C})) (I:∃ x,r D=some x∧x.an=C) (ab:A.size=n) (L:∀ i,i < n→den r (dg fr i)=A[i]?):
 St P G T r h w r ⟨h.t.set l (.loop st' pe' n fr ps aT body D),h.nx⟩ (w.putObj q.an<|.loop {state:=st',pending:=pe',fn:=fn,tmps:=A,params:=ps.toArray,assign:=aT,body:=body,defers:=C}):=by
 have V:=(dq.1 hw).1;refine hr.kZ O hb Z (bM J) ?_ ⟨U,U,by simp [EM],fun k _ M=>lE M⟩;rw [uj V];exact ⟨fn,A,C,U,I,ab,L⟩
theorem CW {σ:Nat→ag} :∀ {ps:List Nat} {args:List AV} {L:List ag} {fr A:Tr AV},nf n ps args fr=some A→ee r n fr σ→aK r args=some L→L.length=ps.length∧ee r n A ((ps.zip L).foldl (fun s p=>aX s p.1 p.2) σ)
 | [],[],L,fr,A,hs,hf,hd=>by
   simp only [nf,bH] at hs;subst hs;rw [j9 hd]; exact ⟨rfl,hf⟩
 | [],_::_,_,_,_,hs,_,_=>by simp [nf] at hs
 | _::_,[],_,_,_,hs,_,_=>by simp [nf] at hs
 | p::ps,v::vs,L,fr,A,hs,hf,hd=>by
   simp only [nf] at hs;split at hs
   · rename_i O h1;obtain ⟨u,us,rfl,E,I⟩:=dV hd;have C:=ph h1 hf E;simp only [dv] at C;obtain ⟨J,M⟩:=CW hs C I;exact ⟨by simp [J],M⟩
   · cases hs
theorem FH (N:Fm) (l:List (Tmp×ag)) (σ:Nat→ag):l.foldl (fun t p=>t.setIfInBounds p.1 p.2) (act N σ).tmps=(act N<|l.foldl (fun s p=>aX s p.1 p.2) σ).tmps:=za N l σ
theorem FG {A:Array ag} {N:Fm} (C:A.size=N.n):A=(act N fun i=>A.getD i undef).tmps:=by
 apply Array.ext_getElem?;intro i;rw [jb];by_cases hi:i < N.n
 · rw [if_pos hi,iV,nL ab]; rfl
 · rw [if_neg hi,Array.getElem?_eq_none ab]
theorem GL {c:Bool} {p:Rs} {v:AV} {h:Hp} (A:cond c p .no= .rv v h):c=true∧p= .rv v h:=by
 cases c
 · cases A
 · exact ⟨U,A⟩
theorem Nc (ak:Good P G ih) {l:Nat} {args:List AV} {h':Hp} {v:AV} (A:rh G ih l args h= .rv v h'):uR P G l args h v h':=by
 unfold rh at A;split at A
 · rename_i bm n fr ps aT body d aS;split at A
   · rename_i aD aW;split at A
     · rename_i aE h1 aI;have s1:=ak<|.cd (some l) n aT aD [] h;rw [aI] at s1;obtain ⟨a4,s1⟩:=s1;split at A
       · rename_i ax m1 aC a5 aA aB d1 al;replace A:=GL A; obtain ⟨E,A⟩:=A;simp only [a9] at E;split at A
         · rename_i e bh I aJ;have s2:=ak<|.cd (some l) n body aE [] ⟨h1.t.set l (.loop .busy ax m1 aC a5 aA aB d1),h1.nx⟩;rw [aJ] at s2;obtain ⟨aw,s2⟩:=s2;simp only at aw;split at A
           · rename_i bn av aj ay ae ah d2 am;have key:∀ (jump:Option bP) (st:LoopState),jump=AM e→st=(if jump.isNone then .ready else .done)→v= .bool jump.isNone→h'=⟨I.t.set l (.loop st jump av aj ay ae ah d2),I.nx⟩→uR P G l args h v h':=by
              intro jump st Z bq a3 aR;subst a3 aR;refine ⟨cG a4 aw,fun T r w L q hT hr aK ac=> ?_⟩;simp only at hT;obtain ⟨q',fn,C,br,ao,hw,bi,aZ,aO⟩:=hr.loop aS;rw [ac] at ao; cases ao;have aY:=CW (σ:=fun i=>C.getD i undef) aW (fun i hi=>by
               show den r (dg fr i)=some (C.getD i undef);rw [aO i hi,iV,nL ab]; rfl) aK
              obtain ⟨hlen,aM⟩:=aY;have aV:=run_yield (P:=P) (args:=L.toArray) hw<|by simpa using hlen
              refine ⟨_,_,_,_,aV,roundIn_of_wpIn (F:=eR) trivial ?_⟩;have a2:((ps.toArray.zip L.toArray).foldl (fun tmps (p:Tmp×ag)=>tmps.setIfInBounds p.1 p.2) C)=(act ⟨n,[],[],some q.an⟩<|(ps.zip L).foldl (fun s p=>aX s p.1 p.2) fun i=>C.getD i undef).tmps:=by
               rw [← D7,Array.toList_zip];simp only [];rw [← FH ⟨n,[],[],some q.an⟩];rw [← FG (N:=⟨n,[],[],some q.an⟩) aZ]
              have ai:({tmps:=((ps.toArray.zip L.toArray).foldl (fun tmps (p:Tmp×ag)=>tmps.setIfInBounds p.1 p.2) C),defers:= []} :Act)=act ⟨n,[],[],some q.an⟩ ((ps.zip L).foldl (fun s p=>aX s p.1 p.2) fun i=>C.getD i undef):=by rw [a2]; rfl
              simp only at ai ⊢;rw [ai];refine s1 T r w _ [] (some q.an) _ ab hr aM trivial ⟨q,ac,U⟩ fun a6 bx bc ad M aN aL=> ?_;have aH:ad= []:=by cases ad; rfl; exact aL.elim
              subst aH;obtain ⟨bo,bf,bv,bt,J,ar,aF,a0,aP⟩:=M.hr.loop al;have :=M.le _ _ ac;rw [J] at this; cases this;have az:=M.hr.xJ (st':= .busy) (pe':=ax) al E.1 E.2 J ar aF a0 aP;refine ⟨_,run_beginRound ar U,?_⟩;refine s2 T a6 _ bc [] (some q.an) _ ab az.hr aN trivial ⟨q,J,U⟩ fun a7 bb bz bd O bl bj=> ?_;obtain ⟨bp,bg,bw,bu,ap,au,aG,a1,aQ⟩:=O.hr.loop am;have :=O.le _ _ J;rw [ap] at this; cases this;have a8:=O.hr.xJ (st':=st) (pe':=jump) am E.1 E.2 ap au aG a1 aQ;have V:=run_endRound (P:=P) jump au;simp only at V;rw [← bq] at V;have ba:=St.trans (St.trans (St.trans M az) O) a8;have fin:∃ v w',(Instr.endRound q.an jump).run P bb= .ok v w'∧∃ u r',(Ending.returned v)= .returned u∧den r' (.bool jump.isNone)=some u∧St P G T r h w r' ⟨I.t.set l (.loop st jump av aj ay ae ah d2),I.nx⟩ w':=
               ⟨_,_,V,_,a7,rfl,rfl,ba⟩
              cases e with
              | bC=>subst Z; exact fin
              | ret=>subst Z; exact fin
              | ext i=>subst Z; exact fin
             split at A
             · cases A;exact key none .ready U U U U
             · rename_i aU;cases A;cases e with
               | bC=>exact absurd rfl aU
               | ret=>exact key (some .ret) .done rfl rfl rfl rfl
               | ext i=>exact key (some<|.exit i) .done rfl rfl rfl rfl
           · cases A
         · cases A
       · cases A
     · cases A
   · cases A
 · cases A
end
end Go.Hb
namespace Go.Hb
section
variable {P:av} {G:Nat} {X:Xt} {ih:Tk→Rs} {n:Nat} {r:Rn} {T:Nat} {h:Hp} {w:ah}
theorem GK {c:Bool} {p:Rs} {e:EX} {fr:Tr AV} {D:List AD} {h:Hp} (A:cond c p .no= .cd e fr D h):c=true∧p= .cd e fr D h:=by
 cases c
 · cases A
 · exact ⟨U,A⟩
theorem Ay (ak:Good P G ih) {rd:Option Nat} {fr J:Tr AV} {D I:List AD} {l:Nat} {h':Hp} {e:EX} (he:oA G ih rd n fr D l h= .cd e J I h'):h.nx≤h'.nx∧
 ∀ (T:Nat) (r:Rn) (w:ah) (σ:Nat→ag) (Dl:List Deferred) (rr:Option Nat) (Q:bd→Act→ah→Prop) (q:Loc) (u:ag),h'.nx≤T→HR P G r T h w→r l=some q→ee r n fr σ→jI r D Dl→qS r rd rr→
   (∀ (r':Rn) (w':ah) (σ':Nat→ag) (E:List Deferred),St P G T r h w r' h' w'→ee r' n J σ'→jI r' I E→Q (jK e) (act ⟨n,E,[],rr⟩ σ') w')→rangePost (fe rr) 0 P q.an Q (act ⟨n,Dl,[],rr⟩ σ) (.returned u) w:=by
 unfold oA at he;split at he
 · rename_i st A m L ps aT body d ac;have key:cond (bh G l && aE l cj) (match A with
    | none=>Rs.cd .bC fr D ⟨h.t.set l (.loop .exhausted A m L ps aT body d),h.nx⟩
    | some c=>ih (.cd rd n c fr D ⟨h.t.set l (.loop .exhausted A m L ps aT body d),h.nx⟩)) .no= .cd e J I h'→st≠.busy→h.nx≤h'.nx∧
   ∀ (T:Nat) (r:Rn) (w:ah) (σ:Nat→ag) (Dl:List Deferred) (rr:Option Nat) (Q:bd→Act→ah→Prop) (q:Loc) (u:ag),h'.nx≤T→HR P G r T h w→r l=some q→ee r n fr σ→jI r D Dl→qS r rd rr→
     (∀ (r':Rn) (w':ah) (σ':Nat→ag) (E:List Deferred),St P G T r h w r' h' w'→ee r' n J σ'→jI r' I E→Q (jK e) (act ⟨n,E,[],rr⟩ σ') w')→rangePost (fe rr) 0 P q.an Q (act ⟨n,Dl,[],rr⟩ σ) (.returned u) w:=by
     intro he bq;obtain ⟨O,he⟩:=GK he;simp only [a9] at O;have run:∀ (r:Rn) (w:ah) (T:Nat) (q:Loc),HR P G r T h w→r l=some q→∃ w',(Instr.endLoop q.an).run P w= .ok A w'∧St P G T r h w r ⟨h.t.set l (.loop .exhausted A m L ps aT body d),h.nx⟩ w':=by
      intro r w T q hr C;obtain ⟨q',fn,aA,az,ad,hw,aj,ar,ao⟩:=hr.loop ac;rw [C] at ad; cases ad;exact ⟨_,run_endLoop (P:=P) hw bq,hr.xJ (st':= .exhausted) (pe':=A) ac O.1 O.2 C hw aj ar ao⟩
     cases A with
     | none=>
       cases he;refine ⟨aQ _,fun T r w σ Dl rr Q q u hT hr C V U ae Z=> ?_⟩;obtain ⟨w',ab,M⟩:=run r w T q hr C;exact ⟨none,w',ab,Z r w' σ Dl M V U⟩
     | some c=>
       simp only at he;have s1:=ak<|.cd rd n c fr D ⟨h.t.set l (.loop .exhausted (some c) m L ps aT body d),h.nx⟩;rw [he] at s1;obtain ⟨au,s1⟩:=s1;refine ⟨au,fun T r w σ Dl rr Q q u hT hr C V U ae Z=> ?_⟩;obtain ⟨w',ab,M⟩:=run r w T q hr C;exact ⟨some c,w',ab,s1 T r w' σ Dl rr Q hT M.hr V U ae fun av ax ay ai aw am al=>Z av ax ay ai (M.trans aw) am al⟩
   split at he
   · cases he
   · rename_i ap;exact key he ap
 · cases he
theorem Kv (ad:Good P G ih) (aK:gj P) (aL:∀ f args h v h',ih (.cl f args h)= .rv v h'→∃ fn c,P.funcs[f]? =some fn∧fn.body=some c) {rd:Option Nat} {g:aY} {ps:List Nat} {aT body:bP} {fr aJ:Tr AV} {D aI:List AD} {h':Hp} {e:EX} (he:o6 ih G rd n g ps aT body fr D h= .cd e aJ aI h'):
 dy P G rd n (fun rr Q a w=>(Code.rangeFunc g ⟨ps⟩ aT body).wpIn (fe rr) 0 P Q a w) fr D h e aJ aI h':=by
 unfold o6 at he;split at he
 · rename_i f a c aM;split at he
   · split at he
     · rename_i h1 aN;split at he
       · rename_i ak V;split at he
         · rename_i v aV O;have s1:=ad<|.cl f (a++(.gA h1.nx::c)) ak;rw [O] at s1;obtain ⟨m1,s1⟩:=s1;obtain ⟨a6,s2⟩:=Ay ad he;have bd:=kg aN;have a5:=kg V;obtain ⟨aj,ai,ay,ao⟩:=aL _ _ _ _ _ O;have ap:=aK f aj ai ay ao;refine ⟨ab,fun T r w σ Dl rr Q hT hr L au ae az=> ?_⟩;have a0:rr=none:=by
            cases rr with
            | none=>rfl
            | some k=>exact ae.elim
           subst a0;refine wpIn_rangeFunc ?_;intro fn _;have J:=qO (N:=⟨n,Dl,[],none⟩) hr.fc L aM;obtain ⟨A,c',ha,ar,J⟩:=lV J;obtain ⟨bj,aO,aC⟩:=hr.cS aN ab 0 (w':=w.alloc<|.deferred<|some []) rfl rfl rfl fun r' _ _=>rfl;have a1:(w.alloc<|.deferred<|some []).heap.size=w.heap.size+1:=World.size_alloc _ _;obtain ⟨ac,M,E⟩:=aC.hr.cS V ab 0 (w':=(w.alloc<|.deferred<|some []).alloc<|.loop {state:= .ready,pending:=none,fn:=fn,tmps:=(act ⟨n,Dl,[],none⟩ σ).tmps,params:=⟨ps⟩,assign:=aT,body:=body,defers:=w.heap.size}) rfl rfl rfl fun r' hle _=>by
            refine ⟨fn,(act ⟨n,Dl,[],none⟩ σ).tmps,w.heap.size,U,⟨_,hle _ _ aO,U⟩,by simp [act],fun i hi=> ?_⟩;rw [jb,if_pos hi];exact kN hle<|kN aC.le<|L i hi
           have aD:=aC.trans E;rw [a1] at M;have al:=fv (ig aD.le ha)<|dQ (show den ac (.gA h1.nx)=some (.func (.yield<|w.heap.size+1) #[] #[]) from by simp only [den,M])<|ig aD.le ar;have aA:=s1 T ac _ _ ab E.hr al;refine ⟨w.heap.size+1,[{target:= .collected w.heap.size,args:= #[]}],((w.alloc<|.deferred<|some []).alloc<|.loop {state:= .ready,pending:=none,fn:=fn,tmps:=(act ⟨n,Dl,[],none⟩ σ).tmps,params:=⟨ps⟩,assign:=aT,body:=body,defers:=w.heap.size}),{target:= .fn (.func f) c'.toArray,args:=A.toArray++ #[.func (.yield<|w.heap.size+1) #[] #[]]},((w.alloc<|.deferred<|some []).alloc<|.loop {state:= .ready,pending:=none,fn:=fn,tmps:=(act ⟨n,Dl,[],none⟩ σ).tmps,params:=⟨ps⟩,assign:=aT,body:=body,defers:=w.heap.size}),f,(A++(.func (.yield<|w.heap.size+1) #[] #[]::c')).toArray,_,?_,?_,fun _ _=>trivial,?_,fun h0=>(by cases h0),callsIn_wide.2<|j3 aA ?_⟩
           · exact run_enterLoop_outer _ _ _ _ _
           · have aw:(act ⟨n,Dl,[],none⟩ σ).eval g= .func (.func f) A.toArray c'.toArray:=by rw [dt]; exact J
             simp only [resolve,aw];simp [go_sem]
           · have am:A.toArray++ #[.func (.yield<|w.heap.size+1) #[] #[]]++c'.toArray=(A++(.func (.yield<|w.heap.size+1) #[] #[]::c')).toArray:=by simp
             have :=ap (A++(.func (.yield<|w.heap.size+1) #[] #[]::c')).toArray<|(w.alloc<|.deferred<|some []).alloc<|.loop {state:= .ready,pending:=none,fn:=fn,tmps:=(act ⟨n,Dl,[],none⟩ σ).tmps,params:=⟨ps⟩,assign:=aT,body:=body,defers:=w.heap.size};simp only [invoke,am];exact this
           · rintro aS aF ⟨u,rfl,ag,_,I⟩;have kr:=aD.trans I;have hm:ag h.nx=some ⟨w.heap.size,0,0⟩:=I.le _ _<|E.le _ _ aO;exact s2 T ag aF σ ({target:= .collected w.heap.size,args:= #[]} ::Dl) none Q ⟨w.heap.size+1,0,0⟩ u hT I.hr (I.le _ _ M) (L.le kr.le) ⟨⟨_,hm,U⟩,mN kr.le au⟩ trivial fun aB aG aH ah aE ax av=>az aB aG aH ah (kr.trans aE) ax av
         · cases he
       · cases he
     · cases he
   · rename_i bf;split at he
     · rename_i bl bg m0 ba bh a7 a8 d aX;split at he
       · rename_i ak V;split at he
         · rename_i v aV O;have s1:=ad<|.cl f (a++(.gA h.nx::c)) ak;rw [O] at s1;obtain ⟨m1,s1⟩:=s1;obtain ⟨a6,s2⟩:=Ay ad he;have a5:=kg V;obtain ⟨aj,ai,ay,ao⟩:=aL _ _ _ _ _ O;have ap:=aK f aj ai ay ao;refine ⟨ab,fun T r w σ Dl rr Q hT hr L au ae az=> ?_⟩;obtain ⟨aR,rfl⟩:∃ aR,rr=some aR:=by
            cases rr with
            | none=>exact ae.elim
            | some k=>exact ⟨k,rfl⟩
           obtain ⟨C,aP,aZ⟩:=ae;obtain ⟨bi,a9,bm,Z,aQ,a2,aW,bc,bb⟩:=hr.loop aX;rw [aP] at aQ; cases aQ;subst aZ;refine wpIn_rangeFunc ?_;intro fn _;have J:=qO (N:=⟨n,Dl,[],some C.an⟩) hr.fc L aM;obtain ⟨A,c',ha,ar,J⟩:=lV J;obtain ⟨ac,M,E⟩:=hr.cS V ab 0 (w':=w.alloc<|.loop {state:= .ready,pending:=none,fn:=fn,tmps:=(act ⟨n,Dl,[],some C.an⟩ σ).tmps,params:=⟨ps⟩,assign:=aT,body:=body,defers:=Z}) rfl rfl rfl fun r' hle _=>by
            obtain ⟨x,a3,a4⟩:=aW;refine ⟨fn,(act ⟨n,Dl,[],some C.an⟩ σ).tmps,Z,U,⟨x,hle _ _ a3,a4⟩,by simp [act],fun i hi=> ?_⟩;rw [jb,if_pos hi];exact kN hle<|L i hi
           have al:=fv (ig E.le ha)<|dQ (show den ac (.gA h.nx)=some (.func (.yield w.heap.size) #[] #[]) from by simp only [den,M])<|ig E.le ar;have aA:=s1 T ac _ _ ab E.hr al;refine ⟨w.heap.size,[],(w.alloc<|.loop {state:= .ready,pending:=none,fn:=fn,tmps:=(act ⟨n,Dl,[],some C.an⟩ σ).tmps,params:=⟨ps⟩,assign:=aT,body:=body,defers:=Z}),{target:= .fn (.func f) c'.toArray,args:=A.toArray++ #[.func (.yield w.heap.size) #[] #[]]},(w.alloc<|.loop {state:= .ready,pending:=none,fn:=fn,tmps:=(act ⟨n,Dl,[],some C.an⟩ σ).tmps,params:=⟨ps⟩,assign:=aT,body:=body,defers:=Z}),f,(A++(.func (.yield w.heap.size) #[] #[]::c')).toArray,_,?_,?_,fun aU _=>ka _ aU,?_,fun h0=>(by cases h0),sB<|j3 aA ?_⟩
           · exact run_enterLoop_inner a2 _ _ _ _ _
           · have aw:(act ⟨n,Dl,[],some C.an⟩ σ).eval g= .func (.func f) A.toArray c'.toArray:=by rw [dt]; exact J
             simp only [resolve,aw];simp [go_sem]
           · have am:A.toArray++ #[.func (.yield w.heap.size) #[] #[]]++c'.toArray=(A++(.func (.yield w.heap.size) #[] #[]::c')).toArray:=by simp
             have :=ap (A++(.func (.yield w.heap.size) #[] #[]::c')).toArray<|w.alloc<|.loop {state:= .ready,pending:=none,fn:=fn,tmps:=(act ⟨n,Dl,[],some C.an⟩ σ).tmps,params:=⟨ps⟩,assign:=aT,body:=body,defers:=Z};simp only [invoke,am];exact this
           · rintro aS aF ⟨u,rfl,ag,_,I⟩;have kr:=E.trans I;exact s2 T ag aF σ _ (some C.an) Q ⟨w.heap.size,0,0⟩ u hT I.hr (I.le _ _ M) (L.le kr.le) (mN kr.le au) ⟨C,kr.le _ _ aP,U⟩ fun aB aG aH ah aE ax av=>az aB aG aH ah (kr.trans aE) ax av
         · cases he
       · cases he
     · cases he
 · cases he
theorem xx {N:Fm} {σ:Nat→ag} (hr:HR P G r T h w) {fr:Tr AV} (J:ee r N.n fr σ):∀ {l:List ResultVar} {vs:List AV},iQ P N.n fr h l=some vs→∃ us,aK r vs=some us∧(l.mapM<|ir (act N σ).tmps).run P w= .ok us w
 | [],vs,A=>by
   simp only [iQ,bH] at A;subst A;exact ⟨[],by simp [aK],by simp⟩
 | .tmp t::l,vs,A=>by
   simp only [iQ] at A;split at A
   · rename_i ad E;replace A:=aZ A; obtain ⟨C,A⟩:=A;cases A;obtain ⟨us,h1,L⟩:=xx hr J E;have M:=J t<|cC.1 C;have U:=gw (P:=P) (w:=w)<|lh (P:=P) (N:=N) (σ:=σ) (w:=w) (t:=t);have I:ev N σ (.tmp t)=σ t:=by simp only [ev,C,cond_true]
     rw [I] at U;exact ⟨σ t::us,dQ M h1,by simp [E6,U,L]⟩
   · cases A
 | .cell a t::l,vs,A=>by
   simp only [iQ] at A;split at A
   · rename_i ad E;replace A:=aZ A; obtain ⟨C,A⟩:=A;split at A
     · rename_i v di;cases A;obtain ⟨us,h1,L⟩:=xx hr J E;have M:=J a<|cC.1 C;have I:ev N σ (.tmp a)=σ a:=by simp only [ev,C,cond_true]
       obtain ⟨b,off,u,V,hu,Z⟩:=BB hr di M;have ab:ib P N σ w (.cell a t) u:=by
        rcases Z with ⟨ha,O⟩ | ⟨m,cs,ha,rfl,E,O⟩
        · exact jo (I.trans V) ha O
        · exact iq (I.trans V) ha E O
       have ac:=gw ab;exact ⟨u::us,dQ hu h1,by simp [E6,ac,L]⟩
     · cases A
   · cases A
theorem xz {N:Fm} {σ:Nat→ag} {fn:Func} (hr:HR P G r T h w) {fr:Tr AV} (I:ee r N.n fr σ) {vs:List AV} (M:iQ P N.n fr h fn.results.toList=some vs):∃ u,den r (nb vs)=some u∧(results fn (act N σ).tmps).run P w= .ok u w:=by
 obtain ⟨us,h1,E⟩:=xx hr I M;have O:(results fn (act N σ).tmps)=(do let vs ← fn.results.mapM (ir (act N σ).tmps); pure (if h:vs.size=1 then vs[0] else .tuple vs)):=rfl;have C:=dd h1;have A:(fn.results.mapM<|ir (act N σ).tmps).run P w= .ok us.toArray w:=by
  have :fn.results=fn.results.toList.toArray:=by simp
  rw [this,List.mapM_toArray];simp [E]
 rw [O];unfold nb;split
 · obtain ⟨u,rfl⟩:=rE.1 (show us.length=1 from C);exact ⟨u,eK h1,by simp [A]⟩
 · rename_i L;refine ⟨.tuple us.toArray,by simp only [den,h1],?_⟩;have J:us.length≠1:=fun e=>by
    rw [C] at e;obtain ⟨v,rfl⟩:=rE.1 e;exact L v U
   simp [A,J]
end
end Go.Hb
namespace Go.Hb
section
variable {P:av} {G:Nat} {X:Xt} {ih:Tk→Rs} {n:Nat} {r:Rn} {T:Nat} {h:Hp} {w:ah}
theorem A0:∀ (l:List AV) (k:Nat) (fr:Tr AV) (i:Nat),k+l.length≤1048574→(iL k l fr).get i=if k≤i∧i < k+l.length then l[i - k]? else fr.get i
 | [],k,fr,i,_=>by rw [iL,if_neg (fun h=>by have :=h.1; have :=h.2; simp only [gY] at this; omega)]
 | v::l,k,fr,i,h=>by
   simp only [dm] at h;rw [iL,A0 l (k+1) _ i ab,Tr.kQ _ _ _ _ (cC.2 (show k < 1048574 by omega))];by_cases h1:k+1≤i∧i < k+1 +l.length
   · rw [if_pos h1,if_pos (by simp only [dm]; omega)];obtain ⟨m,hm⟩:∃ m,i - k=m+1:=⟨i - k - 1,ab⟩
     rw [hm,iX,show i - (k+1)=m from by omega]
   · rw [if_neg h1];by_cases A:i=k
     · rw [if_pos A,if_pos (by simp only [dm]; omega),A]; simp
     · rw [if_neg A,if_neg (by simp only [dm]; omega)]
theorem vP {args:List AV} {L:List ag} (A:aK r args=some L) (hb:bh args.length n=true) (hn:aE n cj=true):ee r n (iL 0 args .nil) (du L):=by
 have hb:=bM hb;have hn:n < 1048574:=cC.1 hn;have I:=dd A;intro i hi;simp only [dg,A0 args 0 .nil i ab,du,hO,true_and,cH,Nat.sub_zero];by_cases h1:i < args.length
 · rw [if_pos h1,bt h1];obtain ⟨u,C,E⟩:=ot A<|bt h1;simp only [E,cn,C,ja]
 · rw [if_neg h1,Tr.get_nil];simp only [iI,cn];rw [jt ab]; rfl
theorem zC {f:FuncId} {args:Array ag} {u:FrameMode} {R A:Ending→FrameMode→ah→Prop} (C:CallsDIn eR 0 P f args u w R) (hr:∀ e u w,R e u w→A e u w):CallsDIn eR 0 P f args u w A:=
 ⟨C.1,fun c cs hu E=>let ⟨e,u',w',fr,h1,h2⟩:=C.2 c cs hu E; ⟨e,u',w',fr,hr _ _ _ h1,h2⟩⟩
theorem Gp {f:FuncId} {fn:Func} {id N d:Nat} {ty:aw} {pos :String} {af:Array bR} {rest:List aC} {y:bP} {args:List ag} {R:ah→Prop}
 (I:P.funcs[f]? =some fn) (hb:fn.body=some (.seq (.region id ⟨⟨some d,.call ⟨.builtin .recover,⟨[]⟩,⟨[]⟩⟩,ty,pos,af,none⟩::rest⟩ false) y)) (ae:fn.ntmps=N) (hn:bh args.length N=true)
 (h:wpListIn (fe none) 0 P (⟨some d,.call ⟨.builtin .recover,⟨[]⟩,⟨[]⟩⟩,ty,pos,af,none⟩::rest).toArray (Exit.then (y.wpIn (fe none) 0 P fun e a w=>(e= .normal∨e= .ret)∧a.defers= []∧∃ v,(results fn a.tmps).run P w= .ok v w∧R w) fun _ _ _=>False) rest (act ⟨N,[],[],none⟩<|aX (du args) d .nilIface) w):
 CallsDIn eR 0 P f args.toArray .returning w fun e av w'=> ∃ v,e= .returned v∧av= .returning∧R w':=by
 subst ae;refine ⟨trivial,fun A cs hu _=> ?_⟩
 let b:Frame:= {(default:Frame) with fn:=f,kind:= .deferred}
 have ai:Frame.enter P f args.toArray .deferred=b.at (act ⟨fn.ntmps,[],[],none⟩<|du args) [.code (.seq (.region id ⟨⟨some d,.call ⟨.builtin .recover,⟨[]⟩,⟨[]⟩⟩,ty,pos,af,none⟩::rest⟩ false) y)]:=by
  rw [← ng fn args [] hn];simp [Frame.enter,Frame.at,I,hb,b]
 have ar:iZ (⟨⟨some d,.call ⟨.builtin .recover,⟨[]⟩,⟨[]⟩⟩,ty,pos,af,none⟩::rest⟩:Array aC).size=0::(jw 1 rest.length):=by
  rw [eW,dm,List.range_eq_range',List.range'_succ]
 have al:=wpOpsIn_eq_wpListIn (F:=fe none) (n:=0) (P:=P) (ops:=(⟨some d,.call ⟨.builtin .recover,⟨[]⟩,⟨[]⟩⟩,ty,pos,af,none⟩::rest).toArray) (Q:=Exit.then (y.wpIn (fe none) 0 P fun e a w=>(e= .normal∨e= .ret)∧a.defers= []∧∃ v,(results fn a.tmps).run P w= .ok v w∧R w) fun _ _ _=>False) rest 1 fun j=>by simp [Fe]
 rw [← al] at h;obtain ⟨e,ax,w',Z,C⟩:=wp_opsIn _ _ _ h b [.code y] (A::cs) rfl trivial (room_wide _);have C:=(arrivesIn_iff (b:=b) (fun _ _=>stepsIn_wide) rfl).1 C;have ao:step P (lone (b.at (act ⟨fn.ntmps,[],[],none⟩<|du args) (.inRegion (⟨some d,.call ⟨.builtin .recover,⟨[]⟩,⟨[]⟩⟩,ty,pos,af,none⟩::rest).toArray (0::jw 1 rest.length)::[.code y])) (A::cs) w)=
  .next (lone (b.at (act ⟨fn.ntmps,[],[],none⟩<|aX (du args) d .nilIface) (.inRegion (⟨some d,.call ⟨.builtin .recover,⟨[]⟩,⟨[]⟩⟩,ty,pos,af,none⟩::rest).toArray (jw 1 rest.length)::[.code y])) (A::cs) w):=by
  have ak:=stepG_op (P:=P) (b:=b) (a:=act ⟨fn.ntmps,[],[],none⟩<|du args) (k:= [.code y]) (cs:=A::cs) (w:=w) (ops:=(⟨some d,.call ⟨.builtin .recover,⟨[]⟩,⟨[]⟩⟩,ty,pos,af,none⟩::rest).toArray) (i:=0) (rest:=jw 1 rest.length) (o:=⟨some d,.call ⟨.builtin .recover,⟨[]⟩,⟨[]⟩⟩,ty,pos,af,none⟩) rfl (fl _ rfl _);have au:(execOp (act ⟨fn.ntmps,[],[],none⟩<|du args).eval ⟨some d,.call ⟨.builtin .recover,⟨[]⟩,⟨[]⟩⟩,ty,pos,af,none⟩).run P w= .ok .recover w:=by
   rw [dt];simp [execOp,resolve,invoke,builtin]
  have ac:=tryRecover_deferred (fr:=b.at (act ⟨fn.ntmps,[],[],none⟩<|du args) (.inRegion (⟨some d,.call ⟨.builtin .recover,⟨[]⟩,⟨[]⟩⟩,ty,pos,af,none⟩::rest).toArray (0::jw 1 rest.length)::[.code y])) rfl (A::cs);have am:recoverD (A::cs)=none:=by simp [recoverD,hu]
  have aj:(b.at (act ⟨fn.ntmps,[],[],none⟩<|du args) (.inRegion (⟨some d,.call ⟨.builtin .recover,⟨[]⟩,⟨[]⟩⟩,ty,pos,af,none⟩::rest).toArray (0::jw 1 rest.length)::[.code y])).finish .nilIface=b.at (act ⟨fn.ntmps,[],[],none⟩<|aX (du args) d .nilIface) (.inRegion (⟨some d,.call ⟨.builtin .recover,⟨[]⟩,⟨[]⟩⟩,ty,pos,af,none⟩::rest).toArray (jw 1 rest.length)::[.code y]):=by
   rw [Frame.finish_at];have :=eI ⟨fn.ntmps,[],[],none⟩ (du args) (some d) .nilIface;simp only [dv] at this;rw [← this]; rfl
  refine step_lone_go ?_;rw [ak,← aj];simp only [Frame.at] at ac ⊢;simp [stepG.apply,au,ac,am]
 have M:Steps P (lone (Frame.enter P f args.toArray .deferred) (A::cs) w) (lone (b.at (act ⟨fn.ntmps,[],[],none⟩<|aX (du args) d .nilIface) (.inRegion (⟨some d,.call ⟨.builtin .recover,⟨[]⟩,⟨[]⟩⟩,ty,pos,af,none⟩::rest).toArray (jw 1 rest.length)::[.code y])) (A::cs) w):=by
  rw [ai];refine .head step_seq<|.head step_region ?_;rw [ar];exact .one ao
 cases e with
 | normal=>
   obtain ⟨ay,J,ad,an,E⟩:=Z b [] (A::cs) rfl trivial (room_wide _);have E:=(arrivesIn_iff (b:=b) (fun _ _=>stepsIn_wide) rfl).1 E;obtain ⟨Iq,O,v,ab,L⟩:=an;have V:({A with mode:= .returning} :Frame)=A:=by rw [← hu]
   rcases Iq with rfl | rfl
   · refine ⟨.returned v,.returning,ad,{b.at J [] with mode:= .returning},⟨v,U,U,L⟩,?_,U,U,U,O,fn,I,ab⟩;rw [V];exact stepsIn_wide.2<|Steps.trans M<|Steps.trans C<|Steps.trans E<|.one step_end
   · obtain ⟨todo,ap⟩:=E;refine ⟨.returned v,.returning,ad,{b.at J todo with mode:= .returning},⟨v,U,U,L⟩,?_,U,U,U,O,fn,I,ab⟩;rw [V];exact stepsIn_wide.2<|Steps.trans M<|Steps.trans C ap
 | _=>exact Z.elim
theorem wS (M:Good P G ih) (L:gj P) (V:∀ f args h v h',ih (.df f args h)= .rv v h'→∃ fn c,P.funcs[f]? =some fn∧fn.body=some c):∀ {D:List AD} {h h':Hp},jW G ih D h=some h'→h.nx≤h'.nx∧∀ (T:Nat) (r:Rn) (w:ah) (Dl:List Deferred) (fn:Func) (tmps:Array ag) (R:Ending→ah→Prop),
 h'.nx≤T→HR P G r T h w→jI r D Dl→(∀ (r':Rn) (w':ah),St P G T r h w r' h' w'→∃ v,(results fn tmps).run P w'= .ok v w'∧R (.returned v) w')→LeavesInM eR 0 P fn tmps R Dl .returning w
 | [],h,h',he=>by
   simp only [jW,bH] at he;subst he;refine ⟨aQ _,fun T r w Dl fn tmps R hT hr A C=> ?_⟩;have :Dl= []:=by cases Dl; rfl; exact A.elim
   subst this;exact C r w<|St.refl hr
 | .mark d::D,h,h',he=>by
   simp only [jW] at he;split at he
   · rename_i ab;replace he:=aZ he; obtain ⟨O,he⟩:=he;simp only [a9] at O;obtain ⟨I,s1⟩:=wS M L V he;refine ⟨I,fun T r w Dl fn tmps R hT hr A C=> ?_⟩;cases Dl with
     | nil=>exact A.elim
     | cons x Dl=>
       obtain ⟨⟨q,ac,rfl⟩,A⟩:=A;obtain ⟨q',ad,E⟩:=hr.live d _ ab;rw [ac] at ad; cases ad;have E:w.heap[q.an]? =some (.deferred<|some []):=E;have ao:=(dq.1 E).1;have st:St P G T r h w r ⟨h.t.set d (.kO false),h.nx⟩ (w.putObj q.an<|.deferred none):=
        hr.kZ ab O.2 ac (bM O.1) (by rw [uj ao]; rfl) ⟨rfl,rfl,by simp [EM],fun k _ C=>lE C⟩
       exact ⟨Ev,.inl ⟨q.an,_,U,run_takeDeferred E,s1 T r _ Dl fn tmps R hT st.hr A fun r' w' st'=>C r' w'<|st.trans st'⟩⟩
   · cases he
 | .fn f args::D,h,h',he=>by
   simp only [jW] at he;split at he
   · rename_i v h1 Z;have J:=M<|.df f args h;rw [Z] at J;obtain ⟨ap,J⟩:=J;obtain ⟨ai,ae,am,aj⟩:=V _ _ _ _ _ Z;have ak:=L f ai ae am aj;obtain ⟨I,s1⟩:=wS M L V he;refine ⟨cG ap I,fun T r w Dl fn tmps R hT hr A C=> ?_⟩;cases Dl with
     | nil=>exact A.elim
     | cons x Dl=>
       obtain ⟨⟨a,cap,aw,ha,rfl,al⟩,A⟩:=A;refine ⟨Ev,.inr ⟨fun h0=>(by cases h0),.func f,cap,f,a.toArray,U,?_,fun _ _=>trivial,zC (J T r w a (cG I hT) hr ha) ?_⟩⟩
       · simp only [invoke,al];exact ak a.toArray w
       · rintro e ax w' ⟨v,rfl,rfl,r',st⟩;exact s1 T r' w' Dl fn tmps R hT st.hr (mN st.le A) fun ar av au=>C ar av<|st.trans au
   · cases he
def yX (P:av) (G:Nat) (X:Xt) (ih:Tk→Rs):Prop := ∀ (rd:Option Nat) (n id:Nat) (ops:List aC) (fr:Tr AV) (D:List AD) (h:Hp),match sn P G X ih n ops fr D h with
 | .cd e C A h'=>dy P G rd n (fun rr Q a w=>(Eo id ⟨ops⟩ true).wpIn (fe rr) 0 P Q a w) fr D h e C A h'
 | .no=>True
 | _=>False
theorem dy.bind {rd:Option Nat} {W W' I:Option Nat→(bd→Act→ah→Prop)→Act→ah→Prop} {fr M O:Tr AV} {D C E:List AD} {h h1 V:Hp} {J L:EX} (s1:dy P G rd n W fr D h J M C h1) (s2:dy P G rd n W' M C h1 L O E V)
 (ae:∀ rr Q a w,W rr (fun e a w=>e=jK J∧W' rr Q a w) a w→I rr Q a w):dy P G rd n I fr D h L O E V:=by
 obtain ⟨ao,s1⟩:=s1;obtain ⟨ab,s2⟩:=s2;refine ⟨cG ao ab,fun T r w σ Dl rr Q hT hr ak ag Z an=>ae rr Q _ w ?_⟩;exact s1 T r w σ Dl rr _ (cG ab hT) hr ak ag Z fun ap av ax ac A al ai=>⟨U,s2 T ap av ax ac rr Q hT A.hr al ai (Cu A.le Z) fun ar aw ay ad au am aj=>an ar aw ay ad (A.trans au) am aj⟩
theorem dy.map {rd:Option Nat} {W W':Option Nat→(bd→Act→ah→Prop)→Act→ah→Prop} {fr I:Tr AV} {D A:List AD} {h h1:Hp} {C E:EX} (s1:dy P G rd n W fr D h C I A h1)
 (L:∀ rr Q a w,W rr (fun e a w=>e=jK C∧Q (jK E) a w) a w→W' rr Q a w):dy P G rd n W' fr D h E I A h1:=by
 obtain ⟨ad,s1⟩:=s1;exact ⟨ad,fun T r w σ Dl rr Q hT hr V M ac ab=>L rr Q _ w<|s1 T r w σ Dl rr _ hT hr V M ac fun ae ai aj J ag Z O=>⟨U,ab ae ai aj J ag Z O⟩⟩
theorem LK (V:Good P G ih) (ae:gj P) (ai:∀ f args h v h',ih (.df f args h)= .rv v h'→∃ fn c,P.funcs[f]? =some fn∧fn.body=some c) (f:Nat) (args:List AV) (h:Hp):lN P G (.cl f args h) (fk P G X ih<|.cl f args h):=by
 show lN P G (.cl f args h) (match P.funcs[f]? with
  | some fn=>match fn.body with
    | some c=>cond (bh args.length fn.ntmps && aE fn.ntmps cj) (match ih (.cd none fn.ntmps c (iL 0 args .nil) [] h) with
      | .cd (.ext _) _ _ _=> .no
      | .cd _ fr D h=>match jW G ih D h with
        | some h=>match iQ P fn.ntmps fr h fn.results.toList with
          | some vs=> .rv (nb vs) h
          | none=> .no
        | none=> .no
      | _=> .no) .no
    | none=> .no
  | none=> .no)
 split
 · rename_i fn al;split
   · rename_i c ag;cases hc:(bh args.length fn.ntmps && aE fn.ntmps cj)
     · trivial
     · simp only [cond_true];simp only [a9] at hc;have key:∀ (e:EX) (fr:Tr AV) (D:List AD) (h1 A:Hp) (vs:List AV),(e= .bC∨e= .ret)→ih (.cd none fn.ntmps c (iL 0 args .nil) [] h)= .cd e fr D h1→jW G ih D h1=some A→iQ P fn.ntmps fr A fn.results.toList=some vs→lN P G (.cl f args h) (.rv (nb vs) A):=by
        intro e fr D h1 A vs aj J C E;have M:=V<|.cd none fn.ntmps c (iL 0 args .nil) [] h;rw [J] at M;obtain ⟨an,M⟩:=M;obtain ⟨ab,s1⟩:=wS V ae ai C;refine ⟨cG an ab,fun T r w L hT hr Z=> ?_⟩;have hlen:=dd Z;refine callsIn_wide.1<|callsIn_of_wp_marks (F:=eR) (n:=0) al ag trivial ?_;rw [ng fn L [] (by rw [hlen]; exact hc.1)];refine M T r w (du L) [] none _ (cG ab hT) hr (vP Z hc.1 hc.2) trivial trivial fun ao ad ar I ac ak ah=> ?_;have fin:LeavesInM eR 0 P fn (act ⟨fn.ntmps,I,[],none⟩ ar).tmps (fun e w'=> ∃ v,e= .returned v∧∃ r',den r' (nb vs)=some v∧St P G T r h w r' A w') I .returning ad:=by
         refine s1 T ao ad I fn _ _ hT ac.hr ah fun ap au O=> ?_;obtain ⟨u,hu,am⟩:=xz (N:=⟨fn.ntmps,I,[],none⟩) O.hr (ak.le O.le) E;exact ⟨u,am,u,U,ap,hu,ac.trans O⟩
        rcases aj with rfl | rfl <;> exact fin
       cases J:ih (.cd none fn.ntmps c (iL 0 args .nil) [] h) with
       | no=>trivial
       | rv v h1=>trivial
       | cd e fr D h1=>
         cases e with
         | ext i=>trivial
         | bC=>
           simp only;cases C:jW G ih D h1 with
           | none=>trivial
           | some A=>
             simp only;cases E:iQ P fn.ntmps fr A fn.results.toList with
             | none=>trivial
             | some vs=>exact key .bC fr D h1 A vs (.inl rfl) J C E
         | ret=>
           simp only;cases C:jW G ih D h1 with
           | none=>trivial
           | some A=>
             simp only;cases E:iQ P fn.ntmps fr A fn.results.toList with
             | none=>trivial
             | some vs=>exact key .ret fr D h1 A vs (.inr rfl) J C E
   · trivial
 · trivial
end
end Go.Hb
namespace Go.Hb
section
variable {P:av} {G:Nat} {X:Xt} {ih:Tk→Rs} {n:Nat} {r:Rn} {T:Nat} {h:Hp} {w:ah}
theorem LL (ab:Good P G ih) (ao:iG P G X) (an:gj P) (ar:∀ f args h v h',ih (.cl f args h)= .rv v h'→∃ fn c,P.funcs[f]? =some fn∧fn.body=some c) (f:Nat) (args:List AV) (h:Hp):lN P G (.df f args h) (fk P G X ih<|.df f args h):=by
 cases hs:fk P G X ih (.df f args h) with
 | no=>trivial
 | cd e fr D h1=>
   exfalso;simp only [fk] at hs;split at hs;rename_i fn ag;split at hs;rename_i c ac;cases hc:(bh args.length fn.ntmps && aE fn.ntmps cj);rw [hc] at hs; cases hs;rw [hc] at hs;simp only [cond_true] at hs;split at hs;cases hs;split at hs <;> cases hs;cases hs;cases hs;cases hs
 | rv v h'=>
   simp only [fk] at hs;split at hs;rename_i fn ag;split at hs;rename_i c ac;cases hc:(bh args.length fn.ntmps && aE fn.ntmps cj);rw [hc] at hs; cases hs;rw [hc] at hs;simp only [cond_true] at hs;simp only [a9] at hc;split at hs;cases hs;rename_i e aH h1 ah A;split at hs;rename_i vs ai;cases hs;split at A;rename_i id d ty pos af rest y;split at A;rename_i aG ay;split at A;rename_i al V ax;obtain ⟨az,s1⟩:=qQ ab ao an ar ax;have s2:=ab<|.cd none fn.ntmps y al [] V;rw [A] at s2;obtain ⟨M,s2⟩:=s2;refine ⟨cG az M,fun T r w L hT hr I=> ?_⟩;have hlen:=dd I;refine Gp (R:=fun w'=> ∃ r',St P G T r h w r' h' w') ag ac U (by rw [hlen]; exact hc.1) ?_;have av:=ph ay (vP I hc.1 hc.2) (show den r .cK=some .nilIface from rfl);refine s1 T r w (aX (du L) d .nilIface) [] none _ (cG M hT) hr av trivial trivial fun aA aB aD ak aj aw au=> ?_;refine s2 T aA aB aD ak none _ hT aj.hr aw au trivial fun O aC aF E C ae ad=> ?_;have Z:E= []:=by cases E; rfl; exact ad.elim
   subst Z;obtain ⟨u,hu,J⟩:=xz (N:=⟨fn.ntmps,[],[],none⟩) C.hr ae ai;have he:jK e= .normal∨jK e= .ret:=by
    cases e with
    | bC=>exact .inl rfl
    | ret=>exact .inr rfl
    | ext i=>exact (ah i rfl).elim
   exact ⟨he,U,u,J,O,aj.trans C⟩;cases A;cases A;have s2:=ab<|.cd none fn.ntmps c (iL 0 args .nil) [] h;rw [A] at s2;obtain ⟨M,s2⟩:=s2;refine ⟨M,fun T r w L hT hr I=> ?_⟩;have hlen:=dd I;have ap:=callsDIn_of_wp (F:=eR) (n:=0) (u:= .returning) (w:=w) (args:=L.toArray) (R:=fun e w'=> ∃ v,e= .returned v∧∃ r',St P G T r h w r' h' w') ag ac trivial (by
    rw [ng fn L [] (by rw [hlen]; exact hc.1)];refine s2 T r w (du L) [] none _ hT hr (vP I hc.1 hc.2) trivial trivial fun O aC aF E C ae ad=> ?_;have Z:E= []:=by cases E; rfl; exact ad.elim
    subst Z;obtain ⟨u,hu,J⟩:=xz (N:=⟨fn.ntmps,[],[],none⟩) C.hr ae ai;cases e with
    | bC=>exact ⟨rfl,u,J,u,rfl,O,C⟩
    | ret=>exact ⟨rfl,u,J,u,rfl,O,C⟩
    | ext i=>exact (ah i rfl).elim)
   exact zC ap fun e aI w' ⟨h1,v,V,am⟩=>⟨v,V,h1,am⟩
   cases hs;cases hs;cases hs;cases hs
theorem yq {c:bP} {rr:Option Nat} {Q:bd→Act→ah→Prop} {a:Act} {w:ah} (Z:c.wpIn (fe rr) 0 P (Exit.then (tW P c rr Q) Q) a w):tW P c rr Q a w:=by
 intro b k cs J hb hr;obtain ⟨e,E,I,C,A⟩:=Z b (.inLoop c::k) cs J hb hr;cases e with
 | normal=>
   obtain ⟨O,L,ac,ab,V⟩:=C b k cs J hb hr;exact ⟨O,L,ac,ab,.of_steps (StepsIn.trans A<|.one (fenced_calm hb hr U) stepR_inLoop) V⟩
 | exit id=>exact ⟨.exit id,E,I,C,.pass (x:= .inLoop c) rfl (fun _ _=> .inl<|by simp) A⟩
 | goto l=>exact ⟨.goto l,E,I,C,.pass (x:= .inLoop c) rfl (fun _ _=> .inl<|by simp) A⟩
 | ret=>exact ⟨.ret,E,I,C,.pass (x:= .inLoop c) rfl (fun _ _=> .inl<|by simp) A⟩
 | panic M=>exact ⟨.panic M,E,I,C,.pass (x:= .inLoop c) rfl (fun _ _=> .inl<|by simp) A⟩
 | outgrown=>exact ⟨.outgrown,E,I,C,.pass (x:= .inLoop c) rfl (fun _ _=> .inl<|by simp) A⟩
theorem M3 {c:bP} {rr:Option Nat} {Q:bd→Act→ah→Prop} {a:Act} {w:ah} (h:tW P c rr Q a w):(Code.loop c).wpIn (fe rr) 0 P Q a w:=by
 intro b k cs I hb hr;obtain ⟨e,A,w',E,C⟩:=h b k cs I hb hr;exact ⟨e,A,w',E,.of_steps (.one (fenced_calm hb hr U) stepR_loop) C⟩
theorem Good.mM (A:Good P G ih) {rd:Option Nat} {c:bP} {fr:Tr AV} {D:List AD} {h h':Hp} {v:AV} (C:ih (.cd rd n c fr D h)= .rv v h'):False:=by
 have :=A (.cd rd n c fr D h); rw [C] at this; exact this
theorem Good.BK (A:Good P G ih) {rd:Option Nat} {c:bP} {fr:Tr AV} {D:List AD} {h h':Hp} {v:AV} (C:ih (.lp rd n c fr D h)= .rv v h'):False:=by
 have :=A (.lp rd n c fr D h); rw [C] at this; exact this
theorem LM (A:Good P G ih) (rd:Option Nat) (n:Nat) (c:bP) (fr:Tr AV) (D:List AD) (h:Hp):lN P G (.lp rd n c fr D h) (fk P G X ih<|.lp rd n c fr D h):=by
 simp only [fk];cases hi:ih (.cd rd n c fr D h) with
 | no=>trivial
 | rv v h1=>exact (A.mM hi).elim
 | cd e E C h1=>
   have s1:=A<|.cd rd n c fr D h;rw [hi] at s1;cases e with
   | bC=>
     simp only;have s2:=A<|.lp rd n c E C h1;cases hj:ih (.lp rd n c E C h1) with
     | no=>trivial
     | rv v I=>exact (A.BK hj).elim
     | cd L M J I=>
       rw [hj] at s2;exact dy.bind s1 s2 fun rr Q a w hw=>yq (wpIn_mono hw fun e a w he=>by
        obtain ⟨rfl,he⟩:=he; exact he)
   | ret=>exact dy.map s1 fun rr Q a w hw=>yq<|wpIn_mono hw fun e a w he=>by obtain ⟨rfl,he⟩:=he; exact he
   | ext i=>exact dy.map s1 fun rr Q a w hw=>yq<|wpIn_mono hw fun e a w he=>by obtain ⟨rfl,he⟩:=he; exact he
theorem dy.here {rd:Option Nat} {W:Option Nat→(bd→Act→ah→Prop)→Act→ah→Prop} {fr:Tr AV} {D:List AD} {h:Hp} {e:EX} (A:∀ rr Q a w,Q (jK e) a w→W rr Q a w):dy P G rd n W fr D h e fr D h:=
 ⟨aQ _,fun T r w σ Dl rr Q hT hr E C J I=>A rr Q _ w<|I r w σ Dl (St.refl hr) E C⟩
theorem tc {rd:Option Nat} {ops:List aC} :∀ {l:List aC} {fr:Tr AV} {D:List AD} {h:Hp},(∃ C A h',jY P G X ih rd n ops l fr D h= .cd .bC C A h')∨jY P G X ih rd n ops l fr D h= .no
 | [],fr,D,h=> .inl ⟨fr,D,h,rfl⟩
 | o::l,fr,D,h=>by
   simp only [jY];split
   · split
     · split
       · split
         · exact tc
         · exact .inr U
       · split
         · split
           · exact tc
           · exact .inr U
         · exact .inr U
       · exact .inr U
     · exact .inr U
   · split
     · exact tc
     · exact .inr U
   · exact .inr U
theorem Kw (E:Good P G ih) {rd:Option Nat} {g:aY} {ps:List Nat} {aT body:bP} {fr:Tr AV} {D:List AD} {h h':Hp} {v:AV} (A:o6 ih G rd n g ps aT body fr D h= .rv v h'):False:=by
 have C:∀ {fr:Tr AV} {D:List AD} {l:Nat} {h:Hp},oA G ih rd n fr D l h= .rv v h'→False:=by
  intro fr D l h A;unfold oA at A;split at A
  · split at A
    · cases A
    · rename_i J m I ps aT body d _ _;cases hc:(bh G l && aE l cj)
      · rw [hc] at A; cases A
      · rw [hc] at A;simp only [cond_true] at A;split at A
        · cases A
        · exact E.mM A
  · cases A
 unfold o6 at A;split at A
 · split at A
   · split at A
     · split at A
       · split at A
         · exact C A
         · cases A
       · cases A
     · cases A
   · split at A
     · split at A
       · split at A
         · exact C A
         · cases A
       · cases A
     · cases A
 · cases A
theorem LJ (A:Good P G ih) (ae:iG P G X) (Z:gj P) (ad:yX P G X ih) (ab:∀ f args h v h',ih (.cl f args h)= .rv v h'→∃ fn c,P.funcs[f]? =some fn∧fn.body=some c) (rd:Option Nat) (n:Nat) (c:bP) (fr:Tr AV) (D:List AD) (h:Hp):lN P G (.cd rd n c fr D h) (fk P G X ih<|.cd rd n c fr D h):=by
 cases c with
 | skip =>exact dy.here fun rr Q a w U=>wpIn_skip U
 | region id ops draw=>
   obtain ⟨ops⟩:=ops;simp only [fk];cases draw with
   | true =>
     simp only [cond_true];have :=ad rd n id ops fr D h;split at this
     · rename_i he; rw [he]; exact this
     · rename_i he; rw [he]; trivial
     · exact this.elim
   | false =>
     simp only [cond_false];rcases tc (P:=P) (G:=G) (X:=X) (ih:=ih) (n:=n) (rd:=rd) (ops:=ops) (l:=ops) (fr:=fr) (D:=D) (h:=h) with ⟨ak,ah,h',he⟩ | he
     · rw [he];obtain ⟨O,s1⟩:=qQ A ae Z ab he;exact ⟨O,fun T r w σ Dl rr Q hT hr C J M L=>wpIn_region_lit<|s1 T r w σ Dl rr Q hT hr C J M L⟩
     · rw [he]; trivial
 | seq a b=>
   simp only [fk];cases hi:ih (.cd rd n a fr D h) with
   | no=>trivial
   | rv v h1=>exact (A.mM hi).elim
   | cd e I E h1=>
     have s1:=A<|.cd rd n a fr D h;rw [hi] at s1;cases e with
     | bC=>
       simp only;have s2:=A<|.cd rd n b I E h1;cases hj:ih (.cd rd n b I E h1) with
       | no=>trivial
       | rv v ac=>exact (A.mM hj).elim
       | cd aj al ai ac=>
         rw [hj] at s2;exact dy.bind s1 s2 fun rr Q a w hw=>wpIn_seq<|wpIn_mono hw fun e a w he=>by obtain ⟨rfl,he⟩:=he; exact he
     | ret=>exact dy.map s1 fun rr Q a w hw=>wpIn_seq<|wpIn_mono hw fun e a w he=>by obtain ⟨rfl,he⟩:=he; exact he
     | ext i=>exact dy.map s1 fun rr Q a w hw=>wpIn_seq<|wpIn_mono hw fun e a w he=>by obtain ⟨rfl,he⟩:=he; exact he
 | cond x a b=>
   simp only [fk];split
   · rename_i V;have s1:=A<|.cd rd n a fr D h;cases hi:ih (.cd rd n a fr D h) with
     | no=>trivial
     | rv v h1=>exact (A.mM hi).elim
     | cd e I E h1=>
       rw [hi] at s1;obtain ⟨O,s1⟩:=s1;exact ⟨O,fun T r w σ Dl rr Q hT hr C J M L=>wpIn_cond_true (by rw [dt]; exact jg<|qO (N:=⟨n,Dl,[],rr⟩) hr.fc C V)<|s1 T r w σ Dl rr Q hT hr C J M L⟩
   · rename_i V;have s1:=A<|.cd rd n b fr D h;cases hi:ih (.cd rd n b fr D h) with
     | no=>trivial
     | rv v h1=>exact (A.mM hi).elim
     | cd e I E h1=>
       rw [hi] at s1;obtain ⟨O,s1⟩:=s1;exact ⟨O,fun T r w σ Dl rr Q hT hr C J M L=>wpIn_cond_false (by rw [dt]; exact jg<|qO (N:=⟨n,Dl,[],rr⟩) hr.fc C V)<|s1 T r w σ Dl rr Q hT hr C J M L⟩
   · trivial
 | block id c=>
   simp only [fk];cases hi:ih (.cd rd n c fr D h) with
   | no=>trivial
   | rv v h1=>exact (A.mM hi).elim
   | cd e I E h1=>
     have s1:=A<|.cd rd n c fr D h;rw [hi] at s1;cases e with
     | bC=>exact dy.map s1 fun rr Q a w hw=>wpIn_block<|wpIn_mono hw fun e a w he=>by obtain ⟨rfl,he⟩:=he; exact he
     | ret=>exact dy.map s1 fun rr Q a w hw=>wpIn_block<|wpIn_mono hw fun e a w he=>by obtain ⟨rfl,he⟩:=he; exact he
     | ext j=>
       simp only;cases hj:aP j id
       · have ag:j≠id:=fun e=>by subst e; simp at hj
         exact dy.map s1 fun rr Q a w hw=>wpIn_block (wpIn_mono hw fun e a w he=>by
          obtain ⟨rfl,he⟩:=he;simp only [jK,pJ,if_neg ag]; exact he)
       · obtain rfl :=bL hj;exact dy.map s1 fun rr Q a w hw=>wpIn_block (wpIn_mono hw fun e a w he=>by
          obtain ⟨rfl,he⟩:=he;simp only [jK,pJ,if_true]; exact he)
 | loop c=>
   simp only [fk];cases hi:ih (.lp rd n c fr D h) with
   | no=>trivial
   | rv v h1=>exact (A.BK hi).elim
   | cd e I E h1=>
     have s1:=A<|.lp rd n c fr D h;rw [hi] at s1;obtain ⟨O,s1⟩:=s1;exact ⟨O,fun T r w σ Dl rr Q hT hr C J M L=>M3<|s1 T r w σ Dl rr Q hT hr C J M L⟩
 | rangeFunc g ps aT body=>
   obtain ⟨ps⟩:=ps;simp only [fk];cases hi:o6 ih G rd n g ps aT body fr D h with
   | no=>trivial
   | rv v h1=>exact (Kw A hi).elim
   | cd e I E h1=>exact Kv A Z ab hi
 | exit id=>exact dy.here fun rr Q a w U=>wpIn_exit U
 | ret=>exact dy.here fun rr Q a w U=>wpIn_ret U
 | scope c=>trivial
 | label l=>trivial
 | goto l=>trivial
 | refuse s=>trivial
theorem LN (A:Good P G ih) (l:Nat) (args:List AV) (h:Hp):lN P G (.yl l args h) (fk P G X ih<|.yl l args h):=by
 simp only [fk];cases hi:rh G ih l args h with
 | no=>trivial
 | rv v h1=>exact Nc A hi
 | cd e fr D h1=>
   exfalso;unfold rh at hi;split at hi
   · split at hi
     · split at hi
       · split at hi
         · rename_i L J I M C E d1 _;cases hc:(bh G l && aE l cj)
           · rw [hc] at hi; cases hi
           · rw [hc] at hi;simp only [cond_true] at hi;split at hi
             · split at hi
               · split at hi <;> cases hi
               · cases hi
             · cases hi
         · cases hi
       · cases hi
     · cases hi
   · cases hi
end
end Go.Hb
namespace Go.Hb
mutual
theorem oB:∀ {a b:AV},eL a b=true→a=b
 | .bool a,.bool b,h=>by simp only [eL,beq_iff_eq] at h; rw [h]
 | .int k a,.int k' b,h=>by
   simp only [eL] at h;cases hk:aP (dK k) (dK k')
   · rw [hk] at h; cases h
   · rw [hk] at h;simp only [cond_true,decide_eq_true_iff] at h;rw [mY hk,h]
 | .str l,.str m,h=>by simp only [eL,oC,decide_eq_true_iff] at h; rw [h]
 | .ptr b o,.ptr b' o',h=>by
   simp only [eL,a9] at h;rw [bL h.1,bL h.2]
 | .gM,.gM,_=>rfl
 | .sl b o n c x,.sl b' o' n' c' x',h=>by
   simp only [eL,a9,beq_iff_eq] at h;obtain ⟨⟨h1,A⟩,h3,h4,h5⟩:=h;rw [bL h1,bL A,bL h3,bL h4,h5]
 | .aq,.aq,_=>rfl
 | .map b,.map b',h=>by simp only [eL] at h; rw [bL h]
 | .kh,.kh,_=>rfl
 | .fn f a c,.fn f' a' c',h=>by
   simp only [eL,a9] at h;rw [bL h.1,mQ h.2.1,mQ h.2.2]
 | .gA l,.gA l',h=>by simp only [eL] at h; rw [bL h]
 | .iP,.iP,_=>rfl
 | .fy t v,.fy t' v',h=>by
   simp only [eL,a9] at h;rw [bL h.1,oB h.2]
 | .cK,.cK,_=>rfl
 | .agg l,.agg m,h=>by simp only [eL] at h; rw [mQ h]
 | .bV l,.bV m,h=>by simp only [eL] at h; rw [mQ h]
theorem mQ:∀ {a b:List AV},jJ a b=true→a=b
 | [],[],_=>rfl
 | a::l,b::m,h=>by
   simp only [jJ] at h;cases hk:eL a b
   · rw [hk] at h; cases h
   · rw [hk] at h; rw [oB hk,mQ h]
 | [],_::_,h=>by simp [jJ] at h
 | _::_,[],h=>by simp [jJ] at h
end
theorem vf {c p:Bool} (h:cond c p false =true):c=true∧p=true :=by
 cases c
 · cases h
 · exact ⟨U,h⟩
theorem wX {t:Nat} :∀ {l:List Nat},qJ t l=true↔t∈l
 | []=>by simp [qJ]
 | u::l=>by
   simp only [qJ,eb];cases hb:aP t u
   · have :t≠u:=fun e=>by subst e; simp at hb
     simp only [cond_false,wX,this,false_or]
   · have :=bL hb;simp [this]
theorem An {i:Nat} :∀ {l:List bR},qq i l=true→∀ e∈l,dG .any e=true→e.on < i
 | [],_,e,he,_=>by cases he
 | x::l,h,e,he,hb=>by
   simp only [qq] at h;cases hx:(dG .any x && !(aE x.on i))
   · rw [hx] at h;rcases eb.1 he with rfl | he
     · rw [hb] at hx;simp only [Bool.true_and,Bool.not_eq_false'] at hx;exact cC.1 hx
     · exact An h e he hb
   · rw [hx] at h; cases h
def n7 (ops:List aC) (X:Nat→Prop):Prop := ∀ i o,X i→ops[i]? =some o→∀ e∈o.after.toList,dG .any e=true→X e.on
theorem xf {l:List Nat} {i:Nat} :ma l i=(l[i]?).getD 0:=by
 unfold ma
 induction l generalizing i with
 | nil=>simp [kX]
 | cons a l ih=>
   cases i with
   | zero=>simp [kX]
   | succ i=>simp [kX,ih]
theorem wV {acc:List Nat} {j:Nat} :∀ {l:List bR},rM (l7 acc l) j=true→∃ e∈l,dG .any e=true∧e.on < acc.length∧(j=e.on∨rM (ma acc e.on) j=true)
 | [],h=>by simp [l7] at h
 | e::l,h=>by
   simp only [l7] at h;cases hb:(dG .any e && aE e.on acc.length)
   · rw [hb] at h;obtain ⟨e',h1,A⟩:=wV h;exact ⟨e',gZ _ h1,A⟩
   · rw [hb] at h;simp only [a9] at hb;simp only [cond_true] at h;have h':((2 ^ e.on ||| ma acc e.on) ||| l7 acc l).testBit j=true :=h;simp only [Nat.testBit_or,nN,Nat.testBit_two_pow,decide_eq_true_iff] at h';rcases h' with (h' | h') | h'
     · exact ⟨e,hH,hb.1,cC.1 hb.2,.inl h'.symm⟩
     · exact ⟨e,hH,hb.1,cC.1 hb.2,.inr h'⟩
     · obtain ⟨e',h1,A⟩:=wV h';exact ⟨e',gZ _ h1,A⟩
theorem Ae {ops:List aC} {X:Nat→Prop} (A:n7 ops X):∀ (l:List aC) (acc:List Nat),(∀ k,l[k]? =ops[acc.length+k]?)→(∀ i j,i < acc.length→rM (ma acc i) j=true→j < i∧(X i→X j))→
 ∀ i j,rM (ma (ij l acc) i) j=true→j < i∧(X i→X j)
 | [],acc,_,ha,i,j,h=>by
   simp only [ij] at h;rcases dD i acc.length with hi | hi
   · exact ha i j hi h
   · rw [xf,jt hi] at h; simp at h
 | o::l,acc,hl,ha,i,j,h=>by
   simp only [ij] at h;refine Ae A l (acc++ [l7 acc o.after.toList]) (fun k=> ?_) (fun i j hi hb=> ?_) i j h
   · have :=hl<|k+1;simp only [iX] at this;rw [this]; congr 1; simp; omega
   · rw [xf] at hb;rcases dD i acc.length with h1 | h1
     · rw [eU h1,← xf] at hb; exact ha i j h1 hb
     · have :i=acc.length:=by simp at hi; omega
       subst this;rw [fm (aQ _)] at hb;simp only [Nat.sub_self,iD,ja] at hb;obtain ⟨e,he,I,J,C⟩:=wV hb;have L:ops[acc.length]? =some o:=by
        have :=hl 0;simpa using this.symm
       rcases C with rfl | C
       · exact ⟨J,fun E=>A _ _ E L e he I⟩
       · obtain ⟨O,M⟩:=ha _ _ J C;exact ⟨ab,fun E=>M<|A _ _ E L e he I⟩
theorem qe {ops:List aC} {X:Nat→Prop} (A:n7 ops X) {i j:Nat} (h:jB (ij ops []) i j=true):j < i∧(X i→X j):=
 Ae A ops [] (fun k=>by simp) (fun i j hi=>by simp at hi) i j h
structure uQ (ops:List aC) (dp:List Nat) (i j:Nat) (oi oj:aC):Prop where
 ne:∀ t,oi.dst=some t→oj.dst≠some t
 ap:jB dp i j=true∨((∀ t,oj.dst=some t→t∉o4 ops oi)∧∀ t,oi.dst=some t→t∉o4 ops oj)
theorem zI {ops:List aC} {I:List Nat} {i:Nat} {J:aC} :∀ {l:List aC} {b:Nat},sa ops I i J b l=true→∀ k C,l[k]? =some C→b+k < i→uQ ops I i (b+k) J C
 | [],b,_,k,C,hk,_=>by simp at hk
 | o::l,b,h,k,C,hk,hlt=>by
   simp only [sa] at h;rw [cC.2 (show b < i by omega)] at h;simp only [cond_true,a9,ky,nN] at h;cases k with
   | zero=>
     simp only [iD,bH] at hk;subst hk;refine ⟨fun t h1 A=> ?_,?_⟩
     · have :=h.1.1;rw [h1,A] at this;simp [AE] at this
     · rcases h.1.2 with h1 | ⟨h1,A⟩
       · exact .inl h1
       · refine .inr ⟨fun t E hm=> ?_,fun t E hm=> ?_⟩
         · rw [E] at h1; simp only [sU] at h1; rw [wX.2 hm] at h1; cases h1
         · rw [E] at A; simp only [sU] at A; rw [wX.2 hm] at A; cases A
   | succ k=>
     simp only [iX] at hk;have :=zI h.2 k C hk ab;rwa [show b+1 +k=b+(k+1) from by omega] at this
theorem va {ops:List aC} {E:List Nat} :∀ {l:List aC} {b:Nat},oq ops E b l=true→∀ k A,l[k]? =some A→qq (b+k) A.after.toList=true∧∀ j C,ops[j]? =some C→j < b+k→uQ ops E (b+k) j A C
 | [],b,_,k,A,hk=>by simp at hk
 | o::l,b,h,k,A,hk=>by
   simp only [oq,a9] at h;cases k with
   | zero=>
     simp only [iD,bH] at hk;subst hk;refine ⟨h.1.1,fun j C I J=> ?_⟩;have :=zI h.1.2 j C I ab;rwa [cH] at this
   | succ k=>
     simp only [iX] at hk;have :=va h.2 k A hk;rwa [show b+1 +k=b+(k+1) from by omega] at this
theorem AG {a:Option AV} {v:AV} (h:vA a v=true):a=some v:=by
 cases a with
 | none=>cases h
 | some a=>rw [oB h]
theorem Cb {P:av} {C:List Nat} {i:Nat} {o:Op} {xs:List AV} {v:AV} :∀ {l:List Rec} {b:Nat},qN P C i o xs v b l=true→∀ k q,l[k]? =some q→
 (q.k= .c→(b+k < i→jB C i (b+k)=true∨jn P o xs q.hb=some v)∧(¬b+k < i→jB C (b+k) i=true∨jn P o xs q.ha=some v))∧(q.k= .a→¬b+k < i)
 | [],b,_,k,q,hk=>by simp at hk
 | x::l,b,h,k,q,hk=>by
   simp only [qN] at h;obtain ⟨h1,E⟩:=vf h;cases k with
   | succ k=>
     simp only [iX] at hk;have :=Cb E k q hk;rwa [show b+1 +k=b+(k+1) from by omega] at this
   | zero=>
     simp only [iD,bH] at hk;subst hk;rw [lI];refine ⟨fun I=> ?_,fun ha A=> ?_⟩
     · rw [I] at h1;simp only at h1;refine ⟨fun A=> ?_,fun A=> ?_⟩
       · rw [cC.2 A] at h1;simp only [cond_true,nN] at h1;exact h1.imp id AG
       · have :aE b i=false :=by cases hb:aE b i; rfl; exact absurd (cC.1 hb) A
         rw [this] at h1;simp only [cond_false,nN] at h1;exact h1.imp id AG
     · rw [ha,cC.2 A] at h1; cases h1
theorem Ca {C:List Nat} {i:Nat} :∀ {l:List Rec} {b:Nat},qM C i b l=true→∀ k q,l[k]? =some q→(q.k= .c∨q.k= .a)→b+k < i→jB C i (b+k)=true
 | [],b,_,k,q,hk,_,_=>by simp at hk
 | x::l,b,h,k,q,hk,A,E=>by
   simp only [qM] at h;obtain ⟨h1,I⟩:=vf h;cases k with
   | succ k=>
     simp only [iX] at hk;have :=Ca I k q hk A ab;rwa [show b+1 +k=b+(k+1) from by omega] at this
   | zero=>
     simp only [iD,bH] at hk;subst hk;rw [lI] at E ⊢;rcases A with A | A <;> (rw [A] at h1; simp only at h1; rw [cC.2 E] at h1; exact h1)
theorem Cc {P:av} {E:List Nat} {rs:List Rec} :∀ {l:List aC} {m:List Rec} {b:Nat},kY P E rs b l m=true→l.length=m.length∧∀ k o q,l[k]? =some o→m[k]? =some q→(q.k= .l→qN P E (b+k) o.op q.xs q.v 0 rs=true)∧(q.k= .c→qM E (b+k) 0 rs=true)
 | [],[],b,_=>⟨rfl,fun k o q A=>by simp at A⟩
 | [],_::_,b,h=>by simp [kY] at h
 | _::_,[],b,h=>by simp [kY] at h
 | o::l,q::m,b,h=>by
   simp only [kY] at h;obtain ⟨h1,J⟩:=vf h;obtain ⟨L,M⟩:=Cc J;refine ⟨by simp [L],fun k O q' A C=> ?_⟩;cases k with
   | succ k=>
     simp only [iX] at A C;have :=M k O q' A C;rwa [show b+1 +k=b+(k+1) from by omega] at this
   | zero=>
     simp only [iD,bH] at A C;subst A; subst C;rw [lI];exact ⟨fun I=>by rw [I] at h1; exact h1,fun I=>by rw [I] at h1; exact h1⟩
end Go.Hb
namespace Go.Hb
section
variable {P:av} {G:Nat} {X:Xt} {ih:Tk→Rs} {n:Nat}
inductive Cl (P:av) (G:Nat) (o:Op) (q:Rec):Prop
 | p:q.k= .p→na P o q.xs=some q.v→q.ha=q.hb→Cl P G o q
 | l:q.k= .l→jn P o q.xs q.hb=some q.v→q.ha=q.hb→Cl P G o q
 | a (e:aw) (l:List AV):q.k= .a→o= .alloc e→rX P e=some l→cS q.hb (.cells l e 0 .x)=some q.ha→q.v= .ptr q.hb.nx 0→Cl P G o q
 | c:q.k= .c→j8 P G o q.xs q.hb q.v q.ha→Cl P G o q
structure oe (P:av) (G n:Nat) (ops:List aC) (o:aC) (q:Rec) (fr fr':Tr AV) (h h':Hp):Prop where
 hb:q.hb=h
 ha:q.ha=h'
 set :fN n fr o.dst q.v=some fr'
 run:(jN n ops fr o.guard= .y∧kn G n fr (ga o.op)=some q.xs∧Cl P G o.op q)∨(jN n ops fr o.guard= .n∧q.k= .s∧q.v= .bV []∧q.ha=q.hb)
theorem Kk (J:Good P G ih) (L:iG P G X) (I:gj P) (M:∀ f args h v h',ih (.cl f args h)= .rv v h'→∃ fn c,P.funcs[f]? =some fn∧fn.body=some c) {E:Bool} {o:Op} {xs:List AV} {h:Hp} {q:Rec} (A:xr P G X ih E o xs h=some q):q.xs=xs∧q.hb=h∧Cl P G o q:=by
 unfold xr at A;split at A
 · rename_i v hp; cases A; exact ⟨rfl,rfl,.p rfl hp rfl⟩
 · split at A
   · rename_i v C; cases A; exact ⟨rfl,rfl,.l rfl C rfl⟩
   · split at A
     · rename_i e _ _;split at A
       · rename_i l C;split at A
         · rename_i h' hn; cases A; exact ⟨rfl,rfl,.a e l rfl rfl C hn rfl⟩
         · cases A
       · cases A
     · split at A
       · rename_i v h' O; cases A; exact ⟨rfl,rfl,.c rfl (Ci J L I M O)⟩
       · cases A
theorem Cl.nx {o:Op} {q:Rec} (h:Cl P G o q):q.hb.nx≤q.ha.nx:=by
 cases h with
 | p _ _ h=>rw [h]; exact aQ _
 | l _ _ h=>rw [h]; exact aQ _
 | a e l _ _ _ h _=>have :=kg h; omega
 | c _ h=>exact h.1
theorem oe.nx {ops:List aC} {o:aC} {q:Rec} {fr C:Tr AV} {h h':Hp} (A:oe P G n ops o q fr C h h'):h.nx≤h'.nx:=by
 rw [← A.hb,← A.ha];rcases A.run with ⟨_,_,h⟩ | ⟨_,_,_,h⟩
 · exact h.nx
 · rw [h]; exact aQ _
theorem Cx (ad:Good P G ih) (ae:iG P G X) (ac:gj P) (ag:∀ f args h v h',ih (.cl f args h)= .rv v h'→∃ fn c,P.funcs[f]? =some fn∧fn.body=some c) {ops:List aC} {ab:List Nat} :∀ {l:List aC} {i:Nat} {last:Option Nat} {fr C:Tr AV} {h E:Hp} {rs:List Rec},k9 P G X ih n ops ab i last l fr h=some (rs,C,E)→
 ∃ (F:Nat→Tr AV) (H:Nat→Hp),F 0=fr∧H 0=h∧F l.length=C∧H l.length=E∧rs.length=l.length∧∀ k o q,l[k]? =some o→rs[k]? =some q→oe P G n ops o q (F k) (F<|k+1) (H k) (H<|k+1)
 | [],i,last,fr,C,h,E,rs,hr=>by
   simp only [k9,bH,hZ] at hr;obtain ⟨rfl,rfl,rfl⟩:=hr;exact ⟨fun _=>fr,fun _=>h,U,U,U,U,U,fun k o q I=>by simp at I⟩
 | o::l,i,last,fr,C,h,E,rs,hr=>by
   have key:∀ (q:Rec) (A:Tr AV) (j:Nat) (la:Option Nat) (jo:List Rec),oe P G n ops o q fr A h q.ha→k9 P G X ih n ops ab j la l A q.ha=some (jo,C,E)→rs=q::jo→
    ∃ (F:Nat→Tr AV) (H:Nat→Hp),F 0=fr∧H 0=h∧F (o::l).length=C∧H (o::l).length=E∧rs.length=(o::l).length∧∀ k M q,(o::l)[k]? =some M→rs[k]? =some q→oe P G n ops M q (F k) (F<|k+1) (H k) (H<|k+1):=by
    intro q A j la jo ar L ah;obtain ⟨F,H,h1,O,am,an,ao,ap⟩:=Cx ad ae ac ag L;refine ⟨fun k=>match k with | 0=>fr | k+1=>F k,fun k=>match k with | 0=>h | k+1=>H k,U,U,am,an,by rw [ah]; simp [ao],fun k M q' I J=> ?_⟩;subst ah;cases k with
    | zero=>
      simp only [iD,bH] at I J;subst I; subst J;simp only [h1,O]; exact ar
    | succ k=>exact ap k M q' (by simpa using I)<|by simpa using J
   simp only [k9] at hr;split at hr
   · rename_i V;split at hr
     · rename_i xs au;split at hr
       · rename_i q J;split at hr
         · rename_i A Z;split at hr
           · rename_i jo al O L;cases hr;obtain ⟨ai,aj,ak⟩:=Kk ad ae ac ag J;exact key q A _ _ jo ⟨aj,U,Z,.inl ⟨V,by rw [ai]; exact au,ak⟩⟩ L U
           · cases hr
         · cases hr
       · cases hr
     · cases hr
   · rename_i V;split at hr
     · rename_i A Z;split at hr
       · rename_i jo al O L;cases hr;exact key ⟨.s,[],.bV [],h,h⟩ A _ _ jo ⟨U,U,Z,.inr ⟨V,U,U,U⟩⟩ L U
       · cases hr
     · cases hr
   · cases hr
structure Sq (P:av) (G n:Nat) (ops:List aC) (rs:List Rec) (F:Nat→Tr AV) (H:Nat→Hp):Prop where
 len:rs.length=ops.length
 line:∀ k o q,ops[k]? =some o→rs[k]? =some q→oe P G n ops o q (F k) (F<|k+1) (H k) (H<|k+1)
 pair:∀ i j oi oj,ops[i]? =some oi→ops[j]? =some oj→j < i→uQ ops (ij ops []) i j oi oj
 oz:∀ i o,ops[i]? =some o→∀ e∈o.after.toList,dG .any e=true→e.on < i
theorem CU {fr C:Tr AV} {d:Option Nat} {v:AV} (A:fN n fr d v=some C) (t:Nat):dg C t=if d=some t then v else dg fr t:=by
 cases d with
 | none=>simp only [fN,bH] at A; subst A; simp
 | some d=>
   simp only [fN] at A;replace A:=aZ A; obtain ⟨E,A⟩:=A;simp only [a9] at E;cases A;simp only [dg,Tr.kQ _ _ _ _ E.2,bH];by_cases e:t=d
   · subst e; simp
   · rw [if_neg e,if_neg (fun x=>e x.symm)]
variable {ops:List aC} {rs:List Rec} {F:Nat→Tr AV} {H:Nat→Hp}
theorem Sq.get (s:Sq P G n ops rs F H) {i:Nat} {o:aC} (A:ops[i]? =some o):∃ q,rs[i]? =some q:=by
 have :=(cB.1 A).1;exact ⟨rs[i]'(by rw [s.len]; exact this),bt _⟩
theorem Sq.get' (s:Sq P G n ops rs F H) {i:Nat} {q:Rec} (A:rs[i]? =some q):∃ o,ops[i]? =some o:=by
 have :=(cB.1 A).1;exact ⟨ops[i]'(by rw [← s.len]; exact this),bt _⟩
theorem Sq.slot (s:Sq P G n ops rs F H) (t:Nat):∀ k,k≤ops.length→(∃ j o q,j < k∧ops[j]? =some o∧o.dst=some t∧rs[j]? =some q∧dg (F k) t=q.v)∨((∀ j o,j < k→ops[j]? =some o→o.dst≠some t)∧dg (F k) t=dg (F 0) t)
 | 0,_=> .inr ⟨fun j o h=>by omega,rfl⟩
 | k+1,hk=>by
   have A:ops[k]? =some (ops[k]'ab):=bt _;generalize ops[k]'ab=o at A;obtain ⟨q,L⟩:=s.get A;have V:=s.line k o q A L;rw [CU V.set t];by_cases e:o.dst=some t
   · rw [if_pos e]; exact .inl ⟨k,o,q,mD _,A,e,L,rfl⟩
   · rw [if_neg e];rcases s.slot t k ab with ⟨j,J,q',h1,C,M,O,U⟩ | ⟨h1,C⟩
     · exact .inl ⟨j,J,q',ab,C,M,O,U⟩
     · refine .inr ⟨fun j J E I=> ?_,C⟩;rcases Fj.1 E with E | rfl
       · exact h1 j J E I
       · rw [A] at I; cases I; exact e
def mJ (ops:List aC) (rs:List Rec) (f0:Tr AV) (Y:Nat→Prop) (fx:Tr AV):Prop := ∀ t,(∃ j o q,Y j∧ops[j]? =some o∧o.dst=some t∧rs[j]? =some q∧dg fx t=q.v)∨((∀ j o,Y j→ops[j]? =some o→o.dst≠some t)∧dg fx t=dg f0 t)
theorem mJ.set {f0 fx J:Tr AV} {Y:Nat→Prop} (O:mJ ops rs f0 Y fx) {i:Nat} {o:aC} {q:Rec} (L:ops[i]? =some o) (M:rs[i]? =some q) (h:fN n fx o.dst q.v=some J):mJ ops rs f0 (fun j=>Y j∨j=i) J:=by
 intro t;rw [CU h t];by_cases e:o.dst=some t
 · rw [if_pos e]; exact .inl ⟨i,o,q,.inr rfl,L,e,M,rfl⟩
 · rw [if_neg e];rcases O t with ⟨j,I,q',h1,A⟩ | ⟨h1,A⟩
   · exact .inl ⟨j,I,q',.inl h1,A⟩
   · refine .inr ⟨fun j I C E=> ?_,A⟩;rcases C with C | rfl
     · exact h1 j I C E
     · rw [L] at E; cases E; exact e
theorem KY {fr C:Tr AV} {d:Option Nat} {v:AV} (A:fN n fr d v=some C) (fx:Tr AV):∃ E,fN n fx d v=some E:=by
 cases d with
 | none=>exact ⟨fx,rfl⟩
 | some d=>
   simp only [fN] at A ⊢;replace A:=aZ A; obtain ⟨I,A⟩:=A;rw [I]; exact ⟨_,rfl⟩
theorem Sq.FK (s:Sq P G n ops rs F H) {Y:Nat→Prop} (ai:n7 ops Y) {i:Nat} {o:aC} (Z:ops[i]? =some o) (hi:¬Y i) (hr:n7 ops (fun j=>Y j∨j=i)) {fx:Tr AV} (ad:mJ ops rs (F 0) Y fx) {t:Nat} (ae:t∈o4 ops o):dg fx t=dg (F i) t:=by
 have ak:=(cB.1 Z).1;rcases s.slot t i ab with ⟨j,U,al,h1,J,O,ag,ah⟩ | ⟨h1,J⟩
 · have hp:=s.pair i j o U Z J h1;have aj:Y j:=by
    rcases hp.ap with hb | ⟨hb,_⟩
    · rcases (qe hr hb).2 (.inr rfl) with h | h
      · exact h
      · omega
    · exact absurd ae<|hb t O
   rcases ad t with ⟨C,M,q',I,A,L,V,ac⟩ | ⟨I,A⟩
   · have :C=j:=by
      rcases rJ C j with E | he | E
      · exact absurd L<|(s.pair j C U M J A E).ne t O
      · exact he
      · exact absurd O<|(s.pair C j M U A J E).ne t L
     subst this;rw [ag] at V; cases V;rw [ac,ah]
   · exact absurd O<|I j U aj J
 · rcases ad t with ⟨C,M,q',I,A,L,V,ac⟩ | ⟨I,A⟩
   · exfalso;rcases rJ C i with E | he | E
     · exact h1 C M E A L
     · subst he; exact hi I
     · rcases (s.pair C i M o A Z E).ap with hb | ⟨_,hb⟩
       · exact hi<|(qe ai hb).2 I
       · exact hb t L ae
   · rw [A,J]
theorem JZ {fr fx:Tr AV} {x:aY} (h:∀ t,x= .tmp t→dg fx t=dg fr t):km G n fx x=km G n fr x:=by
 cases x with
 | tmp t=>simp only [km,h t rfl]
 | const v=>rfl
 | func f=>rfl
 | global g=>rfl
theorem Cf {fr fx:Tr AV} :∀ {l:List aY},(∀ t∈pq l,dg fx t=dg fr t)→kn G n fx l=kn G n fr l
 | [],_=>rfl
 | x::l,h=>by
   simp only [kn];rw [JZ (fr:=fr) (fx:=fx) fun t e=>h t (by subst e; simp [pq]),Cf (fr:=fr) (fx:=fx) (l:=l) fun t A=>h t (by cases x <;> simp [pq,A])]
theorem If {fr fx:Tr AV} {g:Option (Nat×Bool)} (h:∀ t∈vV ops g,dg fx t=dg fr t):jN n ops fx g=jN n ops fr g:=by
 unfold jN;cases g with
 | none=>rfl
 | some p=>
   obtain ⟨j,want⟩:=p;simp only;cases hj:ops[j]? with
   | none=>rfl
   | some q=>
     simp only;cases hd:q.dst with
     | none=>rfl
     | some t=>
       simp only;rw [h t (by simp [vV,hj,hd])]
theorem Sq.done (s:Sq P G n ops rs F H) {Y:Nat→Prop} (ae:∀ j,j < ops.length→Y j) {fx:Tr AV} (ab:mJ ops rs (F 0) Y fx) (t:Nat):dg fx t=dg (F ops.length) t:=by
 rcases s.slot t ops.length (aQ _) with ⟨j,V,ag,h1,E,O,ac,ad⟩ | ⟨h1,E⟩
 · rcases ab t with ⟨C,L,q',I,A,J,M,Z⟩ | ⟨I,A⟩
   · have :C=j:=by
      rcases rJ C j with U | he | U
      · exact absurd J<|(s.pair j C V L E A U).ne t O
      · exact he
      · exact absurd O<|(s.pair C j L V A E U).ne t J
     subst this;rw [ac] at M; cases M;rw [Z,ad]
   · exact absurd O<|I j V (ae j h1) E
 · rcases ab t with ⟨C,L,q',I,A,J,M,Z⟩ | ⟨I,A⟩
   · exact absurd J<|h1 C L (cB.1 A).1 A
   · rw [A,E]
theorem Sq.mono (s:Sq P G n ops rs F H) {i:Nat} :∀ {k:Nat},i≤k→k≤ops.length→(H i).nx≤(H k).nx
 | 0,h,_=>by have :i=0:=ab
             subst this; exact aQ _
 | k+1,h,hk=>by
   rcases dD k i with E | hle
   · have :i=k+1:=ab;subst this; exact aQ _
   · have A:ops[k]? =some (ops[k]'ab):=bt _;obtain ⟨q,C⟩:=s.get A;exact cG (s.mono hle ab) (s.line k _ q A C).nx
theorem FM {e:aw} {l:List AV} (ha:rX P e=some l):dX l=true∧∃ us:List ag,(∀ r,aK r l=some us)∧∀ (N:Fm) (σ:Nat→ag) (dst:Option Nat) (ty:aw) (pos :String) (af:Array bR) (g:Option (Nat×Bool)) (w:ah),
 (execOp (ev N σ) ⟨dst,.alloc e,ty,pos,af,g⟩).run P w= .ok (.value<|.pointer<|some ⟨w.heap.size,0,none⟩) {w with heap:=w.heap.push<|.cells us.toArray e (0,0)} :=by
 unfold rX at ha;split at ha
 · rename_i J A;split at ha
   · rename_i L E;replace ha:=aZ ha; obtain ⟨C,ha⟩:=ha;cases ha;refine ⟨C,J,fun r=>oR (r:=r) (fun v a=>mb 4) E,fun N σ dst ty pos af g w=> ?_⟩;unfold zeroOf at A;simp only [fQ] at A;obtain ⟨i,hi,zv,I,rfl⟩:=A;simp [execOp,ug,zeroValue,dh hi,I,newVar,newRow]
   · cases ha
 · cases ha
end
end Go.Hb
namespace Go.Hb
section
variable {P:av} {G n T:Nat} {ops:List aC} {rs:List Rec} {F:Nat→Tr AV} {H:Nat→Hp} {r0 r:Rn} {w0 w:ah} {h0:Hp} {Y:Nat→Prop} {lo:Nat}
structure HD (P:av) (G T:Nat) (ops:List aC) (rs:List Rec) (H:Nat→Hp) (r0:Rn) (w0:ah) (h0:Hp) (Y:Nat→Prop) (lo:Nat) (r:Rn) (w:ah):Prop where
 hi:lo≤rs.length
 lc:∀ j q,rs[j]? =some q→q.k= .c→(Y j↔j < lo)
 la:∀ j q,rs[j]? =some q→q.k= .a→j < lo→Y j
 hr:HR P G r 0 (H lo) w
 new:∀ i,(H lo).nx≤i→i < T→r i=none∨∃ j q,Y j∧lo≤j∧rs[j]? =some q∧q.k= .a∧q.hb.nx=i
 k0:∀ j q,Y j→lo≤j→rs[j]? =some q→q.k= .a→∃ k,r q.hb.nx=some ⟨k,0,0⟩∧w0.heap.size≤k∧(∀ i o q',(H lo).t.get i=some o→r i=some q'→q'.an≠k)∧
  ∃ e l us,cS q.hb (.cells l e 0 .x)=some q.ha∧(∀ r,aK r l=some us)∧dX l=true∧w.heap[k]? =some (.cells us.toArray e (0,0))
 oX:∀ j j' q q' x x',Y j→lo≤j→rs[j]? =some q→q.k= .a→Y j'→lo≤j'→rs[j']? =some q'→q'.k= .a→r q.hb.nx=some x→r q'.hb.nx=some x'→x.an=x'.an→j=j'
 le:r0.le r
 md:Md (Fr G r0 h0) w0 w
 dW:∀ g,g≤G→∀ k,k < w0.heap.size→Fr g r (H lo) k→Fr g r0 h0 k
 out:∀ i,(H ops.length).nx≤i→r i=r0 i
theorem Sq.fresh (s:Sq P G n ops rs F H) {j:Nat} {q:Rec} (E:rs[j]? =some q) (C:q.k= .a):q.hb=H j∧q.ha=H (j+1)∧(H<|j+1).nx=(H j).nx+1:=by
 obtain ⟨o,I⟩:=s.get' E;have A:=s.line j o q I E;refine ⟨A.hb,A.ha,?_⟩;rw [← A.hb,← A.ha];rcases A.run with ⟨_,_,h⟩ | ⟨_,h,_,_⟩
 · cases h with
   | p h _ _=>rw [C] at h; cases h
   | l h _ _=>rw [C] at h; cases h
   | a e l _ _ _ h _=>exact kg h
   | c h _=>rw [C] at h; cases h
 · rw [C] at h; cases h
theorem Sq.alt (s:Sq P G n ops rs F H) {j i:Nat} {q q':Rec} (J:rs[j]? =some q) (E:q.k= .a) (A:rs[i]? =some q') (I:q'.k= .a) (V:j < i):q.hb.nx < q'.hb.nx:=by
 obtain ⟨h1,O,U⟩:=s.fresh J E;obtain ⟨C,L,M⟩:=s.fresh A I;have :=s.mono (i:=j+1) (k:=i) ab<|by have :=(cB.1 A).1; have :=s.len; omega
 rw [h1,C]; omega
theorem Sq.FL (s:Sq P G n ops rs F H) {j i:Nat} {q q':Rec} (E:rs[j]? =some q) (A:q.k= .a) (I:rs[i]? =some q') (C:q'.k= .a) (he:q.hb.nx=q'.hb.nx):j=i:=by
 rcases rJ j i with h | h | h
 · have :=s.alt E A I C h; omega
 · exact h
 · have :=s.alt I C E A h; omega
theorem HD.yf (A:HD P G T ops rs H r0 w0 h0 Y lo r w) {q:Rec} (U:rs[lo]? =some q) (he:H (lo+1)=H lo) (ac:q.k≠.c) (ha:q.k≠.a):HD P G T ops rs H r0 w0 h0 Y (lo+1) r w:=by
 have E:∀ j q',rs[j]? =some q'→(q'.k= .c∨q'.k= .a)→j≠lo:=fun j q' E ad e=>by
  subst e; rw [U] at E; cases E;rcases ad with h | h
  · exact ac h
  · exact ha h
 refine ⟨(cB.1 U).1,fun j q' h1 C=> ?_,fun j q' h1 C O=>A.la j q' h1 C (by have :=E j q' h1 (.inr C); omega),by rw [he]; exact A.hr,fun i h1 C=> ?_,fun j q' h1 C O Z=>by rw [he]; exact A.k0 j q' h1 ab O Z,fun j ae ag ah x ai L V I J M aj=>A.oX j ae ag ah x ai L ab I J M ab,A.le,A.md,by rw [he]; exact A.dW,A.out⟩
 · rw [A.lc j q' h1 C]; have :=E j q' h1 (.inl C); omega
 · rw [he] at h1;rcases A.new i h1 C with h | ⟨j,q',L,V,I,J,M⟩
   · exact .inl h
   · exact .inr ⟨j,q',L,by have :=E j q' I (.inr J); omega,I,J,M⟩
theorem HD.Ma (s:Sq P G n ops rs F H) (A:HD P G T ops rs H r0 w0 h0 Y lo r w) {q:Rec} (L:rs[lo]? =some q) (ha:q.k= .a) (Z:Y lo):HD P G T ops rs H r0 w0 h0 Y (lo+1) r w:=by
 obtain ⟨f1,f2,f3⟩:=s.fresh L ha;obtain ⟨k,M,aA,ap,e,l,us,hn,ar,h1,hw⟩:=A.k0 lo q Z (aQ _) L ha;rw [f1] at M;rw [f1,f2] at hn;unfold cS at hn;replace hn:=aZ hn; obtain ⟨U,hn⟩:=hn;simp only [bH] at hn;have aB:(H<|lo+1).nx=(H lo).nx+1:=f3;refine ⟨(cB.1 L).1,fun j q' h1 E=> ?_,fun j q' h1 E ak=> ?_,?_,fun i h1 E=> ?_,fun j q' I ad C J=> ?_,fun j au aw ax x ay I ad C J O az=>A.oX j au aw ax x ay I ab C J O ab,A.le,A.md,?_,A.out⟩
 · rw [A.lc j q' h1 E];have :j≠lo:=fun e=>by subst e; rw [L] at h1; cases h1; rw [ha] at E; cases E
   omega
 · rcases Fj.1 ak with h | rfl
   · exact A.la j q' h1 E h
   · exact Z
 · rw [← hn];exact A.hr.put (r':=r) (w':=w) (q:=⟨k,0,0⟩) (Rn.le_refl r) U M (by rw [hw]; exact xl (ar r) h1) (fun _ _ _=>rfl) (fun j av q' _ am hr=>ap j av q' am hr) (lJ _) fun _ _ an=>absurd an<|uK _
 · rcases A.new i ab E with h | ⟨j,q',I,ad,C,J,O⟩
   · exact .inl h
   · refine .inr ⟨j,q',I,?_,C,J,O⟩;rcases dD lo j with h | h
     · exact h
     · have :j=lo:=ab;subst this;rw [L] at C; cases C;rw [f1] at O; omega
 · obtain ⟨ac,ae,ah,ai,aj⟩:=A.k0 j q' I ab C J;refine ⟨ac,ae,ah,fun i o x hi V=> ?_,aj⟩;rw [← hn] at hi;simp only [Tr.kQ _ _ _ _ U] at hi;split at hi
   · rename_i e; subst e;intro hb;rw [M] at V; cases V;have :=A.oX lo j q q' _ _ Z (aQ _) L ha I ab C J (by rw [f1]; exact M) ae hb;omega
   · exact ai i o x hi V
 · intro g al ac ao ag;rw [← hn] at ag;rcases Fr.set U M (Rn.le_refl r) A.hr ag with h | h
   · simp only at h; omega
   · exact A.dW g al ac ao h
theorem HD.up (s:Sq P G n ops rs F H) (E:HD P G T ops rs H r0 w0 h0 Y lo r w) {q:Rec} (A:rs[lo]? =some q) (C:q.k≠.c) (ha:q.k= .a→Y lo):HD P G T ops rs H r0 w0 h0 Y (lo+1) r w:=by
 obtain ⟨o,J⟩:=s.get' A;have I:=s.line lo o q J A;have same:q.ha=q.hb→H (lo+1)=H lo:=fun h=>by rw [← I.hb,← I.ha,h]
 rcases I.run with ⟨_,_,h⟩ | ⟨_,h,_,h'⟩
 · cases h with
   | p h _ h'=>exact E.yf A (same h') C<|by rw [h]; intro h; cases h
   | l h _ h'=>exact E.yf A (same h') C<|by rw [h]; intro h; cases h
   | a e l h _ _ _ _=>exact E.Ma s A h<|ha h
   | c h _=>exact absurd h C
 · exact E.yf A (same h') C<|by rw [h]; intro h; cases h
theorem HD.yg (s:Sq P G n ops rs F H) (A:HD P G T ops rs H r0 w0 h0 Y lo r w):∀ (i:Nat),lo≤i→i≤rs.length→(∀ j q,lo≤j→j < i→rs[j]? =some q→q.k≠.c∧(q.k= .a→Y j))→HD P G T ops rs H r0 w0 h0 Y i r w
 | 0,h,_,_=>by have :lo=0:=ab
               subst this; exact A
 | i+1,h,hi,hall=>by
   rcases dD i lo with E | hle
   · have :lo=i+1:=ab;subst this; exact A
   · have h':=HD.yg s A i hle ab fun j q a b c=>hall j q a ab c;have C:rs[i]? =some (rs[i]'ab):=bt _;exact h'.up s C (hall i _ hle (mD _) C).1 (hall i _ hle (mD _) C).2
theorem HD.skip (A:HD P G T ops rs H r0 w0 h0 Y lo r w) {i:Nat} {q:Rec} (ai:rs[i]? =some q) (ag:q.k≠.c) (ha:q.k≠.a):HD P G T ops rs H r0 w0 h0 (fun j=>Y j∨j=i) lo r w:=by
 have C:∀ j q',rs[j]? =some q'→(q'.k= .c∨q'.k= .a)→(Y j∨j=i)→Y j:=fun j q' C ah aj=>by
  rcases aj with h | rfl
  · exact h
  · rw [ai] at C; cases C;rcases ah with h | h
    · exact absurd h ag
    · exact absurd h ha
 refine ⟨A.hi,fun j q' h1 E=> ?_,fun j q' h1 E ae=> .inl (A.la j q' h1 E ae),A.hr,fun i h1 E=> ?_,fun j q' I J L M=>A.k0 j q' (C j q' L (.inr M) I) J L M,fun j V Z ab x ak I J L M ac ad O U=>A.oX j V Z ab x ak (C j Z L (.inr M) I) J L M (C V ab O (.inr U) ac) ad O U,A.le,A.md,A.dW,A.out⟩
 · rw [← A.lc j q' h1 E]; exact ⟨C j q' h1 (.inl E),.inl⟩
 · rcases A.new i h1 E with h | ⟨j,q',I,J⟩
   · exact .inl h
   · exact .inr ⟨j,q',.inl I,J⟩
theorem HR.grow {h:Hp} {r':Rn} {w':ah} (hr:HR P G r 0 h w) (hle:r.le r') (hw:∀ k,k < w.heap.size→w'.heap[k]? =w.heap[k]?):HR P G r' 0 h w':=by
 refine ⟨fun i o hi=> ?_,fun i j o J q q' hi I h1 A he=> ?_,fun i _ h=>absurd h (uK _),hr.fc.le hle,hr.base⟩
 · obtain ⟨q,h1,A⟩:=hr.live i o hi;refine ⟨q,hle _ _ h1,?_⟩;rw [hw _ (hr.lt hi h1)];exact A.le hle
 · obtain ⟨x,C,_⟩:=hr.live i o hi;obtain ⟨L,E,_⟩:=hr.live j J I;rw [hle _ _ C] at h1; cases h1;rw [hle _ _ E] at A; cases A;exact hr.inj i j o J _ _ hi I C E he
theorem HD.early (s:Sq P G n ops rs F H) (A:HD P G T ops rs H r0 w0 h0 Y lo r w) (hT:(H ops.length).nx≤T) {i:Nat} {q:Rec} {e:aw} {l:List AV} {us:List ag} (M:rs[i]? =some q) (V:q.k= .a) (aF:¬Y i) (hn:cS q.hb (.cells l e 0 .x)=some q.ha) (aR:∀ r,aK r l=some us) (h1:dX l=true):
 r.le (r.ext q.hb.nx ⟨w.heap.size,0,0⟩)∧HD P G T ops rs H r0 w0 h0 (fun j=>Y j∨j=i) lo (r.ext q.hb.nx ⟨w.heap.size,0,0⟩) {w with heap:=w.heap.push<|.cells us.toArray e (0,0)} :=by
 obtain ⟨f1,f2,f3⟩:=s.fresh M V;have aP:i < ops.length:=by rw [← s.len]; exact (cB.1 M).1
 have aH:lo≤i:=by
  rcases dD i lo with h | h
  · exact absurd (A.la i q M V h) aF
  · exact h
 have m1:=s.mono aH<|Nat.le_of_lt aP;have aS:=s.mono (i:=i+1) (k:=ops.length) ab<|aQ _;have aM:r q.hb.nx=none:=by
  rw [f1];rcases A.new (H i).nx m1 ab with h | ⟨j,q',E,Z,I,ac,L⟩
  · exact h
  · have :=s.FL I ac M V<|by rw [L,f1]
    subst this; exact absurd E aF
 have hle:=Rn.qG (r:=r) (i:=q.hb.nx) ⟨w.heap.size,0,0⟩ aM;have aG:∀ k,k < w.heap.size→({w with heap:=w.heap.push<|.cells us.toArray e (0,0)} :ah).heap[k]? =w.heap[k]? :=fun k V=>by
  simp only [tZ]; rw [if_neg ab]
 have live:∀ j o x,(H lo).t.get j=some o→(r.ext q.hb.nx ⟨w.heap.size,0,0⟩) j=some x→r j=some x:=fun j o x h1 aE=>by
  obtain ⟨am,C,_⟩:=A.hr.live j o h1;rw [hle _ _ C] at aE; cases aE; exact C
 refine ⟨hle,A.hi,fun j q' C J=> ?_,fun j q' C J aj=> .inl (A.la j q' C J aj),A.hr.grow hle aG,fun al C J=> ?_,fun j q' E Z I ac=> ?_,fun j ay O az x am E Z I ac L ao ad ap ar ai au=> ?_,Rn.le_trans A.le hle,Md.trans' A.md (JB w _ fun _=>False) (fun _ _ h=>h.elim),fun g aN k V aL=> ?_,fun al aO=> ?_⟩
 · rw [← A.lc j q' C J];refine ⟨fun h=> ?_,.inl⟩;rcases h with h | rfl
   · exact h
   · rw [M] at C; cases C; rw [V] at J; cases J
 · by_cases he:al=q.hb.nx
   · exact .inr ⟨i,q,.inr U,aH,M,V,he.symm⟩
   · rw [Rn.jL _ _ he];rcases A.new al C J with h | ⟨j,q',E,Z⟩
     · exact .inl h
     · exact .inr ⟨j,q',.inl E,Z⟩
 · rcases E with E | rfl
   · obtain ⟨k,C,J,aj,e',aI,aJ,aB,aC,aD,ak⟩:=A.k0 j q' E Z I ac;exact ⟨k,hle _ _ C,J,fun i o x hi ax=>aj i o x hi (live i o x hi ax),e',aI,aJ,aB,aC,aD,by rw [aG k (dq.1 ak).1]; exact ak⟩
   · rw [M] at I; cases I;refine ⟨w.heap.size,Rn.gJ _ _ _,A.md.size,fun i o x hi ax=> ?_,e,l,us,hn,aR,h1,by simp⟩;have :=A.hr.lt hi<|live i o x hi ax;omega
 · have dW:∀ j O x,Y j→lo≤j→rs[j]? =some O→O.k= .a→(r.ext q.hb.nx ⟨w.heap.size,0,0⟩) O.hb.nx=some x→r O.hb.nx=some x∧x.an < w.heap.size:=fun j O x ae c2 c3 av aA=>by
    obtain ⟨k,C,J,aj,e',aI,aJ,aB,aC,aD,ak⟩:=A.k0 j O ae c2 c3 av;rw [hle _ _ C] at aA; cases aA;exact ⟨C,(dq.1 ak).1⟩
   rcases E with E | rfl
   · obtain ⟨ae,c2⟩:=dW j O x E Z I ac ar;rcases L with L | rfl
     · obtain ⟨d1,d2⟩:=dW ay az am L ao ad ap ai;exact A.oX j ay O az x am E Z I ac L ao ad ap ae d1 au
     · rw [M] at ad; cases ad;rw [Rn.gJ] at ai; cases ai;simp only at au; omega
   · rw [M] at I; cases I;rw [Rn.gJ] at ar; cases ar;rcases L with L | rfl
     · obtain ⟨d1,d2⟩:=dW ay az am L ao ad ap ai;simp only at au; omega
     · rfl
 · obtain ⟨j,o,x,ae,c2,c3,av⟩:=aL;exact A.dW g aN k V ⟨j,o,x,ae,c2,live j o x c2 c3,av⟩
 · rw [Rn.jL _ _ (by rw [f1]; omega)]; exact A.out al aO
theorem HD.Iu (s:Sq P G n ops rs F H) (A:HD P G T ops rs H r0 w0 h0 Y lo r w) (hT:(H ops.length).nx≤T) {q:Rec} (I:rs[lo]? =some q) (L:q.k= .c):HR P G r (H<|lo+1).nx (H lo) w:=by
 have V:lo < ops.length:=by rw [← s.len]; exact (cB.1 I).1
 have Z:=s.mono (i:=lo+1) (k:=ops.length) ab<|aQ _;refine ⟨A.hr.live,A.hr.inj,fun i h1 U=> ?_,A.hr.fc,A.hr.base⟩;rcases A.new i h1 ab with h | ⟨j,q',M,O,C,E,J⟩
 · exact h
 · exfalso;obtain ⟨f1,f2,f3⟩:=s.fresh C E;have :j≠lo:=fun e=>by subst e; rw [I] at C; cases C; rw [L] at E; cases E
   have :=s.mono (i:=lo+1) (k:=j) ab<|by have :=(cB.1 C).1; have :=s.len; omega
   rw [f1] at J; omega
theorem HD.LZ (s:Sq P G n ops rs F H) (A:HD P G T ops rs H r0 w0 h0 Y lo r w) {q:Rec} (am:rs[lo]? =some q) (M:q.k= .c) {r':Rn} {w':ah} (st:St P G (H<|lo+1).nx r (H lo) w r' (H<|lo+1) w'):HD P G T ops rs H r0 w0 h0 (fun j=>Y j∨j=lo) (lo+1) r' w':=by
 have aJ:lo < ops.length:=by rw [← s.len]; exact (cB.1 am).1
 have aF:=s.mono (i:=lo+1) (k:=ops.length) ab<|aQ _;have al:∀ j q',rs[j]? =some q'→q'.k= .a→j≠lo:=fun j q' h1 ac e=>by subst e; rw [am] at h1; cases h1; rw [M] at ac; cases ac
 have O:∀ j q',rs[j]? =some q'→q'.k= .a→(Y j∨j=lo)→Y j:=fun j q' h1 ac aB=>aB.resolve_right<|al j q' h1 ac;refine ⟨(cB.1 am).1,fun j q' C J=> ?_,fun j q' C J aj=> ?_,⟨st.hr.live,st.hr.inj,fun i _ h=>absurd h (uK _),st.hr.fc,st.hr.base⟩,fun i C J=> ?_,fun j q' L ao E I=> ?_,fun j ad ae ag x aL L ao E I U aI V Z ap ar ax=> ?_,Rn.le_trans A.le st.le,Md.trans' A.md st.md (fun k M ak=>A.dW G (aQ _) k M ak),fun g aw k M ak=>A.dW g aw k M (st.dW g aw k (mC M A.md.size) ak),fun i hi=>(st.out i<|cG aF hi).trans<|A.out i hi⟩
 · rw [A.lc j q' C J]; omega
 · have :=al j q' C J;exact .inl<|A.la j q' C J ab
 · rw [st.out i C];rcases A.new i (cG st.nx C) J with h | ⟨j,q',L,ao,E,I,U⟩
   · exact .inl h
   · have :=al j q' E I;exact .inr ⟨j,q',.inl L,ab,E,I,U⟩
 · obtain ⟨k,C,J,aj,e',aE,aH,ay,az,aA,av⟩:=A.k0 j q' (O j q' E I L) ab E I;have aC:=(dq.1 av).1;refine ⟨k,st.le _ _ C,J,fun i o x hi aD hb=> ?_,e',aE,aH,ay,az,aA,st.md.an av fun ⟨i,o,x,_,c2,c3,ai⟩=>aj i o x c2 c3 ai⟩;obtain ⟨i2,aG,x2,_,c2,c3,ai⟩:=st.dW 0 (hO _) k aC ⟨i,o,x,hO _,hi,aD,hb⟩;exact aj i2 aG x2 c2 c3 ai
 · obtain ⟨k,C,_⟩:=A.k0 j ae (O j ae E I L) ab E I;obtain ⟨aK,au,_⟩:=A.k0 ad ag (O ad ag V Z U) ab V Z;rw [st.le _ _ C] at ap; cases ap;rw [st.le _ _ au] at ar; cases ar;exact A.oX j ad ae ag _ _ (O j ae E I L) ab E I (O ad ag V Z U) ab V Z C au ax
theorem HD.done (s:Sq P G n ops rs F H) (E:HD P G T ops rs H r0 w0 (H 0) Y lo r w) (hT:(H ops.length).nx≤T) (I:∀ j,j < ops.length→Y j):St P G T r0 (H 0) w0 r (H ops.length) w:=by
 have A:=E.yg s ops.length (by have :=E.hi; rw [s.len] at this; exact this) (by rw [s.len]; exact aQ _) fun j q h1 C L=>⟨fun M=>by have :=(E.lc j q L M).1 (I j C); omega,fun _=>I j C⟩
 refine ⟨A.le,⟨A.hr.live,A.hr.inj,fun i h1 C=> ?_,A.hr.fc,A.hr.base⟩,s.mono (hO _) (aQ _),A.md,A.dW,A.out⟩;rcases A.new i h1 C with h | ⟨j,q',O,U,J,V,Z⟩
 · exact h
 · have :=(cB.1 J).1; have :=s.len; omega
theorem HD.start (s:Sq P G n ops rs F H) (hr:HR P G r0 T (H 0) w0) (A:∀ j,¬Y j):HD P G T ops rs H r0 w0 (H 0) Y 0 r0 w0:=
 ⟨hO _,fun j q _ _=>⟨fun h=>absurd h (A j),fun h=>by omega⟩,fun j q _ _ h=>by omega,⟨hr.live,hr.inj,fun i _ h=>absurd h (uK _),hr.fc,hr.base⟩,fun i h1 C=> .inl (hr.new i h1 C),fun j q h=>absurd h (A j),fun j E q q' x I h=>absurd h (A j),Rn.le_refl _,Md.refl _ _,fun _ _ _ _ h=>h,fun _ _=>rfl⟩
end
end Go.Hb
namespace Go.Hb
section
variable {P:av} {G n T:Nat} {ops:List aC} {rs:List Rec} {F:Nat→Tr AV} {H:Nat→Hp}
def Yl (listed:Array Bool) (j:Nat):Prop :=listed[j]? =some true
theorem FE {listed:Array Bool} {i:Nat} (hi:i < listed.size):Yl (listed.setIfInBounds i true)=fun j=>Yl listed j∨j=i:=by
 funext j;apply propext;unfold Yl;rw [rj];by_cases e:i=j
 · subst e; simp [hi]
 · rw [if_neg e];exact ⟨.inl,fun h=>h.resolve_right fun x=>e x.symm⟩
theorem filter_le {p p':Nat→Bool} (h:∀ j,p' j=true→p j=true):∀ l:List Nat,(l.filter p').length≤(l.filter p).length
 | []=>aQ _
 | a::l=>by
   have :=filter_le h l;simp only [EY];cases hp:p' a
   · cases p a
     · simpa using this
     · simp only [if_true,mw,if_false,dm]; omega
   · rw [h a hp]; simp only [if_true,dm]; omega
theorem filter_lt {p p':Nat→Bool} (h:∀ j,p' j=true→p j=true) {i:Nat} (hp:p i=true) (A:p' i=false):∀ {l:List Nat},i∈l→(l.filter p').length < (l.filter p).length
 | a::l,hm=>by
   simp only [EY];rcases eb.1 hm with rfl | hm
   · rw [hp,A];have :=filter_le h l;simp only [if_true,mw,if_false,dm]; omega
   · have :=filter_lt h hp A hm;cases hq:p' a
     · cases p a
       · simpa using this
       · simp only [if_true,mw,if_false,dm]; omega
     · rw [h a hq]; simp only [if_true,dm]; omega
def un (m:Nat) (listed:Array Bool):Nat:=((iZ m).filter fun i=> !listed.getD i true).length
theorem L9 {m:Nat} {listed:Array Bool} {i:Nat} (hm:i < m) (hi:listed[i]? =some false):un m (listed.setIfInBounds i true) < un m listed:=by
 have C:=(dq.1 hi).1;refine filter_lt (i:=i) (fun j A=> ?_) ?_ ?_ (lH.2 hm)
 · simp only [ky] at A ⊢;rw [iV,rj] at A;rw [iV];by_cases e:i=j
   · subst e; rw [if_pos rfl,if_pos C] at A; simp at A
   · rw [if_neg e] at A; exact A
 · simp [iV,hi]
 · simp [iV,C]
theorem Kj {listed:Array Bool} {i:Nat} (J:listed.size=ops.length) (h:i∈dw .any ops.toArray listed):∃ o,ops[i]? =some o∧listed[i]? =some false∧∀ e∈o.after.toList,dG .any e=true→Yl listed e.on:=by
 unfold dw at h;rw [pV] at h;obtain ⟨h1,A⟩:=h;simp only [lH,eW] at h1;simp only [a9,ky,lG] at A;have C:ops[i]? =some ops[i]:=bt _;generalize ops[i]=o at C;rw [C] at A;simp only [fC,ja] at A;have I:listed[i]? =some (listed[i]'ab):=nL _;refine ⟨o,C,?_,fun e he hb=> ?_⟩
 · have :=A.1;rw [iV,I] at this;rw [I]; simp at this; rw [this]
 · have E:=A.2;rw [D5] at E;have :=E e<|by simpa using he
   rw [hb] at this;simp only [Bool.not_true,Bool.false_or] at this;unfold Yl;rw [iV] at this;cases hx:listed[e.on]? with
   | none=>rw [hx] at this; simp at this
   | some b=>rw [hx] at this; simp at this; rw [this]
theorem Cw (s:Sq P G n ops rs F H) {listed:Array Bool} (J:listed.size=ops.length) (h:dw .any ops.toArray listed= []):∀ j,j < ops.length→Yl listed j:=by
 intro j
 induction j using Nat.strongRecOn with
 | ind j ih=>
   intro E;have C:listed[j]? =some (listed[j]'ab):=nL _;cases hb:listed[j]'ab with
   | true =>unfold Yl; rw [C,hb]
   | false =>
     exfalso;have A:ops[j]? =some ops[j]:=bt _;generalize ops[j]=o at A;have :j∈dw .any ops.toArray listed:=by
      unfold dw;rw [pV];refine ⟨by simpa using E,?_⟩;simp only [a9,ky,lG,A,fC,ja];refine ⟨by rw [iV,C,hb]; rfl,?_⟩;rw [D5];intro e he;cases hbd:dG .any e
      · simp
      · have I:=s.oz j o A e (by simpa using he) hbd;have :=ih e.on I ab;unfold Yl at this;rw [iV,this]; simp
     rw [h] at this; cases this
variable {r0:Rn} {w0:ah} {rr:Option Nat} {Dl:List Deferred} {Q:bd→Act→ah→Prop}
theorem Hn (s:Sq P G n ops rs F H) (bm:kY P (ij ops []) rs 0 ops rs=true) (hT:(H ops.length).nx≤T) (aH:∀ r w σ,St P G T r0 (H 0) w0 r (H ops.length) w→ee r n (F ops.length) σ→Q .normal (act ⟨n,Dl,[],rr⟩ σ) w):
 ∀ (fuel:Nat) (listed:Array Bool) (lo:Nat) (fx:Tr AV) (σ:Nat→ag) (r:Rn) (w:ah),listed.size=ops.length→un ops.length listed≤fuel→n7 ops (Yl listed)→mJ ops rs (F 0) (Yl listed) fx→HD P G T ops rs H r0 w0 (H 0) (Yl listed) lo r w→
   (lo=0∨∃ j q,lo=j+1∧rs[j]? =some q∧q.k= .c∧Yl listed j)→ee r n fx σ→wpAnyIn (fe rr) 0 P .any ops.toArray Q fuel listed (act ⟨n,Dl,[],rr⟩ σ) w:=by
 have fin:∀ (listed:Array Bool) (lo:Nat) (fx:Tr AV) (σ:Nat→ag) (r:Rn) (w:ah),(∀ j,j < ops.length→Yl listed j)→mJ ops rs (F 0) (Yl listed) fx→HD P G T ops rs H r0 w0 (H 0) (Yl listed) lo r w→ee r n fx σ→Q .normal (act ⟨n,Dl,[],rr⟩ σ) w:=by
  intro listed lo fx σ r w aT ad C M;refine aH r w σ (C.done s hT aT) fun i hi=> ?_;rw [← s.done aT ad i];exact M i hi
 intro fuel
 induction fuel with
 | zero=>
   intro listed lo fx σ r w ap a4 ay ad C aJ M;have a1:(iZ ops.length).filter (fun i=> !listed.getD i true)= []:=List.length_eq_zero_iff.1<|Nat.le_zero.1 a4;have hr:dw .any ops.toArray listed= []:=by
    unfold dw;rw [List.filter_eq_nil_iff] at a1 ⊢;intro a ha;have :=a1 a<|by simpa using ha
    simp only [ky,Bool.not_eq_false,a9,not_and] at this ⊢;intro h; rw [this] at h; cases h
   exact ⟨hr,fin listed lo fx σ r w (Cw s ap hr) ad C M⟩
 | succ fuel ih=>
   intro listed lo fx σ r w ap a4 ay ad C aJ M;refine ⟨fun hr=>fin listed lo fx σ r w (Cw s ap hr) ad C M,fun i hi=> ?_⟩;obtain ⟨o,Z,a0,bd⟩:=Kj ap hi;have bg:=(cB.1 Z).1;have ao:¬Yl listed i:=fun h=>by unfold Yl at h; rw [a0] at h; cases h
   obtain ⟨q,J⟩:=s.get Z;have ak:=s.line i o q Z J;have az:n7 ops (fun j=>Yl listed j∨j=i):=by
    intro j av am ac e he hb;rcases am with am | rfl
    · exact .inl<|ay j av am ac e he hb
    · rw [Z] at ac; cases ac; exact .inl<|bd e he hb
   have ax:=FE (listed:=listed) (i:=i) ab;have bu:(listed.setIfInBounds i true).size=ops.length:=by simpa using ap
   have bv:un ops.length (listed.setIfInBounds i true)≤fuel:=by have :=L9 bg a0; omega
   have aS:∀ t∈o4 ops o,dg fx t=dg (F i) t:=fun t ar=>s.FK ay Z ao az ad ar;obtain ⟨a5,a3⟩:=KY ak.set fx;have br:=ad.set Z J a3;have next :∀ (au:Nat) (r':Rn) (u:ag) (w':ah),r.le r'→den r' q.v=some u→HD P G T ops rs H r0 w0 (H 0) (fun j=>Yl listed j∨j=i) au r' w'→(au=0∨∃ j q,au=j+1∧rs[j]? =some q∧q.k= .c∧(Yl listed j∨j=i))→
    wpAnyIn (fe rr) 0 P .any ops.toArray Q fuel (listed.setIfInBounds i true) ((act ⟨n,Dl,[],rr⟩ σ).put o.dst u) w':=by
    intro au r' u w' hle hu aF bh;rw [eI];refine ih _ au a5 _ r' w' bu bv ?_ ?_ ?_ ?_ (ph a3 (M.le hle) hu)
    · rw [ax]; exact az
    · rw [ax]; exact br
    · rw [ax]; exact aF
    · rcases bh with h | ⟨j,q,h1,I,V,aj⟩
      · exact .inl h
      · exact .inr ⟨j,q,h1,I,V,by rw [ax]; exact aj⟩
   have aA:lo=0∨∃ j q,lo=j+1∧rs[j]? =some q∧q.k= .c∧(Yl listed j∨j=i):=aJ.imp id fun ⟨j,q,h1,I,V,aj⟩=>⟨j,q,h1,I,V,.inl aj⟩
   have aW:=If (n:=n) (ops:=ops) (g:=o.guard) (fr:=F i) (fx:=fx) fun t ar=>aS t<|List.mem_append_left _ ar;have bn:=Cf (G:=G) (n:=n) (l:=ga o.op) (fr:=F i) (fx:=fx) fun t ar=>aS t<|List.mem_append_right _ ar;have bo:=Cc bm;have aB:=bo.2 i o q Z J;rw [cH] at aB;show wpOpIn (fe rr) 0 P ops.toArray Q i _ _ w;unfold wpOpIn;rw [lG,Z];show if _ then _ else _
   rcases ak.run with ⟨aG,bz,L⟩ | ⟨aG,aZ,bx,bE⟩
   · rw [if_pos (vU (N:=⟨n,Dl,[],rr⟩) (aW.trans aG) M)];have aC:=sY (N:=⟨n,Dl,[],rr⟩) C.hr.fc M<|bn.trans bz;have bq:=ak.set;obtain ⟨d,op,ty,pos,af,g⟩:=o;simp only at aC L next aB
     cases L with
     | p E O aO=>
       have aL:∀ c,op≠.defer c:=fun c e=>by subst e; simp [na] at O
       obtain ⟨u,h1,I⟩:=Ch (N:=⟨n,Dl,[],rr⟩) (dst:=d) (ty:=ty) (pos :=pos) (af:=af) (g:=g) O aC;exact tV aL (.inl<|I w)<|next lo r u w (Rn.le_refl r) h1 (C.skip J (by rw [E]; intro h; cases h)<|by rw [E]; intro h; cases h) aA
     | l E O aO=>
       have aL:∀ c,op≠.defer c:=fun c e=>by subst e; simp [jn] at O
       have aE:=Cb<|aB.1 E;have bi:jn P op q.xs (H lo)=some q.v:=by
        rcases dD i lo with aK | aX
        · rcases aJ with h0 | ⟨j,A,h1,I,V,aj⟩
          · omega
          · have an:=(aE j A I).1 V;rw [cH] at an;have aY:¬j < i:=ab;have bF:j≠i:=fun e=>by subst e; exact ao aj
            rcases an.2 aY with hb | hb
            · exact absurd ((qe ay hb).2 aj) ao
            · obtain ⟨av,ac⟩:=s.get' I;rw [(s.line j av A ac I).ha,← h1] at hb;exact hb
        ·
         have aP:∀ (m:Nat),lo≤m→m≤i→(∀ j A,lo≤j→j < m→rs[j]? =some A→A.k≠.c)→H m=H lo:=by
          intro m
          induction m with
          | zero=>intro h _ _; have :lo=0:=ab
                  subst this; rfl
          | succ m aN=>
            intro h1 I V;rcases dD m lo with aK | hle
            · have :lo=m+1:=ab;subst this; rfl
            · have hm:=aN hle ab fun j A a b c=>V j A a ab c;have a2:ops[m]? =some (ops[m]'ab):=bt _;obtain ⟨al,aM⟩:=s.get a2;have aI:=s.line m _ al a2 aM;have bl:=V m al hle (mD _) aM;have bj:al.k≠.a:=fun ha=>by
               have :=(aE m al aM).2 ha;omega
              have he:al.ha=al.hb:=by
               rcases aI.run with ⟨_,_,L⟩ | ⟨_,_,_,L⟩
               · cases L with
                 | p _ _ h=>exact h
                 | l _ _ h=>exact h
                 | a e l h _ _ _ _=>exact absurd h bj
                 | c h _=>exact absurd h bl
               · exact L
              rw [← aI.ha,he,aI.hb,hm]
         by_cases hex:∃ j A,lo≤j∧j < i∧rs[j]? =some A∧A.k= .c
         ·
          have first :∀ (m:Nat),lo≤m→m≤i→(∃ j A,lo≤j∧j < m∧rs[j]? =some A∧A.k= .c)→∃ j A,lo≤j∧j < i∧rs[j]? =some A∧A.k= .c∧∀ ae q',lo≤ae→ae < j→rs[ae]? =some q'→q'.k≠.c:=by
           intro m
           induction m with
           | zero=>rintro _ _ ⟨j,_,_,h,_⟩; omega
           | succ m aN=>
             intro h1 I ⟨j,A,aD,aR,ai,aw⟩;by_cases hex:∃ j A,lo≤j∧j < m∧rs[j]? =some A∧A.k= .c
             · obtain ⟨ae,bD,a6,a7,a8,ba⟩:=hex;exact aN ab ab ⟨ae,bD,a6,a7,a8,ba⟩
             · refine ⟨j,A,aD,ab,ai,aw,fun ae q' a b c d=>hex ⟨ae,q',a,ab,c,d⟩⟩
          obtain ⟨j,A,aD,aR,ai,aw,bb⟩:=first i aX (aQ _) hex
          have an:=(aE j A ai).1 aw;rw [cH] at an;rcases an.1 aR with hb | hb
          · rcases (qe az hb).2 (.inr rfl) with h | h
            · have :=(C.lc j A ai aw).1 h; omega
            · omega
          · obtain ⟨av,ac⟩:=s.get' ai;rw [(s.line j av A ac ai).hb,aP j aD ab bb] at hb;exact hb
         · have :=aP i aX (aQ _) fun j A a b c d=>hex ⟨j,A,a,b,c,d⟩;rw [← this,← ak.hb]; exact O
       obtain ⟨u,h1,I⟩:=Cg (N:=⟨n,Dl,[],rr⟩) (dst:=d) (ty:=ty) (pos :=pos) (af:=af) (g:=g) C.hr bi aC;exact tV aL (.inl I)<|next lo r u w (Rn.le_refl r) h1 (C.skip J (by rw [E]; intro h; cases h)<|by rw [E]; intro h; cases h) aA
     | a e l E O aO bA bB=>
       subst O;obtain ⟨h1,us,bw,bp⟩:=FM aO;obtain ⟨hle,aF⟩:=C.early s hT J E ao bA bw h1;refine tV (fun c e=>by cases e) (.inl<|bp ⟨n,Dl,[],rr⟩ σ d ty pos af g w)<|next lo _ _ _ hle ?_ aF aA
       rw [bB];simp only [den,Rn.gJ,cH]
     | c E O=>
       have bc:=Ca<|aB.2 E;have aK:lo≤i:=by
        rcases dD i lo with h | h
        · exact absurd ((C.lc i q J E).2 h) ao
        · exact h
       have aU:∀ j A,j < i→rs[j]? =some A→(A.k= .c∨A.k= .a)→Yl listed j:=fun j A aY am aH=>by
        have hb:=bc j A am aH ab;rw [cH] at hb;rcases (qe az hb).2 (.inr rfl) with h | h
        · exact h
        · omega
       have aV:=C.yg s i aK (by rw [s.len]; omega) fun j A a b c=>⟨fun L=>by have :=(C.lc j A c L).1 (aU j A b c<|.inl L); omega,fun ha=>aU j A b c<|.inr ha⟩
       have bf:=aV.Iu s hT J E;obtain ⟨bG,s1⟩:=O;rw [ak.hb,ak.ha] at s1;refine s1 _ r w ⟨n,Dl,[],rr⟩ σ d ty pos af g _ Q (aQ _) bf aC fun r' u w' hu bq=> ?_;exact next (i+1) r' u w' bq.le hu (aV.LZ s J E bq)<|.inr ⟨i,q,U,J,E,.inr U⟩
   · rw [if_neg (by rw [Ba (N:=⟨n,Dl,[],rr⟩) (aW.trans aG) M]; simp)];refine ⟨fun f _=>ka _ f,next lo r undef w (Rn.le_refl r) (by rw [bx]; exact iI r) (C.skip J (by rw [aZ]; intro h; cases h)<|by rw [aZ]; intro h; cases h) aA⟩
theorem Hl {X:Xt} {ih:Tk→Rs} (ad:Good P G ih) (ae:iG P G X) (ac:gj P) (ag:∀ f args h v h',ih (.cl f args h)= .rv v h'→∃ fn c,P.funcs[f]? =some fn∧fn.body=some c) (hm:P.follows .mixedOrders=true):yX P G X ih:=by
 intro rd n id ops fr D h;show match sn P G X ih n ops fr D h with
  | .cd e Z E h'=>dy P G rd n (fun rr Q a w=>(Eo id ⟨ops⟩ true).wpIn (fe rr) 0 P Q a w) fr D h e Z E h'
  | .no=>True
  | _=>False
 have ai:sn P G X ih n ops fr D h=cond (oq ops (ij ops []) 0 ops) (match k9 P G X ih n ops (ij ops []) 0 none ops fr h with
  | some (rs,fr,h)=>cond (kY P (ij ops []) rs 0 ops rs) (.cd .bC fr D h) .no
  | none=> .no) .no:=rfl
 rw [ai];cases hc1:oq ops (ij ops []) 0 ops
 · exact trivial
 · rw [cond_true];cases hrec:k9 P G X ih n ops (ij ops []) 0 none ops fr h with
   | none=>exact trivial
   | some x=>
     obtain ⟨rs,ap,ar⟩:=x;simp only;cases hok:kY P (ij ops []) rs 0 ops rs
     · exact trivial
     · rw [cond_true];obtain ⟨F,H,I,J,L,M,O,V⟩:=Cx ad ae ac ag hrec;have s:Sq P G n ops rs F H:=⟨O,V,fun i j an ao hi A au=>by
        have :=(va hc1 i an hi).2 j ao A ab;rwa [cH] at this,fun i o am=>by
        have :=An (va hc1 i o am).1;rwa [cH] at this⟩
       subst I; subst J; subst L; subst M;refine ⟨s.mono (hO _) (aQ _),fun T r w σ Dl rr Q hT hr aj ah av al=> ?_⟩;refine wpIn_region_any hm ?_;have C:∀ j,¬Yl (Array.replicate ops.length false) j:=fun j A=>by
        unfold Yl at A;rw [Array.getElem?_replicate] at A;split at A <;> cases A
       refine Hn s hok hT (r0:=r) (w0:=w.drew) (fun r' w' σ' st ak=>al r' w' σ' Dl st.drew ak<|mN st.le ah) _ _ 0 (F 0) σ r w.drew (by simp) ?_ (fun j o A=>absurd A<|C j) (fun t=> .inr ⟨fun j o A=>absurd A (C j),U⟩) (HD.start s hr.drew C) (.inl U) aj;unfold un;exact cG (List.length_filter_le _ _)<|by simp
end
end Go.Hb
namespace Go.Hb
section
variable {P:av} {G:Nat} {X:Xt} {w:ah}
theorem Na {f:Nat} (E:∀ v w,(callFunc f #[v]).run P w= .ok (.value v) w) {xs:List AV} {h h':Hp} {v:AV} (he:yv xs h=some (v,h')):h.nx≤h'.nx∧∀ (T:Nat) (r:Rn) (w:ah) (us:List ag),h'.nx≤T→HR P G r T h w→aK r xs=some us→
 ∃ r' u w',den r' v=some u∧(callFunc f us.toArray).run P w= .ok (.value u) w'∧St P G T r h w r' h' w':=by
 unfold yv at he;split at he
 · cases he;refine ⟨aQ _,fun T r w us hT hr C=> ?_⟩;obtain ⟨u,I,rfl,h1,A⟩:=dV C;obtain rfl :=j9 A;exact ⟨r,u,w,h1,E u w,St.refl hr⟩
 · cases he
theorem Bi {c:Nat} (C:c < 256):∀ (l:List UInt8) (i:Nat),qC c l i=if l.idxOf (eX c) < l.length then kD (i+l.idxOf (eX c)) else -1
 | [],i=>by simp [qC]
 | b::l,i=>by
   have E:(eX c).toNat=c:=by simp; omega
   simp only [qC,List.idxOf_cons];cases hb:aP b.toNat c
   · have I:(b==eX c)=false :=by
      cases A:(b==eX c)
      · rfl
      · have :=eq_of_beq A;subst this;rw [E] at hb; simp at hb
     rw [I];simp only [cond_false,dm,Bi C l (i+1)];by_cases h1:l.idxOf (eX c) < l.length
     · rw [if_pos h1,if_pos ab];congr 1; omega
     · rw [if_neg h1,if_neg ab]
   · have :=bL hb;have A:(b==eX c)=true :=by
      rw [← this]; simp
     rw [A];simp
theorem Nb {f:Nat} (O:∀ l c w,(callFunc f #[str l,.int .u8 (Fs c)]).run P w= .ok (.value<|.int .i64<|kS c l) w) {xs:List AV} {h h':Hp} {v:AV} (he:yw xs h=some (v,h')):h.nx≤h'.nx∧∀ (T:Nat) (r:Rn) (w:ah) (us:List ag),h'.nx≤T→HR P G r T h w→aK r xs=some us→
 ∃ r' u w',den r' v=some u∧(callFunc f us.toArray).run P w= .ok (.value u) w'∧St P G T r h w r' h' w':=by
 unfold yw at he;split at he
 · rename_i l c;replace he:=aZ he; obtain ⟨A,he⟩:=he;have A:=cC.1 A;split at he
   · rename_i ab hm;cases he;refine ⟨aQ _,fun T r w us hT hr M=> ?_⟩;obtain ⟨u,V,rfl,h1,E⟩:=dV M;obtain ⟨U,Z,rfl,I,J⟩:=dV E;obtain rfl :=j9 J;obtain rfl :=gI h1;obtain rfl :=cM I;have L:(eX c).toNat=c:=by simp; omega
     have C:=O l (eX c) w;rw [L] at C;refine ⟨r,_,w,?_,C,St.refl hr⟩;rw [Bi A l 0] at hm;simp only [cH] at hm;have :kS (eX c) l=if l.idxOf (eX c) < l.length then kD (l.idxOf<|eX c) else -1:=rfl
     rw [← this] at hm;rw [fK] at hm;cases hm;simp only [den]
   · cases he
 · cases he
def x2 (a b:Nat):Xt:=fun f=>cond (aP f a) (some yv)<|cond (aP f b) (some yw) none
theorem M9 {a b:Nat} (h1:∀ v w,(callFunc a #[v]).run P w= .ok (.value v) w) (C:∀ l c w,(callFunc b #[str l,.int .u8 (Fs c)]).run P w= .ok (.value<|.int .i64<|kS c l) w):iG P G (x2 a b):=by
 intro f e he xs h v h' A;unfold x2 at he;cases ha:aP f a
 · rw [ha] at he;simp only [cond_false] at he;cases hb:aP f b
   · rw [hb] at he; cases he
   · rw [hb] at he;cases he;have :=bL hb;subst this;exact Nb C A
 · rw [ha] at he;cases he;have :=bL ha;subst this;exact Na h1 A
theorem GJ (h:P.funcs.toList.all (fun fn=> !(fn.name== "runtime.NumGoroutine") || fn.body.isNone)=true):gj P:=by
 intro f fn c A hb;have hm:fn∈P.funcs.toList:=by
  rw [dq] at A;obtain ⟨C,rfl⟩:=A;simp
 have :=List.all_eq_true.1 h fn hm;rw [hb] at this;simp only [Option.isNone_some,Bool.or_false,ky] at this;exact u6 A this<|by rw [hb]; rfl
def sH (G T:Nat) (E:Nat→Nat):List Nat→Tr AO
 | []=> .nil
 | g::l=>(sH G T E l).set g<|.cells [.fy T (.ptr (G+g) 0)] (E g) 0 .x
theorem qT {T:Nat} {E:Nat→Nat} :∀ {l:List Nat},(∀ g∈l,aE g cj=true)→∀ {i:Nat} {o:AO},(sH G T E l).get i=some o→i∈l∧o= .cells [.fy T (.ptr (G+i) 0)] (E i) 0 .x
 | [],_,i,o,h=>by simp only [sH] at h; cases h
 | g::l,hl,i,o,h=>by
   simp only [sH] at h;rw [Tr.kQ _ _ _ _ (hl g<|hH)] at h;split at h
   · rename_i e; subst e; cases h; exact ⟨hH,rfl⟩
   · obtain ⟨h1,A⟩:=qT (fun g C=>hl g<|gZ _ C) h;exact ⟨gZ _ h1,A⟩
def cJ (T:Nat) (l:List Nat) (w:ah):Prop := ∀ g,g∈l→∃ (a:Addr) (e:Nat),a.spot=none∧w.heap[g]? =some (.cells #[.iface T (.pointer<|some a)] e (0,0))
theorem cJ.mono {T:Nat} {l:List Nat} {w w':ah} {F:Nat→Prop} (h:cJ T l w) (hm:Md F w w') (E:∀ g∈l,¬F g):cJ T l w':=fun g A=>by
 obtain ⟨a,e,h1,C⟩:=h g A;exact ⟨a,e,h1,hm.an C<|E g A⟩
theorem HR.xH {T:Nat} {l:List Nat} (I:∀ g∈l,g < G) (ah:G≤1000) (h:cJ T l w):∃ (E:Nat→Nat) (r:Rn),∀ O,HR P G r O ⟨sH G T E l,G+G⟩ w:=by
 classical
 let A:Nat→Addr:=fun g=>if C:g∈l then (h g C).choose else ⟨0,0,none⟩
 let E:Nat→Nat:=fun g=>if C:g∈l then (h g C).choose_spec.choose else 0
 have ac:∀ g,g∈l→(A g).spot=none∧w.heap[g]? =some (.cells #[.iface T (.pointer<|some<|A g)] (E g) (0,0)):=fun g C=>by
  have :=(h g C).choose_spec.choose_spec;simp only [A,E,dif_pos C];exact this
 let r:Rn:=fun i=>if i < G then some ⟨i,0,0⟩ else if i < G+G then some ⟨(A<|i - G).block,(A<|i - G).off,0⟩ else none
 have J:∀ i,i < G→r i=some ⟨i,0,0⟩:=fun i hi=>if_pos hi;have ag:∀ g,g < G→r (G+g)=some ⟨(A g).block,(A g).off,0⟩:=fun g C=>by
  show (if G+g < G then _ else _)=_;rw [if_neg ab,if_pos ab,show G+g - G=g from by omega]
 have M:∀ g∈l,aE g cj=true :=fun g C=>cC.2 (by have :=I g C; have :cj=1048574:=rfl; omega);refine ⟨E,r,fun O=>⟨fun i o hi=> ?_,fun i j o ai q q' hi ad h1 L he=> ?_,fun i h1 L=> ?_,fun g C=>⟨0,J g C⟩,Nat.le_add_right _ _⟩⟩
 · obtain ⟨hm,rfl⟩:=qT M hi;have U:=I i hm;obtain ⟨V,Z⟩:=ac i hm;refine ⟨⟨i,0,0⟩,J i U,?_⟩;rw [Z];refine xl (us:= [.iface T (.pointer<|some<|A i)]) ?_ rfl;have e:(⟨(A i).block,(A i).off,none⟩:Addr)=A i:=by
    have :A i=⟨(A i).block,(A i).off,(A i).spot⟩:=rfl;rw [this,V]
   simp only [aK,den,ag i U,lI,e]
 · obtain ⟨hm,rfl⟩:=qT M hi;obtain ⟨ae,rfl⟩:=qT M ad;rw [J i (I i hm)] at h1;rw [J j (I j ae)] at L;cases h1; cases L;exact he
 · show (if i < G then _ else _)=_;simp only at h1;rw [if_neg ab,if_neg ab]
theorem St.wk {T C:Nat} {E:Nat→Nat} {l:List Nat} {r r':Rn} {h':Hp} {w':ah} (A:∀ g∈l,g < G) (M:G≤1000) (st:St P G C r ⟨sH G T E l,G+G⟩ w r' h' w'):Wk w w':=by
 refine ⟨st.md.os,st.md.output,st.md.size,fun k L _=>st.md.dL k L fun ⟨i,o,q,h1,I,_⟩=> ?_⟩;obtain ⟨hm,_⟩:=qT (fun g J=>cC.2 (by have :=A g J; have :cj=1048574:=rfl; omega)) I;have :=A i hm;omega
end
end Go.Hb
end
