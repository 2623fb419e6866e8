/-
  Walks and plain laws that the law rests on, laid together. No conditions but those that each theorem names.
-/
import Derived.Test.YtfgapieofinadaaGreatDoorMnOwnSaved2
set_option linter.unusedVariables false
open Array renaming all_eq_true_iff_forall_mem→Dj,foldl_toList→tS,getD_eq_getD_getElem?→iW,getElem?_eq_getElem→nF,getElem?_eq_some_iff→bJ,getElem?_modify→tU,getElem?_push→tV,getElem?_setIfInBounds→qS,getElem?_setIfInBounds_ne→ly,getElem?_setIfInBounds_self_of_lt→ml,getElem?_toList→ph,length_toList→nG,range→lz,toList_inj→pn,toList_map→gN,toList_modify→qT,toList_push→tX
open BitVec renaming ofInt→iw
open Bool renaming and_eq_true→bf,false_eq_true→qU,noConfusion→dd,not_eq_true'→kC,or_eq_true→nH,or_eq_true_iff→Dq
open Go.Builtin renaming append_→jX,clear_→ua,delete_→pq,firstCells→ub,zeroCells→Ds
open Go.Calls renaming mono→gO
open Go renaming Code→bz,Edge→bM,Exit→ba,IntKind→bu,Oper→ar,Operand→aO,Program→an,TypeId→ak,Value→ag,World→ah
open Go.Code renaming region→Dv
open Go.Deferred renaming ofValue→kD
open Go.Exit renaming inBlock→DB
open Go.Fence renaming wide→eA
open Go.FrameMode renaming noConfusion→DC
open Go.Instr renaming alloc→uc,buildSlice→ud,fill→jv,keyThatStays→qW,mapUpdate→pv
open Go.Lib renaming run_unsafeString_none→DN
open Go.Op renaming equal→mo,equalIn→ix
open Go.Oper renaming semAt_eq→q4,uponIn→pB
open Go.Region renaming binds→dB,ready→dV,wanted→kG
open Go.Result renaming andThen_ok→fR
open Go.Sem renaming run→jY,run_bind→gq,run_pure→jw
open Go.World renaming freeze→lA,putObj→DU,putObj_heap_other→jZ,putObj_heap_same→nS
open Int renaming natCast_nonneg→fD,natCast_pos→DV,ofNat→kJ,toNat_natCast→DX
open List.Sublist renaming map→yt
open List renaming append_assoc→gQ,eq_nil_of_length_eq_zero→jx,ext_getElem?→um,filter_cons→q8,flatten_cons→pC,getD_eq_getElem?_getD→cn,getElem?_append_left→eW,getElem?_append_right→eI,getElem?_cons_succ→gR,getElem?_cons_zero→fS,getElem?_drop→iX,getElem?_eq_getElem→bR,getElem?_eq_none→nU,getElem?_eq_some_iff→cB,getElem?_map→eJ,getElem?_take→gr,getElem?_toArray→lD,length→lE,length_append→bB,length_cons→bA,length_drop→gS,length_eq_one_iff→re,length_nil→fk,length_take→bW,mapM_cons→Eh,map_append→j1,map_cons→dq,map_map→ur,mem_append→fl,mem_cons→dr,mem_cons_of_mem→iY,mem_cons_self→iB,mem_filter→El,mem_map→gu,mem_of_getElem?→jy,mem_of_mem_drop→uu,mem_of_mem_take→uv,mem_range→En,nodup_cons→pD,range→lH,range'→mu,replicate→eB,replicate_succ→Es,size_toArray→ej
open List.cons renaming injEq→iA
open Nat renaming add_assoc→fT,add_comm→EA,add_mul→mw,add_zero→j2,beq→aQ,ble→aZ,ble_eq→rk,ble_eq_true_of_le→yC,blt→av,eq_of_beq_eq_true→bQ,le_of_ble_eq_true→bH,le_refl→aT,le_succ→lI,le_trans→bS,lt_of_lt_of_le→my,lt_or_ge→dW,lt_succ_iff_lt_or_eq→ED,lt_succ_self→mz,lt_trichotomy→rn,mul_le_mul_right→yE,not_lt_zero→uz,pos_of_ne_zero→EF,pow_succ→uB,succ_le_iff→rq,succ_pos→EG,testBit→ru,zero_add→cr,zero_le→pG,zero_mul→pH
open Option renaming getD_none→pI,getD_some→gV,map_eq_some_iff→fU,map_some→dJ
open Option.some renaming inj→eX,injEq→bp
open Prod renaming fst→cg,snd→gW
open Prod.mk renaming injEq→kK
open UInt8 renaming lt_iff_toNat_lt→EJ,ofNat→eK,toNat→EK,toNat_inj→EL
open Go.Proofs.Tryz
open Go.RowKit

section
namespace Go.Hb
inductive Tr (α:Type) | nil | nd (l:Tr α) (v:Option α) (r:Tr α)
def Tr.get {α:Type} :Tr α→Nat→Option α
 | .nil,_=>none
 | .nd _ v _,0=>v
 | .nd l _ r,n+1=>cond (aQ (n % 2) 0) (l.get<|n / 2)<|r.get<|n / 2
def Tr.put {α:Type} (v:Option α):Nat→Tr α→Nat→Tr α
 | 0,t,_=>t
 | _+1,.nil,0=> .nd .nil v .nil
 | _+1,.nd l _ r,0=> .nd l v r
 | k+1,.nil,n+1=>cond (aQ (n % 2) 0) (.nd (Tr.put v k .nil<|n / 2) none .nil)<|.nd .nil none<|Tr.put v k .nil<|n / 2
 | k+1,.nd l u r,n+1=>cond (aQ (n % 2) 0) (.nd (Tr.put v k l<|n / 2) u r)<|.nd l u<|Tr.put v k r<|n / 2
theorem Tr.get_nil {α:Type} (n:Nat):(Tr.nil:Tr α).get n=none:=by unfold Tr.get; rfl
theorem CL {n:Nat} {b:Bool} (h:aQ (n % 2) 0=b):n % 2=cond b 0 1:=by
 cases b
 · have :n % 2≠0:=fun e=>by rw [e] at h; cases h
   simp only [cond_false]; omega
 · exact bQ h
theorem tD {n m:Nat} {b:Bool} (hn:aQ (n % 2) 0=b) (hm:aQ (m % 2) 0=b) (e:m / 2=n / 2):m+1=n+1:=by
 have :=CL hn;have :=CL hm;omega
theorem Tr.oT {α:Type} (v:Option α):∀ (k:Nat) (t:Tr α) (n m:Nat),m≠n→(Tr.put v k t n).get m=t.get m
 | 0,t,n,m,_=>by simp [Tr.put]
 | k+1,.nil,0,m,h=>by
   obtain ⟨m,rfl⟩:∃ j,m=j+1:=⟨m - 1,ab⟩
   simp [Tr.put,Tr.get]
 | k+1,.nd l u r,0,m,h=>by
   obtain ⟨m,rfl⟩:∃ j,m=j+1:=⟨m - 1,ab⟩
   simp [Tr.put,Tr.get]
 | k+1,.nil,n+1,0,h=>by
   simp only [Tr.put];cases aQ (n % 2) 0 <;> rfl
 | k+1,.nd l u r,n+1,0,h=>by
   simp only [Tr.put];cases aQ (n % 2) 0 <;> rfl
 | k+1,.nil,n+1,m+1,h=>by
   simp only [Tr.put];cases hn:aQ (n % 2) 0 <;> cases hm:aQ (m % 2) 0 <;> simp only [cond_true,cond_false,Tr.get,hm]
   · rw [Tr.oT v k .nil _ _ (fun e=>h<|tD hn hm e)]; rfl
   · rw [Tr.oT v k .nil _ _ (fun e=>h<|tD hn hm e)]; rfl
 | k+1,.nd l u r,n+1,m+1,h=>by
   simp only [Tr.put];cases hn:aQ (n % 2) 0 <;> cases hm:aQ (m % 2) 0 <;> simp only [cond_true,cond_false,Tr.get,hm]
   · rw [Tr.oT v k r _ _ (fun e=>h<|tD hn hm e)]
   · rw [Tr.oT v k l _ _ (fun e=>h<|tD hn hm e)]
theorem Tr.put_eq {α:Type} (v:Option α):∀ (k:Nat) (t:Tr α) (n:Nat),n+1 < 2 ^ k→(Tr.put v k t n).get n=v
 | 0,t,n,h=>ab
 | k+1,.nil,0,_=>by simp [Tr.put,Tr.get]
 | k+1,.nd l u r,0,_=>by simp [Tr.put,Tr.get]
 | k+1,.nil,n+1,h=>by
   have A:n / 2 +1 < 2 ^ k:=by rw [uB] at h; omega
   simp only [Tr.put];cases hn:aQ (n % 2) 0 <;> simp only [cond_true,cond_false,Tr.get,hn] <;> exact Tr.put_eq v k _ _ A
 | k+1,.nd l u r,n+1,h=>by
   have A:n / 2 +1 < 2 ^ k:=by rw [uB] at h; omega
   simp only [Tr.put];cases hn:aQ (n % 2) 0 <;> simp only [cond_true,cond_false,Tr.get,hn] <;> exact Tr.put_eq v k _ _ A
def bZ:Nat:=1048574
def Tr.set {α:Type} (t:Tr α) (n:Nat) (v:α):Tr α:=Tr.put (some v) 20 t n
def Tr.del {α:Type} (t:Tr α) (n:Nat):Tr α:=Tr.put none 20 t n
theorem Tr.lW {α:Type} (t:Tr α) (n m:Nat) (v:α) (h:av n bZ=true):(t.set n v).get m=if m=n then some v else t.get m:=by
 have A:n < 1048574:=by simpa [bZ,av,rk,rq] using h
 unfold Tr.set;split
 · rename_i e; subst e; exact Tr.put_eq _ _ _ _ ab
 · rename_i e; exact Tr.oT _ _ _ _ _ e
theorem Tr.oz {α:Type} (t:Tr α) (n m:Nat) (h:av n bZ=true):(t.del n).get m=if m=n then none else t.get m:=by
 have A:n < 1048574:=by simpa [bZ,av,rk,rq] using h
 unfold Tr.del;split
 · rename_i e; subst e; exact Tr.put_eq _ _ _ _ ab
 · rename_i e; exact Tr.oT _ _ _ _ _ e
inductive AV
 | bool (b:Bool) | int (k:bu) (n:Int) | str (l:List UInt8)
 | ptr (b o:Nat) | gG
 | sl (b o n c:Nat) (x:Bool)
 | eu
 | map (b:Nat) | ki
 | fn (f:Nat) (a c:List AV) | gn (l:Nat) | iP
 | im (t:Nat) (v:AV) | eb
 | agg (l:List AV) | bY (l:List AV)
structure Loc where
 aq:Nat
 sh:Nat
 room:Nat
abbrev Rn:=Nat→Option Loc
def Rn.le (r s:Rn):Prop := ∀ i x,r i=some x→s i=some x
theorem Rn.le_refl (r:Rn):r.le r:=fun _ _ h=>h
theorem Rn.le_trans {r s t:Rn} (h:r.le s) (A:s.le t):r.le t:=fun i x C=>A i x<|h i x C
mutual
def den (r:Rn):AV→Option ag
 | .bool b=>some<|.bool b
 | .int k n=>some<|.int k n
 | .str l=>some<|Hb.str l
 | .ptr b o=>match r b with
   | some q=>some<|.pointer<|some ⟨q.aq,q.sh+o,none⟩
   | none=>none
 | .gG=>some<|.pointer none
 | .sl b o n c x=>match r b with
   | some q=>cond x (cond (aZ n c) (some<|.slice (some ⟨q.aq,q.sh+o,none⟩) n c) none)<|cond (aZ (c+n) q.room) (some<|.slice (some ⟨q.aq,q.sh+o,none⟩) n<|q.room - c) none
   | none=>none
 | .eu=>some<|.slice none 0 0
 | .map b=>match r b with
   | some q=>some<|.map<|some q.aq
   | none=>none
 | .ki=>some<|.map none
 | .fn f a c=>match ax r a,ax r c with
   | some a,some c=>some<|.func (.func f) a.toArray c.toArray
   | _,_=>none
 | .gn l=>match r l with
   | some q=>some<|.func (.yield q.aq) #[] #[]
   | none=>none
 | .iP=>some .nilFunc
 | .im t v=>match den r v with
   | some v=>some<|.iface t v
   | none=>none
 | .eb=>some .nilIface
 | .agg l=>match ax r l with
   | some l=>some<|.agg l.toArray
   | none=>none
 | .bY l=>match ax r l with
   | some l=>some<|.tuple l.toArray
   | none=>none
def ax (r:Rn):List AV→Option (List ag)
 | []=>some []
 | v::l=>match den r v,ax r l with
   | some v,some l=>some (v::l)
   | _,_=>none
end
mutual
theorem kQ {r s:Rn} (h:r.le s):∀ {v:AV} {u:ag},den r v=some u→den s v=some u
 | .bool _,_,hu | .int _ _,_,hu | .str _,_,hu | .gG,_,hu | .eu,_,hu | .ki,_,hu | .iP,_,hu | .eb,_,hu=>by
   simp only [den] at hu ⊢; exact hu
 | .ptr b o,u,hu | .sl b o n c x,u,hu | .map b,u,hu | .gn b,u,hu=>by
   simp only [den] at hu ⊢;cases hb:r b with
   | none=>rw [hb] at hu; cases hu
   | some q=>rw [hb] at hu; rw [h b q hb]; exact hu
 | .fn f a c,u,hu=>by
   simp only [den] at hu ⊢;cases ha:ax r a with
   | none=>rw [ha] at hu; cases hu
   | some A=>
     cases hc:ax r c with
     | none=>rw [ha,hc] at hu; cases hu
     | some c'=>rw [ha,hc] at hu; rw [ic h ha,ic h hc]; exact hu
 | .im t v,u,hu=>by
   simp only [den] at hu ⊢;cases hv:den r v with
   | none=>rw [hv] at hu; cases hu
   | some E=>rw [hv] at hu; rw [kQ h hv]; exact hu
 | .agg l,u,hu | .bY l,u,hu=>by
   simp only [den] at hu ⊢;cases hl:ax r l with
   | none=>rw [hl] at hu; cases hu
   | some C=>rw [hl] at hu; rw [ic h hl]; exact hu
theorem ic {r s:Rn} (h:r.le s):∀ {v:List AV} {u:List ag},ax r v=some u→ax s v=some u
 | [],_,hu=>by simp only [ax] at hu ⊢; exact hu
 | v::l,u,hu=>by
   simp only [ax] at hu ⊢;cases hv:den r v with
   | none=>rw [hv] at hu; cases hu
   | some C=>
     cases hl:ax r l with
     | none=>rw [hv,hl] at hu; cases hu
     | some A=>rw [hv,hl] at hu; rw [kQ h hv,ic h hl]; exact hu
end
theorem dP {r:Rn} {v:AV} {l:List AV} {us:List ag} (h:ax r (v::l)=some us):∃ u A,us=u::A∧den r v=some u∧ax r l=some A:=by
 simp only [ax] at h;split at h
 · rename_i u A C E; exact ⟨u,A,(eX h).symm,C,E⟩
 · cases h
theorem j9 {r:Rn} {us:List ag} (h:ax r []=some us):us= []:=by simpa [ax] using h.symm
theorem dK {r:Rn} {v:AV} {l:List AV} {u:ag} {us:List ag} (A:den r v=some u) (C:ax r l=some us):ax r (v::l)=some (u::us):=by simp only [ax,A,C]
theorem cZ {r:Rn} :∀ {l:List AV} {us:List ag},ax r l=some us→us.length=l.length
 | [],_,h=>by rw [j9 h]; rfl
 | v::l,us,h=>by obtain ⟨u,C,rfl,_,A⟩:=dP h; simp [cZ A]
theorem oa {r:Rn} :∀ {l:List AV} {us:List ag} {i:Nat} {v:AV},ax r l=some us→l[i]? =some v→∃ u,us[i]? =some u∧den r v=some u
 | [],_,i,v,h,hv=>by simp at hv
 | a::l,us,0,v,h,hv=>by
   obtain ⟨u,L,rfl,A,_⟩:=dP h;simp only [fS,bp] at hv;subst hv; exact ⟨u,rfl,A⟩
 | a::l,us,i+1,v,h,hv=>by
   obtain ⟨u,L,rfl,_,C⟩:=dP h;simp only [gR] at hv;obtain ⟨J,E,I⟩:=oa C hv;exact ⟨J,by simpa using E,I⟩
theorem ff {r:Rn} :∀ {l m:List AV} {us vs:List ag},ax r l=some us→ax r m=some vs→ax r (l++m)=some (us++vs)
 | [],m,us,vs,h,h'=>by rw [j9 h]; exact h'
 | a::l,m,us,vs,h,h'=>by
   obtain ⟨u,E,rfl,A,C⟩:=dP h;exact dK A<|ff C h'
theorem jd {r:Rn} :∀ {l:List AV} {us:List ag} (n:Nat),ax r l=some us→ax r (l.take n)=some (us.take n)
 | _,_,0,_=>by simp [ax]
 | [],us,n+1,h=>by rw [j9 h]; simp [ax]
 | a::l,us,n+1,h=>by
   obtain ⟨u,E,rfl,A,C⟩:=dP h;exact dK A<|jd n C
theorem jI {r:Rn} :∀ {l:List AV} {us:List ag} (n:Nat),ax r l=some us→ax r (l.drop n)=some (us.drop n)
 | _,_,0,h=>h
 | [],us,n+1,h=>by rw [j9 h]; simp [ax]
 | a::l,us,n+1,h=>by
   obtain ⟨u,E,rfl,C,A⟩:=dP h;exact jI n A
inductive Ck | a | z | x
inductive AO
 | cells (l:List AV) (e:Nat) (fz:Nat) (ex:Ck)
 | map (l:List (AV×AV))
 | loop (st:LoopState) (pe:Option bz) (n:Nat) (fr:Tr AV) (ps:List Nat) (aE body:bz) (D:Nat)
 | kR (b:Bool)
 | xE (l:List UInt8) (p:Nat)
structure Hp where
 t:Tr AO
 nx:Nat
def c7 (fr:Tr AV) (i:Nat):AV:=match fr.get i with
 | some v=>v
 | none=> .bY []
def dX (r:Rn) (n:Nat) (fr:Tr AV) (s:Nat→ag):Prop := ∀ i,i < n→den r (c7 fr i)=some (s i)
def fM (r:Rn):List (AV×AV)→List MapEntry→Prop
 | [],[]=>True
 | p::l,m::es=>den r p.1=some m.key∧den r p.2=some m.val∧fM r l es
 | _,_=>False
def OR (P:an) (r:Rn) (q:Loc):AO→Option Obj→Prop
 | .cells l e fz ex,o=> ∃ c fr us,o=some (.cells c e fr)∧ax r l=some us∧q.sh+l.length≤c.size∧(∀ j u,us[j]? =some u→c[q.sh+j]? =some u)∧fr.2≤q.sh+fz∧
  (∀ u∈us,u.oneCell'=true)∧((ex= .x→q.sh=0∧c.size=l.length∧fr=(0,fz))∧(ex≠.a→q.sh=0))∧∀ s,cO P e=some s→q.sh+q.room*s≤c.size
 | .map l,o=> ∃ es c,o=some (.map es c)∧fM r l es.toList∧(es.toList.map fun e=>e.key).Nodup
 | .loop st E n fr ps aE body D,o=> ∃ fn A C,o=some (.loop {state:=st,pending:=E,fn:=fn,tmps:=A,params:=ps.toArray,assign:=aE,body:=body,defers:=C})∧(∃ x,r D=some x∧x.aq=C)∧A.size=n∧∀ i,i < n→den r (c7 fr i)=A[i]?
 | .kR b,o=>o=some (.deferred<|cond b (some []) none)
 | .xE l p,o=>o=some (.stringIter ⟨⟨l⟩⟩ p)
end Go.Hb
namespace Go.Hb
def kj (f:ag→Option AV):List ag→Option (List AV)
 | []=>some []
 | v::l=>match f v with
   | some a=>match kj f l with
     | some b=>some (a::b)
     | none=>none
   | none=>none
def jm:Nat→ag→Option AV
 | 0,_=>none
 | d+1,v=>match v with
   | .bool b=>some<|.bool b
   | .int k n=>some<|.int k n
   | .string ⟨⟨l⟩⟩=>some<|.str l
   | .pointer none=>some .gG
   | .slice none 0 0=>some .eu
   | .map none=>some .ki
   | .nilFunc=>some .iP
   | .nilIface=>some .eb
   | .agg ⟨l⟩=>match kj (jm d) l with
     | some l=>some<|.agg l
     | none=>none
   | .tuple ⟨l⟩=>match kj (jm d) l with
     | some l=>some<|.bY l
     | none=>none
   | _=>none
theorem oL {f:ag→Option AV} {r:Rn} (A:∀ v a,f v=some a→den r a=some v):∀ {l:List ag} {m:List AV},kj f l=some m→ax r m=some l
 | [],m,h=>by simp only [kj,bp] at h; subst h; simp [ax]
 | v::l,m,h=>by
   simp only [kj] at h;split at h
   · rename_i a ha;split at h
     · rename_i b hb;cases h;exact dK (A v a ha)<|oL A hb
     · cases h
   · cases h
theorem mc {r:Rn} :∀ (d:Nat) {v:ag} {a:AV},jm d v=some a→den r a=some v
 | 0,v,a,h=>by simp [jm] at h
 | d+1,v,a,h=>by
   simp only [jm] at h;split at h <;> first
    | (cases h; simp [den,str]; done)
    | (split at h
       · rename_i C A;cases h;simp only [den,oL (fun v a=>mc d) A]
       · cases h)
    | cases h
def kn (G n:Nat) (fr:Tr AV):aO→Option AV
 | .tmp t=>cond (av t n) (some<|c7 fr t) none
 | .const v=>jm 4 v
 | .func f=>some<|.fn f [] []
 | .global g=>cond (av g G) (some<|.ptr g 0) none
def ko (G n:Nat) (fr:Tr AV):List aO→Option (List AV)
 | []=>some []
 | x::l=>match kn G n fr x with
   | some a=>match ko G n fr l with
     | some b=>some (a::b)
     | none=>none
   | none=>none
def nY (G:Nat) (r:Rn):Prop := ∀ g,g < G→∃ m,r g=some ⟨g,0,m⟩
section
variable {G:Nat} {fr:Tr AV} {r:Rn} {N:Fm} {σ:Nat→ag}
theorem qw (C:nY G r) (A:dX r N.n fr σ) {x:aO} {a:AV} (h:kn G N.n fr x=some a):den r a=some (ev N σ x):=by
 cases x with
 | tmp t=>
   simp only [kn] at h;cases hb:av t N.n
   · rw [hb] at h; cases h
   · rw [hb] at h;simp only [cond_true,bp] at h;subst h;simp only [ev,hb,cond_true];exact A t<|by simpa [av,rk,rq] using hb
 | const v=>exact mc 4 h
 | func f=>simp only [kn,bp] at h; subst h; simp [den,ax,ev]
 | global g=>
   simp only [kn] at h;cases hb:av g G
   · rw [hb] at h; cases h
   · rw [hb] at h;simp only [cond_true,bp] at h;subst h;obtain ⟨m,hm⟩:=C g<|by simpa [av,rk,rq] using hb
     simp only [den,hm,ev,j2]
theorem sS (C:nY G r) (A:dX r N.n fr σ):∀ {l:List aO} {m:List AV},ko G N.n fr l=some m→ax r m=some (l.map<|ev N σ)
 | [],m,h=>by simp only [ko,bp] at h; subst h; simp [ax]
 | x::l,m,h=>by
   simp only [ko] at h;split at h
   · rename_i a ha;split at h
     · rename_i b hb;cases h;exact dK (qw C A ha)<|sS C A hb
     · cases h
   · cases h
end
def fN:Op→List aO
 | .move x | .assign x | .box _ x | .load _ x | .nilCheck x | .unOp _ _ x | .convert _ _ x | .makeInterface _ x | .fieldAddr _ x _ | .field _ x _ | .range _ x | .next x _ | .typeAssert x _ _ _ | .extract x _=> [x]
 | .pick c a b=> [c,a,b]
 | .build _ ⟨ps⟩=>ps.map (·.2)
 | .buildSlice _ _ ⟨ps⟩=>ps.map (·.2)
 | .store _ a v | .binOp _ _ a v _ | .makeSlice _ a v | .indexAddr _ a v | .index _ a v | .lookup _ a v _=> [a,v]
 | .makeFunc _ ⟨a⟩ ⟨c⟩=>a++c
 | .slice _ x l h m=>x::(l.toList++(h.toList++m.toList))
 | .mapUpdate _ m k v | .insert _ m k v=> [m,k,v]
 | .call ⟨.value f,⟨l⟩,_⟩ | .defer ⟨.value f,⟨l⟩,_⟩=>f::l
 | .call ⟨.builtin _,⟨l⟩,_⟩=>l
 | _=> []
theorem eD {r:Rn} {a:AV} {u:ag} (h:ax r [a]=some [u]):den r a=some u:=by
 obtain ⟨C,us,he,A,_⟩:=dP h;cases he; exact A
theorem ib {r:Rn} {a b:AV} {u v:ag} (h:ax r [a,b]=some [u,v]):den r a=some u∧den r b=some v:=by
 obtain ⟨E,us,he,A,C⟩:=dP h;cases he; exact ⟨A,eD C⟩
theorem lR {r:Rn} {a b c:AV} {u v t:ag} (h:ax r [a,b,c]=some [u,v,t]):den r a=some u∧den r b=some v∧den r c=some t:=by
 obtain ⟨E,us,he,A,C⟩:=dP h;cases he; exact ⟨A,ib C⟩
section
variable {r:Rn} {u:ag}
theorem cG {k:bu} {n:Int} (h:den r (.int k n)=some u):u= .int k n:=by simpa [den] using h.symm
theorem je {b:Bool} (h:den r (.bool b)=some u):u= .bool b:=by simpa [den] using h.symm
theorem gD {l:List UInt8} (h:den r (.str l)=some u):u=str l:=by simpa [den] using h.symm
theorem og (h:den r .gG=some u):u= .pointer none:=by simpa [den] using h.symm
theorem ig (h:den r .eu=some u):u= .slice none 0 0:=by simpa [den] using h.symm
theorem zK (h:den r .ki=some u):u= .map none:=by simpa [den] using h.symm
theorem pT (h:den r .iP=some u):u= .nilFunc:=by simpa [den] using h.symm
theorem oe (h:den r .eb=some u):u= .nilIface:=by simpa [den] using h.symm
theorem iI {b o:Nat} (h:den r (.ptr b o)=some u):∃ q,r b=some q∧u= .pointer (some ⟨q.aq,q.sh+o,none⟩):=by
 simp only [den] at h;split at h
 · rename_i q A; exact ⟨q,A,(eX h).symm⟩
 · cases h
theorem mK {b:Nat} (h:den r (.map b)=some u):∃ q,r b=some q∧u= .map (some q.aq):=by
 simp only [den] at h;split at h
 · rename_i q A; exact ⟨q,A,(eX h).symm⟩
 · cases h
theorem vj {b:Nat} (h:den r (.gn b)=some u):∃ q,r b=some q∧u= .func (.yield q.aq) #[] #[]:=by
 simp only [den] at h;split at h
 · rename_i q A; exact ⟨q,A,(eX h).symm⟩
 · cases h
theorem zL {b o n c:Nat} (h:den r (.sl b o n c true)=some u):∃ q,r b=some q∧n≤c∧u= .slice (some ⟨q.aq,q.sh+o,none⟩) n c:=by
 simp only [den] at h;split at h
 · rename_i q A;cases hb:aZ n c
   · rw [hb] at h; cases h
   · rw [hb] at h;exact ⟨q,A,bH hb,(eX h).symm⟩
 · cases h
theorem rU {b o n c:Nat} (h:den r (.sl b o n c false)=some u):∃ q,r b=some q∧c+n≤q.room∧u= .slice (some ⟨q.aq,q.sh+o,none⟩) n (q.room - c):=by
 simp only [den] at h;split at h
 · rename_i q A;cases hb:aZ (c+n) q.room
   · rw [hb] at h; cases h
   · rw [hb] at h;exact ⟨q,A,bH hb,(eX h).symm⟩
 · cases h
theorem iJ {b o n c:Nat} {x:Bool} (h:den r (.sl b o n c x)=some u):∃ q cap,r b=some q∧n≤cap∧u= .slice (some ⟨q.aq,q.sh+o,none⟩) n cap∧(x=true→cap=c)∧(x=false→cap=q.room - c∧c+n≤q.room):=by
 cases x
 · obtain ⟨q,C,A,he⟩:=rU h;exact ⟨q,q.room - c,C,ab,he,(fun e=>by cases e),fun _=>⟨U,A⟩⟩
 · obtain ⟨q,C,A,he⟩:=zL h;exact ⟨q,c,C,A,he,fun _=>rfl,fun e=>by cases e⟩
theorem lT {f:Nat} {a c:List AV} (h:den r (.fn f a c)=some u):∃ A c',ax r a=some A∧ax r c=some c'∧u= .func (.func f) A.toArray c'.toArray:=by
 simp only [den] at h;split at h
 · rename_i A c' ha C; exact ⟨A,c',ha,C,(eX h).symm⟩
 · cases h
theorem rT {t:Nat} {v:AV} (h:den r (.im t v)=some u):∃ A,den r v=some A∧u= .iface t A:=by
 simp only [den] at h;split at h
 · rename_i A C; exact ⟨A,C,(eX h).symm⟩
 · cases h
theorem pS {l:List AV} (h:den r (.agg l)=some u):∃ us,ax r l=some us∧u= .agg us.toArray:=by
 simp only [den] at h;split at h
 · rename_i C A; exact ⟨C,A,(eX h).symm⟩
 · cases h
theorem zM {l:List AV} (h:den r (.bY l)=some u):∃ us,ax r l=some us∧u= .tuple us.toArray:=by
 simp only [den] at h;split at h
 · rename_i C A; exact ⟨C,A,(eX h).symm⟩
 · cases h
end
def vN (k:bu):Int→Bool
 | .ofNat m=>match k with
   | .i64=>av m 9223372036854775808
   | .u8=>av m 256
   | .u64=>av m 18446744073709551616
   | .i32=>av m 2147483648
   | .u32=>av m 4294967296
   | .u16=>av m 65536
   | _=>false
 | .negSucc m=>match k with
   | .i64=>av m 9223372036854775808
   | .i32=>av m 2147483648
   | _=>false
def nD (k:bu) (n:Int):Int:=cond (vN k n) n<|k.wrap n
theorem cj {a b:Nat} :av a b=true↔a < b:=by simp [av,rk,rq]
theorem u16_in (n:Int) (h:0≤n∧n≤65535):IntKind.u16.wrap n=n:=by
 unfold IntKind.wrap;simp only [IntKind.bits,IntKind.signed];simp;omega
theorem IH {k:bu} {n:Int} (h:vN k n=true):k.wrap n=n:=by
 cases n with
 | ofNat m=>
   show k.wrap (m:Int)=(m:Int)
   cases k with
   | i64=>have :=cj.1 (show av m 9223372036854775808=true from h); exact nA ⟨ab,ab⟩
   | u8=>have :=cj.1 (show av m 256=true from h); exact Dd ⟨ab,ab⟩
   | u64=>have :=cj.1 (show av m 18446744073709551616=true from h); exact pd ⟨ab,ab⟩
   | i32=>have :=cj.1 (show av m 2147483648=true from h); exact xZ ⟨ab,ab⟩
   | u32=>have :=cj.1 (show av m 4294967296=true from h); exact Dc ⟨ab,ab⟩
   | u16=>have :=cj.1 (show av m 65536=true from h); exact u16_in _ ⟨ab,ab⟩
   | i8=>exact dd (show false =true from h)
   | i16=>exact dd (show false =true from h)
 | negSucc m=>
   rw [Int.negSucc_eq];cases k with
   | i64=>have :=cj.1 (show av m 9223372036854775808=true from h); exact nA ⟨ab,ab⟩
   | i32=>have :=cj.1 (show av m 2147483648=true from h); exact xZ ⟨ab,ab⟩
   | _=>exact dd (show false =true from h)
theorem qQ (k:bu) (n:Int):nD k n=k.wrap n:=by
 unfold nD;cases h:vN k n
 · rfl
 · exact (IH h).symm
def eT (k:bu):Int→Option AV
 | .ofNat 0=>some<|.int k 0
 | .ofNat (m+1)=>some<|.int k<|.ofNat<|m+1
 | .negSucc 0=>some<|.int k<|-1
 | .negSucc (m+1)=>some<|.int k<|.negSucc<|m+1
theorem fy (k:bu) (n:Int):eT k n=some (.int k n):=by
 unfold eT;split <;> rfl
def ij:List UInt8→List UInt8→Bool
 | [],[]=>true
 | a::l,b::m=>cond (aQ a.toNat b.toNat) (ij l m) false
 | _,_=>false
theorem oo:∀ l m:List UInt8,ij l m=decide (l=m)
 | [],[]=>by simp [ij]
 | [],_::_=>by simp [ij]
 | _::_,[]=>by simp [ij]
 | a::l,b::m=>by
   have ih:=oo l m;simp only [ij];cases h:aQ a.toNat b.toNat
   · have :a≠b:=fun e=>by subst e; simp at h
     simp [this]
   · have :a=b:=EL.1<|bQ h;simp [this,ih]
def m9:List UInt8→List UInt8→Bool
 | _,[]=>false
 | [],_::_=>true
 | a::l,b::m=>cond (av a.toNat b.toNat) true<|cond (aQ a.toNat b.toNat) (m9 l m) false
theorem A7:∀ l m:List UInt8,m9 l m=ns l m
 | [],[]=>rfl
 | _::_,[]=>rfl
 | [],_::_=>rfl
 | a::l,b::m=>by
   have ih:=A7 l m;rw [LP];simp only [m9];rcases rn a.toNat b.toNat with h | h | h
   · have A:a < b:=EJ.2 h;simp [cj.2 h,A]
   · have e:a=b:=EL.1 h;subst e;have A:¬a < a:=UInt8.lt_irrefl a;have C:av a.toNat a.toNat=false :=by cases hb:av a.toNat a.toNat; rfl; exact absurd (cj.1 hb)<|Nat.lt_irrefl _
     simp [C,A,ih]
   · have A:¬a < b:=fun E=>by have :=EJ.1 E; omega
     have C:av a.toNat b.toNat=false :=by cases hb:av a.toNat b.toNat; rfl; exact absurd (cj.1 hb) ab
     have I:aQ a.toNat b.toNat=false :=by cases hb:aQ a.toNat b.toNat; rfl; exact absurd (bQ hb) ab
     have J:a≠b:=fun e=>by subst e; omega
     simp [C,I,A,J]
end Go.Hb
namespace Go.Hb
def sj (op:BinOp) (k:bu) (a b:Int):Option AV:=match op with
 | .add=>eT k<|nD k<|Int.add a b
 | .sub=>eT k<|nD k<|Int.sub a b
 | .mul=>eT k<|nD k<|Int.mul a b
 | .lss=>some<|.bool<|decide (a < b)
 | .leq=>some<|.bool<|decide (a≤b)
 | .gtr=>some<|.bool<|decide (b < a)
 | .geq=>some<|.bool<|decide (b≤a)
 | .eql=>some<|.bool<|decide (a=b)
 | .neq=>some<|.bool<|decide (a≠b)
 | .quo=>match a,b with
   | .ofNat a,.ofNat (b+1)=>eT k<|nD k<|.ofNat<|a / (b+1)
   | _,_=>none
 | .rem=>match a,b with
   | .ofNat a,.ofNat (b+1)=>eT k<|.ofNat<|a % (b+1)
   | _,_=>none
 | .or =>eT k<|k.wrap (iw k.bits a ||| iw k.bits b).toNat
 | .and =>eT k<|k.wrap (iw k.bits a &&& iw k.bits b).toNat
 | _=>none
def xp (op:BinOp) (k:bu) (a:Int) (b:Nat):Option AV:=match op with
 | .shr=>eT k<|a.fdiv<|2 ^ min b k.bits
 | .shl=>eT k<|k.wrap<|a*2 ^ min b k.bits
 | _=>none
def xD (op:BinOp) (l m:List UInt8):Option AV:=match op with
 | .eql=>some<|.bool<|ij l m
 | .neq=>some<|.bool<|!ij l m
 | .lss=>some<|.bool<|m9 l m
 | .gtr=>some<|.bool<|!(m9 l m || ij l m)
 | .leq=>some<|.bool (m9 l m || ij l m)
 | .geq=>some<|.bool<|!m9 l m
 | .add=>cond (aZ (l.length+m.length) 9223372036854775807) (some<|.str<|l++m) none
 | _=>none
def p9 (P:an) (t:ak):Bool:=match P.underlying t with
 | some (.pointer e)=>(P.info? e).isSome
 | _=>false
def jN (P:an) (t:ak):Bool:=match P.underlying t with
 | some (.slice _)=>true
 | _=>false
def sm (P:an) (t:ak):Bool:=match P.underlying t with
 | some (.func _ _ _)=>true
 | _=>false
def vP (P:an) (t:ak):Bool:=match P.underlying t with
 | some .bool=>true
 | _=>false
def sn (P:an) (t:ak):Bool:=match P.underlying t with
 | some (.interface _)=>true
 | _=>false
def isStr (P:an) (t:ak):Bool:=match P.underlying t with
 | some .string=>true
 | _=>false
def rY (P:an) (A:Bool) (t:ak) (x y:AV):Option Bool:=match x,y with
 | .ptr _ _,.gG=>cond (p9 P t) (some false) none
 | .gG,.gG=>cond (p9 P t) (some true) none
 | .ptr b o,.ptr b' o'=>cond (p9 P t && (aQ b b' && aQ o o')) (some true) none
 | .sl _ _ _ _ _,.eu=>cond (jN P t) (some false) none
 | .eu,.eu=>cond (jN P t) (some true) none
 | .fn _ _ _,.iP=>cond (sm P t) (some false) none
 | .iP,.iP=>cond (sm P t) (some true) none
 | .bool a,.bool b=>cond (vP P t) (some<|a==b) none
 | .im _ _,.eb=>cond (sn P t) (some false) none
 | .eb,.eb=>cond (sn P t && A) (some true) none
 | _,_=>none
def uO (P:an) (A:Bool) (op:BinOp) (t:ak) (x y:AV):Option AV:=match x,y with
 | .int k a,.int k' b=>match op with
   | .shl | .shr=>match b with
     | .ofNat b=>xp op k a b
     | _=>none
   | _=>cond (aQ (dD k)<|dD k') (sj op k a b) none
 | .str l,.str m=>xD op l m
 | x,y=>match op with
   | .eql=>match rY P A t x y with
     | some b=>some<|.bool b
     | none=>none
   | .neq=>match rY P A t x y with
     | some b=>some<|.bool<|!b
     | none=>none
   | _=>none
section
variable {P:an} {r:Rn} {N:Fm} {σ:Nat→ag} {dst:Option Nat} {ty:ak} {pos :String} {af:Array bM} {g:Option (Nat×Bool)} {x y z:aO}
def YP (P:an) (r:Rn) (N:Fm) (σ:Nat→ag) (o:ar) (v:AV):Prop := ∃ u,den r v=some u∧∀ w,(execOp (ev N σ) o).run P w= .ok (.value u) w
theorem IN {op:BinOp} {k:bu} {a b:Int} {t E:ak} {v:AV} (h:sj op k a b=some v) (A:ev N σ x= .int k a) (C:ev N σ y= .int k b):YP P r N σ ⟨dst,.binOp op t x y E,ty,pos,af,g⟩ v:=by
 unfold sj at h;split at h
 · rw [fy,qQ] at h; cases h; exact ⟨_,rfl,fun w=>yO _ A C rfl⟩
 · rw [fy,qQ] at h; cases h; exact ⟨_,rfl,fun w=>B7 _ A C rfl⟩
 · rw [fy,qQ] at h; cases h; exact ⟨_,rfl,fun w=>Bj _ A C rfl⟩
 · cases h; exact ⟨_,rfl,fun w=>lt A C⟩
 · cases h; exact ⟨_,rfl,fun w=>le A C⟩
 · cases h; exact ⟨_,rfl,fun w=>gt A C⟩
 · cases h; exact ⟨_,rfl,fun w=>ge A C⟩
 · cases h; exact ⟨_,rfl,fun w=>zY A C⟩
 · cases h; exact ⟨_,rfl,fun w=>Bl A C⟩
 · split at h
   · rename_i a b;rw [fy,qQ] at h; cases h;exact ⟨_,U,fun w=>KB _ A C ⟨fD _,DV.2<|EG _⟩ U⟩
   · cases h
 · split at h
   · rename_i a b;rw [fy] at h; cases h;exact ⟨_,U,fun w=>rm A C ⟨fD _,DV.2<|EG _⟩⟩
   · cases h
 · rw [fy] at h; cases h; exact ⟨_,rfl,fun w=>y8 A C rfl⟩
 · rw [fy] at h; cases h; exact ⟨_,rfl,fun w=>cM A C rfl⟩
 · cases h
theorem LI {op:BinOp} {k E:bu} {a:Int} {b:Nat} {t I:ak} {v:AV} (h:xp op k a b=some v) (A:ev N σ x= .int k a) (C:ev N σ y= .int E (kJ b)):YP P r N σ ⟨dst,.binOp op t x y I,ty,pos,af,g⟩ v:=by
 unfold xp at h;split at h
 · rw [fy] at h; cases h; exact ⟨_,rfl,fun w=>shr A C (fD _) rfl⟩
 · rw [fy] at h; cases h; exact ⟨_,rfl,fun w=>shl A C (fD _) rfl⟩
 · cases h
theorem Mk {op:BinOp} {l m:List UInt8} {t E:ak} {v:AV} (h:xD op l m=some v) (A:ev N σ x=str l) (C:ev N σ y=str m):YP P r N σ ⟨dst,.binOp op t x y E,ty,pos,af,g⟩ v:=by
 unfold xD at h;simp only [oo,A7] at h;split at h
 · cases h; exact ⟨_,rfl,fun w=>z1 A C⟩
 · cases h; exact ⟨.bool (decide (l≠m)),by simp [den],fun w=>Bn A C⟩
 · cases h; exact ⟨_,rfl,fun w=>JE A C⟩
 · cases h; exact ⟨_,rfl,fun w=>IA A C⟩
 · cases h; exact ⟨_,rfl,fun w=>Jn A C⟩
 · cases h; exact ⟨_,rfl,fun w=>Iq A C⟩
 · cases hb:aZ (l.length+m.length) 9223372036854775807
   · rw [hb] at h; cases h
   · rw [hb] at h; cases h; exact ⟨_,rfl,fun w=>cc A C<|bH hb⟩
 · cases h
def aD:aO→Bool
 | .const _=>true
 | _=>false
def uE (P:an) (t:ak) (x y:aO) (u v:ag) (q:Bool):Prop :=
 (∀ w,(binOp .eql t u v).run P w= .ok (.bool q) w)∧(∀ w,(binOp .neq t u v).run P w= .ok (.bool<|!q) w)∧∀ op w,(eqGuard op t x y u v).run P w= .ok () w
theorem uE.of {t:ak} {u v:ag} {q:Bool} (h:∀ d w,(ix (d+1) t u v).run P w= .ok q w) (A:∀ w,(binOp .eql t u v).run P w=((mo t u v).run P w).andThen fun q w=> .ok (.bool q) w)
 (C:∀ w,(binOp .neq t u v).run P w=((mo t u v).run P w).andThen fun q w=> .ok (.bool<|!q) w) (E:∀ op w,(eqGuard op t x y u v).run P w= .ok () w):uE P t x y u v q:=by
 have e:∀ w,(mo t u v).run P w= .ok q w:=h 9999;exact ⟨fun w=>by rw [A,e]; rfl,fun w=>by rw [C,e]; rfl,E⟩
theorem zV {Z:Bool} {t:ak} {a b:AV} {u v:ag} {q:Bool} (ac:Z=true→(aD x || aD y)=true) (h:rY P Z t a b=some q) (hu:den r a=some u) (E:den r b=some v):uE P t x y u v q:=by
 have J:p9 P t=true→∃ e i,P.underlying t=some (.pointer e)∧P.info? e=some i:=by
  intro hp;unfold p9 at hp;split at hp
  · rename_i e he;obtain ⟨i,hi⟩:=Option.isSome_iff_exists.1 hp;exact ⟨e,i,he,hi⟩
  · cases hp
 have O:jN P t=true→∃ e,P.underlying t=some (.slice e):=by
  intro hp; unfold jN at hp; split at hp
  · exact ⟨_,by assumption⟩
  · cases hp
 have L:sm P t=true→∃ a b c,P.underlying t=some (.func a b c):=by
  intro hp; unfold sm at hp; split at hp
  · exact ⟨_,_,_,by assumption⟩
  · cases hp
 have M:sn P t=true→∃ m,P.underlying t=some (.interface m):=by
  intro hp; unfold sn at hp; split at hp
  · exact ⟨_,by assumption⟩
  · cases hp
 have B1:vP P t=true→P.underlying t=some .bool:=by
  intro hp; unfold vP at hp; split at hp
  · assumption
  · cases hp
 have I:∀ {c:Bool} {p:Option Bool} {q:Bool},cond c p none=some q→c=true∧p=some q:=by
  intro c p q h; cases c
  · cases h
  · exact ⟨U,h⟩
 unfold rY at h;split at h
 · obtain ⟨y,V,rfl⟩:=iI hu;obtain rfl :=og E;obtain ⟨A,C⟩:=I h;cases C;obtain ⟨e,i,he,hi⟩:=J A;exact .of (fun d w=>vp d he) (fun w=>by simp [binOp]) (fun w=>by simp [binOp]) fun op w=>by simp [eqGuard]
 · obtain rfl :=og hu;obtain rfl :=og E;obtain ⟨A,C⟩:=I h;cases C;obtain ⟨e,i,he,hi⟩:=J A;exact .of (fun d w=>vp d he) (fun w=>by simp [binOp]) (fun w=>by simp [binOp]) fun op w=>by simp [eqGuard]
 · rename_i b o ah aj;obtain ⟨A,C⟩:=I h;cases C;simp only [bf] at A;obtain ⟨hp,aa,ab⟩:=A;obtain rfl :=bQ aa;obtain rfl :=bQ ab;rw [hu] at E; cases E;obtain ⟨y,V,rfl⟩:=iI hu;obtain ⟨e,i,he,hi⟩:=J hp;exact .of (fun d w=>by simp [ix,bh he,sizeOf,di hi,sameAddr]) (fun w=>by simp [binOp]) (fun w=>by simp [binOp]) fun op w=>by simp [eqGuard]
 · obtain ⟨y,cap,V,_,rfl,_⟩:=iJ hu;obtain rfl :=ig E;obtain ⟨A,C⟩:=I h;cases C;obtain ⟨e,he⟩:=O A;exact .of (fun d w=>z6 d he) (fun w=>by simp [binOp]) (fun w=>by simp [binOp]) fun op w=>by simp [eqGuard]
 · obtain rfl :=ig hu;obtain rfl :=ig E;obtain ⟨A,C⟩:=I h;cases C;obtain ⟨e,he⟩:=O A;exact .of (fun d w=>z6 d he) (fun w=>by simp [binOp]) (fun w=>by simp [binOp]) fun op w=>by simp [eqGuard]
 · obtain ⟨ae,c',ha,_,rfl⟩:=lT hu;obtain rfl :=pT E;obtain ⟨A,C⟩:=I h;cases C;obtain ⟨_,_,_,he⟩:=L A;exact .of (fun d w=>by simp [ix,bh he]) (fun w=>by simp [binOp]) (fun w=>by simp [binOp]) fun op w=>by simp [eqGuard]
 · obtain rfl :=pT hu;obtain rfl :=pT E;obtain ⟨A,C⟩:=I h;cases C;obtain ⟨_,_,_,he⟩:=L A;exact .of (fun d w=>by simp [ix,bh he]) (fun w=>by simp [binOp]) (fun w=>by simp [binOp]) fun op w=>by simp [eqGuard]
 · obtain rfl :=je hu;obtain rfl :=je E;obtain ⟨A,C⟩:=I h;cases C;exact .of (fun d w=>zX d<|B1 A) (fun w=>by simp [binOp]) (fun w=>by simp [binOp]) fun op w=>by simp [eqGuard]
 · obtain ⟨al,ai,rfl⟩:=rT hu;obtain rfl :=oe E;obtain ⟨A,C⟩:=I h;cases C;obtain ⟨_,he⟩:=M A;exact .of (fun d w=>by simp [ix,bh he]) (fun w=>by simp [binOp]) (fun w=>by simp [binOp]) fun op w=>by simp [eqGuard]
 · obtain rfl :=oe hu;obtain rfl :=oe E;obtain ⟨A,C⟩:=I h;cases C;simp only [bf] at A;obtain ⟨_,he⟩:=M A.1;have ad:=ac A.2;exact .of (fun d w=>by simp [ix,bh he]) (fun w=>by simp [binOp]) (fun w=>by simp [binOp]) (fun op w=>by
    cases x <;> cases y <;> first | (cases ad; done) | simp [eqGuard])
 · cases h
theorem Fs {Z:Bool} {op:BinOp} {t aa:ak} {a b v:AV} (C:Z=true→(aD x || aD y)=true) (h:uO P Z op t a b=some v) (I:den r a=some (ev N σ x)) (J:den r b=some (ev N σ y)):YP P r N σ ⟨dst,.binOp op t x y aa,ty,pos,af,g⟩ v:=by
 unfold uO at h;split at h
 · rename_i k a V b;have A:=cG I;have O:=cG J;have key:(cond (aQ (dD k)<|dD V) (sj op k a b) none)=some v→YP P r N σ ⟨dst,.binOp op t x y aa,ty,pos,af,g⟩ v:=by
    intro E;cases C:aQ (dD k) (dD V)
    · rw [C] at E; cases E
    · rw [C] at E;obtain rfl :=mW C;exact IN E A O
   cases op <;> first
    | exact key h
    | (dsimp only at h
       split at h
       · exact LI h A O
       · cases h)
 · exact Mk h (gD I)<|gD J
 · split at h
   · split at h
     · rename_i q M;cases h;obtain ⟨A,_,L⟩:=zV C M I J;exact ⟨_,U,fun w=>by simp [execOp,A,L]⟩
     · cases h
   · split at h
     · rename_i q M;cases h;obtain ⟨_,A,L⟩:=zV C M I J;exact ⟨_,U,fun w=>by simp [execOp,A,L]⟩
     · cases h
   · cases h
end
def xr (e b o n c:Nat) (x:Bool) (i j:Nat):Option AV:=
 cond (aZ i j) (cond x (cond (aZ j c) (cond (aQ c i) (some<|.sl b o (j - i) (c - i) true)<|some<|.sl b (o+i*e) (j - i) (c - i) true) none)
  (cond (aZ j n && (aQ i 0 || av i n)) (some<|.sl b (o+i*e) (j - i) (c+i) false) none)) none
def o4 (P:an) (t:ak) (x:AV) (lo hi:Option Nat):Option AV:=match x with
 | .str l=>cond (isStr P t && (aZ (lo.getD 0) (hi.getD l.length) && aZ (hi.getD l.length) l.length)) (some<|.str<|(l.take<|hi.getD l.length).drop<|lo.getD 0) none
 | .sl b o n c q=>match dh P t with
   | some e=>xr e b o n c q (lo.getD 0)<|hi.getD n
   | none=>none
 | .eu=>match dh P t with
   | some _=>cond (aQ (lo.getD 0) 0 && aQ (hi.getD 0) 0) (some .eu) none
   | none=>none
 | _=>none
def xq (P:an) (t:ak) (lo hi mx:Option aO) (xs:List AV):Option AV:=match lo,hi,mx with
 | none,some _,none=>match xs with
   | [x,.int _ (.ofNat j)]=>o4 P t x none<|some j
   | _=>none
 | some _,none,none=>match xs with
   | [x,.int _ (.ofNat i)]=>o4 P t x (some i) none
   | _=>none
 | some _,some _,none=>match xs with
   | [x,.int _ (.ofNat i),.int _ (.ofNat j)]=>o4 P t x (some i)<|some j
   | _=>none
 | none,some _,some _=>match xs with
   | [.sl b o n c q,.int _ (.ofNat j),.int _ (.ofNat m)]=>match dh P t with
     | some e=>cond (aQ j m && aZ m n) (some<|.sl b o j j true) none
     | none=>none
   | _=>none
 | some _,some _,some _=>match xs with
   | [.sl b o n c q,.int _ (.ofNat i),.int _ (.ofNat j),.int _ (.ofNat m)]=>match dh P t with
     | some e=>cond (aZ i j && (aZ j m && aZ m n)) (cond (aQ m i) (some<|.sl b o (j - i) (m - i) true)<|some<|.sl b (o+i*e) (j - i) (m - i) true) none
     | none=>none
   | _=>none
 | _,_,_=>none
section
variable {P:an} {r:Rn} {N:Fm} {σ:Nat→ag} {dst:Option Nat} {ty:ak} {pos :String} {af:Array bM} {g:Option (Nat×Bool)} {x y z:aO}
theorem aU {α:Type} {c:Bool} {p:Option α} {q:α} (h:cond c p none=some q):c=true∧p=some q:=by
 cases c
 · cases h
 · exact ⟨U,h⟩
theorem lS {b o n c:Nat} {q:Loc} (A:r b=some q) (h:n≤c):den r (.sl b o n c true)=some (.slice (some ⟨q.aq,q.sh+o,none⟩) n c):=by
 simp only [den,A,cond_true,yC h]
theorem od {b o n c:Nat} {q:Loc} (A:r b=some q) (h:c+n≤q.room):den r (.sl b o n c false)=some (.slice (some ⟨q.aq,q.sh+o,none⟩) n<|q.room - c):=by
 simp only [den,A,cond_true,cond_false,yC h]
theorem xu {e b o n c i j:Nat} {q:Bool} {v:AV} {u:ag} (h:xr e b o n c q i j=some v) (hu:den r (.sl b o n c q)=some u):
 ∃ a cap,u= .slice a n cap∧n≤cap∧i≤j∧j≤cap∧den r v=some (.slice (dc a cap i e) (j - i)<|cap - i):=by
 unfold xr at h;replace h:=aU h; obtain ⟨C,h⟩:=h;have C:=bH C;cases q
 · simp only [cond_false] at h;replace h:=aU h; obtain ⟨A,h⟩:=h;simp only [bf,nH] at A;obtain ⟨q,E,I,rfl⟩:=rU hu;have M:=bH A.1;cases h;refine ⟨_,_,U,ab,C,ab,?_⟩;have L:dc (some ⟨q.aq,q.sh+o,none⟩) (q.room - c) i e=some ⟨q.aq,q.sh+(o+i*e),none⟩:=by
    unfold dc;rcases A.2 with A | A
    · obtain rfl :=bQ A;split
      · simp
      · simp [dO]
    · have :=cj.1 A;rw [if_neg ab];simp [dO,fT]
   rw [L,od E ab,show q.room - (c+i)=q.room - c - i from by omega]
 · simp only [cond_true] at h;replace h:=aU h; obtain ⟨A,h⟩:=h;have A:=bH A;obtain ⟨q,E,I,rfl⟩:=zL hu;refine ⟨_,_,U,I,C,A,?_⟩;cases hb:aQ c i
   · rw [hb] at h; cases h;have J:c≠i:=fun e=>by subst e; simp at hb
     rw [lS E ab];simp only [dc,if_neg J,dJ,dO,fT]
   · rw [hb] at h; cases h;obtain rfl :=bQ hb;rw [lS E ab];simp only [dc,if_true]
theorem lZ {t:ak} (h:isStr P t=true):P.underlying t=some .string:=by
 unfold isStr at h; split at h
 · assumption
 · cases h
theorem Cm (c i e:Nat):dc none c i e=none:=by unfold dc; split <;> rfl
theorem LL (a:Option Addr) (c e:Nat):dc a c 0 e=a:=by
 unfold dc; split
 · rfl
 · cases a <;> simp [Addr.add]
theorem LN {t:ak} {lo hi mx:Option aO} {xs:List AV} {v:AV} (h:xq P t lo hi mx xs=some v) (V:ax r xs=some ((x::(lo.toList++(hi.toList++mx.toList))).map<|ev N σ)):
 YP P r N σ ⟨dst,.slice t x lo hi mx,ty,pos,af,g⟩ v:=by
 unfold xq at h;split at h
 · rename_i z;split at h
   · rename_i a k j;obtain ⟨C,I⟩:=ib (u:=ev N σ x) (v:=ev N σ z) V;have E:=cG I;unfold o4 at h;split at h
     · replace h:=aU h; obtain ⟨A,h⟩:=h;simp only [bf,pI,gV] at A;cases h;refine ⟨_,U,fun w=>(qI (lZ A.1) (gD C) E ⟨fD _,?_⟩).trans ?_⟩
       · have :=bH A.2.2; simp; omega
       · simp
     · split at h
       · rename_i e he;obtain ⟨a,cap,hu,aa,J,L,M⟩:=xu h C;simp only [pI,gV] at J L M;refine ⟨_,M,fun w=>(xy he hu E ⟨fD _,by simp; omega⟩).trans ?_⟩;simp [LL]
       · cases h
     · split at h
       · rename_i e he;replace h:=aU h; obtain ⟨A,h⟩:=h;simp only [bf,pI,gV] at A;obtain rfl :=bQ A.2;cases h;exact ⟨_,U,fun w=>xy he (ig C) E ⟨fD _,by simp⟩⟩
       · cases h
     · cases h
   · cases h
 · rename_i z;split at h
   · rename_i a k j;obtain ⟨C,I⟩:=ib (u:=ev N σ x) (v:=ev N σ z) V;have E:=cG I;unfold o4 at h;split at h
     · replace h:=aU h; obtain ⟨A,h⟩:=h;simp only [bf,pI,gV] at A;cases h;refine ⟨_,U,fun w=>(nu (lZ A.1) (gD C) E ⟨fD _,?_⟩).trans ?_⟩
       · have :=bH A.2.1; simp; omega
       · simp
     · split at h
       · rename_i e he;obtain ⟨a,cap,hu,aa,J,L,M⟩:=xu h C;simp only [pI,gV] at J L M;exact ⟨_,M,fun w=>tw he hu E ⟨fD _,by simp; omega⟩⟩
       · cases h
     · split at h
       · rename_i e he;replace h:=aU h; obtain ⟨A,h⟩:=h;simp only [bf,pI,gV] at A;obtain rfl :=bQ A.1;cases h;exact ⟨_,U,fun w=>(tw he (ig C) E ⟨fD _,by simp⟩).trans<|by simp [Cm]⟩
       · cases h
     · cases h
   · cases h
 · rename_i y z;split at h
   · rename_i a k i ag j;obtain ⟨C,I,J⟩:=lR (u:=ev N σ x) (v:=ev N σ y) (t:=ev N σ z) V;have O:=cG I;have E:=cG J;unfold o4 at h;split at h
     · replace h:=aU h; obtain ⟨A,h⟩:=h;simp only [bf,gV] at A;cases h;have :=bH A.2.1;have :=bH A.2.2;exact ⟨_,U,fun w=>tz (lZ A.1) (gD C) O E ⟨fD _,by simp; omega,by simp; omega⟩⟩
     · split at h
       · rename_i e he;obtain ⟨a,cap,hu,aa,L,M,ad⟩:=xu h C;simp only [gV] at L M ad;exact ⟨_,ad,fun w=>tv he hu O E ⟨fD _,by simp; omega,by simp; omega⟩⟩
       · cases h
     · split at h
       · rename_i e he;replace h:=aU h; obtain ⟨A,h⟩:=h;simp only [bf,gV] at A;obtain rfl :=bQ A.1;obtain rfl :=bQ A.2;cases h;exact ⟨_,U,fun w=>(tv he (ig C) O E ⟨fD _,by simp,by simp⟩).trans<|by simp [Cm]⟩
       · cases h
     · cases h
   · cases h
 · rename_i y z;split at h
   · rename_i b o n c q k j ag m;obtain ⟨C,I,J⟩:=lR (u:=ev N σ x) (v:=ev N σ y) (t:=ev N σ z) V;have O:=cG I;have E:=cG J;split at h
     · rename_i e he;replace h:=aU h; obtain ⟨A,h⟩:=h;simp only [bf] at A;obtain rfl :=bQ A.1;have :=bH A.2;cases h;obtain ⟨q,cap,ac,aa,hu,_⟩:=iJ C;exact ⟨_,lS ac (aT _),fun w=>zt he hu O E ab⟩
     · cases h
   · cases h
 · rename_i y z u;split at h
   · rename_i b o n c q k i ag j am m;obtain ⟨_,_,Z,C,L⟩:=dP V;obtain ⟨I,J,L⟩:=lR (u:=ev N σ y) (v:=ev N σ z) (t:=ev N σ u)<|by simp at Z; rw [L,← Z.2]
     have O:=cG I;have E:=cG J;have hu:=cG L;simp at Z;rw [← Z.1] at C;split at h
     · rename_i e he;replace h:=aU h; obtain ⟨A,h⟩:=h;simp only [bf] at A;have aj:=bH A.1;have al:=bH A.2.1;have an:=bH A.2.2;obtain ⟨q,cap,ac,aa,ai,_⟩:=iJ C;have ae:=fun w=>Cp (dst:=dst) (ty:=ty) (pos :=pos) (af:=af) (g:=g) (w:=w) he ai O E hu ⟨aj,al,ab⟩;cases hb:aQ m i
       · rw [hb] at h; cases h;have ah:m≠i:=fun e=>by subst e; simp at hb
         refine ⟨_,lS ac ab,fun w=>(ae w).trans ?_⟩;simp only [dc,if_neg ah,dJ,dO,fT]
       · rw [hb] at h; cases h;obtain rfl :=bQ hb;refine ⟨_,lS ac ab,fun w=>(ae w).trans ?_⟩;simp only [dc,if_true]
     · cases h
   · cases h
 · cases h
end
end Go.Hb
namespace Go.Hb
def kN:AV→List AV
 | .agg l=>l
 | v=> [v]
theorem uX {r:Rn} {v:AV} {u:ag} (h:den r v=some u):ax r (kN v)=some u.cells.toList:=by
 cases v with
 | agg l=>
   obtain ⟨us,C,rfl⟩:=pS h;simpa [kN,Value.cells] using C
 | bool b=>have :=je h; subst this; exact dK h<|by simp [ax]
 | int k n=>have :=cG h; subst this; exact dK h<|by simp [ax]
 | str l=>have :=gD h; subst this; exact dK h<|by simp [ax]
 | ptr b o=>obtain ⟨q,A,rfl⟩:=iI h; exact dK h<|by simp [ax]
 | gG=>have :=og h; subst this; exact dK h<|by simp [ax]
 | sl b o n c x=>obtain ⟨q,cap,A,_,rfl,_⟩:=iJ h; exact dK h<|by simp [ax]
 | eu=>have :=ig h; subst this; exact dK h<|by simp [ax]
 | map b=>obtain ⟨q,A,rfl⟩:=mK h; exact dK h<|by simp [ax]
 | ki=>have :=zK h; subst this; exact dK h<|by simp [ax]
 | fn f a c=>obtain ⟨_,_,_,_,rfl⟩:=lT h; exact dK h<|by simp [ax]
 | gn l=>obtain ⟨q,A,rfl⟩:=vj h; exact dK h<|by simp [ax]
 | iP=>have :=pT h; subst this; exact dK h<|by simp [ax]
 | im t v=>obtain ⟨_,_,rfl⟩:=rT h; exact dK h<|by simp [ax]
 | eb=>have :=oe h; subst this; exact dK h<|by simp [ax]
 | bY l=>obtain ⟨_,_,rfl⟩:=zM h; exact dK h<|by simp [ax]
def sR:AV→Bool
 | .agg _ | .bY _=>false
 | _=>true
theorem J8 {r:Rn} {v:AV} {u:ag} (h:den r v=some u) (C:sR v=true):u.oneCell'=true :=by
 cases v with
 | agg l=>cases C
 | bool b=>have :=je h; subst this; rfl
 | int k n=>have :=cG h; subst this; rfl
 | str l=>have :=gD h; subst this; rfl
 | ptr b o=>obtain ⟨q,A,rfl⟩:=iI h; rfl
 | gG=>have :=og h; subst this; rfl
 | sl b o n c x=>obtain ⟨q,cap,A,_,rfl,_⟩:=iJ h; rfl
 | eu=>have :=ig h; subst this; rfl
 | map b=>obtain ⟨q,A,rfl⟩:=mK h; rfl
 | ki=>have :=zK h; subst this; rfl
 | fn f a c=>obtain ⟨_,_,_,_,rfl⟩:=lT h; rfl
 | gn l=>obtain ⟨q,A,rfl⟩:=vj h; rfl
 | iP=>have :=pT h; subst this; rfl
 | im t v=>obtain ⟨_,_,rfl⟩:=rT h; rfl
 | eb=>have :=oe h; subst this; rfl
 | bY l=>cases C
def dS:List AV→Bool
 | []=>true
 | v::l=>cond (sR v) (dS l) false
theorem oM {r:Rn} :∀ {l:List AV} {us:List ag},ax r l=some us→dS l=true→∀ u∈us,u.oneCell'=true
 | [],us,h,_,u,hu=>by rw [j9 h] at hu; cases hu
 | v::l,us,h,h1,u,hu=>by
   obtain ⟨E,I,rfl,A,C⟩:=dP h;simp only [dS] at h1;cases hv:sR v
   · rw [hv] at h1; cases h1
   · rw [hv] at h1;rcases dr.1 hu with rfl | hu
     · exact J8 A hv
     · exact oM C h1 u hu
def mP (pl:Nat→Option (Nat×Nat)):List AV→List (Nat×AV)→Option (List AV)
 | A,[]=>some A
 | A,(i,v)::ps=>match pl i with
   | some (off,s)=>cond (aQ (kN v).length s && aZ (off+s) A.length) (mP pl (A.take off++(kN v++A.drop (off+s))) ps) none
   | none=>none
theorem Ab:∀ (l:List ag) (m off :Nat) (cs:Array ag),off+m+l.length≤cs.size→
 (l.zipIdx m).foldl (fun (cs:Array ag) (c,j)=>cs.setIfInBounds (off+j) c) cs=(cs.toList.take (off+m)++(l++cs.toList.drop (off+m+l.length))).toArray
 | [],m,off,cs,h=>by simp
 | c::l,m,off,cs,h=>by
   simp only [List.zipIdx_cons,List.foldl_cons,bA] at h ⊢;rw [Ab l (m+1) off _ (by simp; omega)];apply pn.1;have A:off+m < cs.toList.length:=by rw [nG]; omega
   simp only [Array.toList_setIfInBounds];rw [show off+(m+1)=off+m+1 from by omega,Cf A,Ce ab,show off+m+1 +l.length=off+m+(l.length+1) from by omega];simp
theorem vy {r:Rn} {pl:Nat→Option (Nat×Nat)} :∀ {ps:List (Nat×AV)} {I L:List AV} {Z:List ag} {vs:List (Nat×ag)},mP pl I ps=some L→ax r I=some Z→
 vs.map cg=ps.map cg→ax r (ps.map gW)=some (vs.map gW)→∃ C,ax r L=some C∧jv pl Z.toArray vs=some C.toArray
 | [],I,L,Z,vs,h,hz,A,E=>by
   simp only [mP,bp] at h;subst h;obtain rfl :vs= []:=by simpa using A
   exact ⟨Z,hz,U⟩
 | (i,v)::ps,I,L,Z,vs,h,hz,A,E=>by
   cases vs with
   | nil=>simp at A
   | cons p vs=>
     obtain ⟨j,u⟩:=p;simp only [dq,iA] at A;obtain ⟨rfl,A⟩:=A;simp only [dq] at E;obtain ⟨al,am,he,ah,E⟩:=dP E;simp only [iA] at he;obtain ⟨rfl,rfl⟩:=he;simp only [mP] at h;split at h
     · rename_i off s ae;replace h:=aU h; obtain ⟨J,h⟩:=h;simp only [bf] at J;have V:=bQ J.1;have aj:=bH J.2;have M:=uX ah;have ad:=cZ M;have ak:=cZ hz;have ai:=ff (jd off hz)<|ff M<|jI (off+s) hz;obtain ⟨C,aa,ab⟩:=vy h ai A E;refine ⟨C,aa,?_⟩;have O:u.cells.size=s:=by rw [← nG,ad,V]
       simp only [jv,ae,O];rw [if_neg (by simp; omega),← ab];congr 1;have ac:=Ab u.cells.toList 0 off Z.toArray<|by simp; omega
       rw [show u.cells.zipIdx.foldl (fun (cs:Array ag) (c,j)=>cs.setIfInBounds (off+j) c) Z.toArray=((u.cells.toList.zipIdx 0).foldl (fun (cs:Array ag) (c,j)=>cs.setIfInBounds (off+j) c) Z.toArray) from by
        rw [← tS]; simp [Array.toList_zipIdx],ac]
       simp [O]
     · cases h
def lx:List (Nat×aO)→List AV→List (Nat×AV)
 | p::ps,v::vs=>(p.1,v)::lx ps vs
 | _,_=> []
theorem yf {r:Rn} {f:aO→ag} :∀ {ps:List (Nat×aO)} {xs:List AV},ax r xs=some ((ps.map (·.2)).map f)→
 (ps.map fun p=>(p.1,f p.2)).map cg=(lx ps xs).map cg∧ax r ((lx ps xs).map gW)=some ((ps.map fun p=>(p.1,f p.2)).map gW)
 | [],xs,h=>by
   have :=cZ h;obtain rfl :xs= []:=jx<|by simpa using this.symm
   simp [lx,ax]
 | p::ps,[],h=>by have :=cZ h; simp at this
 | p::ps,v::xs,h=>by
   simp only [dq] at h;obtain ⟨u,us,he,A,C⟩:=dP h;simp only [iA] at he;obtain ⟨rfl,rfl⟩:=he;obtain ⟨E,I⟩:=yf (f:=f) C;refine ⟨?_,?_⟩
   · simp only [dq,lx,iA,true_and]; exact E
   · simp only [dq,lx]; exact dK A I
def zx (P:an) (t u:ak) (n:Int):Option AV:=match P.underlying u with
 | some (.int k)=>cond (P.underlying t).isSome (eT k<|nD k n) none
 | _=>none
def uP (P:an) (b:Builtin) (A:Array ak) (xs:List AV):Option AV:=match b with
 | .len=>match xs,A with
   | [.str l],⟨[t]⟩=>cond (isStr P t) (eT .i64 l.length) none
   | [.sl _ _ n _ _],⟨[t]⟩=>cond (jN P t) (eT .i64 n) none
   | [.eu],⟨[t]⟩=>cond (jN P t) (eT .i64 0) none
   | _,_=>none
 | .min =>match xs with
   | [.int k a,.int k' b]=>cond (aQ (dD k)<|dD k') (eT k<|min a b) none
   | _=>none
 | .max =>match xs with
   | [.int k a,.int k' b]=>cond (aQ (dD k)<|dD k') (eT k<|max a b) none
   | _=>none
 | _=>none
def y5 (P:an) (t:ak):Option (Nat×Nat):=match P.underlying t with
 | some (.array n e)=>match P.info? e with
   | some i=>match c9 P e with
     | some none=>some (n,i.size)
     | _=>none
   | none=>none
 | _=>none
def ng (P:an) (o:Op) (xs:List AV):Option AV:=match o with
 | .move _=>match xs with
   | [x]=>some x
   | _=>none
 | .assign _=>match xs with
   | [x]=>some x
   | _=>none
 | .pick _ _ _=>match xs with
   | [.bool true,a,_]=>some a
   | [.bool false,_,b]=>some b
   | _=>none
 | .nilCheck _=>match xs with
   | [.ptr b o]=>some<|.ptr b o
   | _=>none
 | .extract _ i=>match xs with
   | [.bY l]=>l[i]?
   | _=>none
 | .fieldAddr s _ f=>match xs with
   | [.ptr b o]=>match ot P s f with
     | some n=>some<|.ptr b<|o+n
     | none=>none
   | _=>none
 | .field s _ f=>match xs with
   | [.agg l]=>match vw P s f with
     | some n=>l[n]?
     | none=>match vx P s f with
       | some (C,off)=>match c9 P C with
         | some (some n)=>some<|.agg<|(l.drop off).take n
         | _=>none
       | none=>none
   | _=>none
 | .indexAddr s _ _=>match xs with
   | [.sl b o n _ _,.int _ (.ofNat i)]=>match dh P s with
     | some e=>cond (av i n) (some<|.ptr b<|o+i*e) none
     | none=>none
   | [.ptr b o,.int _ (.ofNat i)]=>match lO P s with
     | some (n,e)=>cond (av i n) (some<|.ptr b<|o+i*e) none
     | none=>none
   | _=>none
 | .index t _ _=>match xs with
   | [.str l,.int _ (.ofNat i)]=>cond (isStr P t) (match l[i]? with
     | some c=>eT .u8 c.toNat
     | none=>none) none
   | [.agg l,.int _ (.ofNat i)]=>match y5 P t with
     | some (n,s)=>cond (av i n) l[i*s]? none
     | none=>none
   | _=>none
 | .binOp op t x y _=>match xs with
   | [a,b]=>uO P (aD x || aD y) op t a b
   | _=>none
 | .unOp .not _ _=>match xs with
   | [.bool b]=>some<|.bool<|!b
   | _=>none
 | .convert t u _=>match xs with
   | [.int _ n]=>zx P t u n
   | _=>none
 | .slice t _ lo hi mx=>xq P t lo hi mx xs
 | .makeInterface t _=>match xs with
   | [x]=>cond (kg P t) (some<|.im t x) none
   | _=>none
 | .typeAssert _ _ a true =>match xs with
   | [.eb]=>cond (kg P a) (match zeroV P a with
     | some z=>match jm 4 z with
       | some z=>some<|.bY [z,.bool false]
       | none=>none
     | none=>none) none
   | [.im t v]=>cond (kg P a && aQ t a) (some<|.bY [v,.bool true]) none
   | _=>none
 | .makeFunc (.func f) ⟨a⟩ _=>some<|.fn f (xs.take a.length)<|xs.drop a.length
 | .build t ⟨ps⟩=>match fB P t with
   | some (pl,A)=>match kj (jm 4) A with
     | some A=>match mP (fun i=>pl.toArray[i]?) A (lx ps xs) with
       | some l=>some<|.agg l
       | none=>none
     | none=>none
   | none=>none
 | .call ⟨.builtin b,_,ts⟩=>uP P b ts xs
 | _=>none
section
variable {P:an} {r:Rn} {N:Fm} {σ:Nat→ag} {dst:Option Nat} {ty:ak} {pos :String} {af:Array bM} {g:Option (Nat×Bool)} {x y z:aO}
theorem qa {t:ak} (h:jN P t=true):∃ e,P.underlying t=some (.slice e):=by
 unfold jN at h; split at h
 · exact ⟨_,by assumption⟩
 · cases h
theorem Fw {b:Builtin} {l:List aO} {J:Array ak} {xs:List AV} {v:AV} (h:uP P b J xs=some v) (E:ax r xs=some (l.map<|ev N σ)):YP P r N σ ⟨dst,.call ⟨.builtin b,⟨l⟩,J⟩,ty,pos,af,g⟩ v:=by
 unfold uP at h;have one:∀ {a:AV},ax r [a]=some (l.map<|ev N σ)→∃ x,l= [x]∧den r a=some (ev N σ x):=by
  intro a h;have :=cZ h;simp at this;obtain ⟨x,rfl⟩:=re.1 this;exact ⟨x,U,eD h⟩
 have two:∀ {a b:AV},ax r [a,b]=some (l.map<|ev N σ)→∃ x y,l= [x,y]∧den r a=some (ev N σ x)∧den r b=some (ev N σ y):=by
  intro a b h;have :=cZ h;simp at this;obtain ⟨x,y,rfl⟩:∃ x y,l= [x,y]:=by
   match l,this with
   | [x,y],_=>exact ⟨x,y,rfl⟩
  exact ⟨x,y,U,ib h⟩
 split at h
 · split at h
   · obtain ⟨x,rfl,C⟩:=one E;replace h:=aU h; obtain ⟨A,h⟩:=h;rw [fy] at h; cases h;exact ⟨_,U,fun w=>A3 (lZ A) U<|gD C⟩
   · obtain ⟨x,rfl,C⟩:=one E;replace h:=aU h; obtain ⟨A,h⟩:=h;rw [fy] at h; cases h;obtain ⟨e,he⟩:=qa A;obtain ⟨q,cap,M,_,hu,_⟩:=iJ C;exact ⟨_,U,fun w=>vX he U hu⟩
   · obtain ⟨x,rfl,C⟩:=one E;replace h:=aU h; obtain ⟨A,h⟩:=h;rw [fy] at h; cases h;obtain ⟨e,he⟩:=qa A;exact ⟨_,U,fun w=>vX he U<|ig C⟩
   · cases h
 · split at h
   · rename_i k a L b;obtain ⟨x,y,rfl,C,I⟩:=two E;replace h:=aU h; obtain ⟨A,h⟩:=h;obtain rfl :=mW A;rw [fy] at h; cases h;exact ⟨_,U,fun w=>mn (cG C)<|cG I⟩
   · cases h
 · split at h
   · rename_i k a L b;obtain ⟨x,y,rfl,C,I⟩:=two E;replace h:=aU h; obtain ⟨A,h⟩:=h;obtain rfl :=mW A;rw [fy] at h; cases h;exact ⟨_,U,fun w=>mx (cG C)<|cG I⟩
   · cases h
 · cases h
theorem Ft {t:ak} {parts:Array (Nat×aO)} {pl:List (Nat×Nat)} {C L:List ag} (h:fB P t=some (pl,C)) (A:jv (pl.toArray[·]?) C.toArray (parts.toList.map fun p=>(p.1,ev N σ p.2))=some L.toArray) (w:ah):
 (execOp (ev N σ) ⟨dst,.build t parts,ty,pos,af,g⟩).run P w= .ok (.value<|.agg L.toArray) w:=by
 unfold fB at h;split at h
 · rename_i it fields hi hu;split at h
   · rename_i z I E hm;simp only [bp,kK] at h;obtain ⟨rfl,rfl⟩:=h;have hb:P.built t (parts.map fun p=>(p.1,ev N σ p.2)).toList=some L.toArray:=by
      simp only [Array.toArray_toList] at A;simp only [Program.built,hi,hu,E,hm,gN]; exact A
     simp [execOp,run_build w t _ _ hb]
   · cases h
 · cases h
theorem BB {o:Op} {xs:List AV} {v:AV} (h:ng P o xs=some v) (E:ax r xs=some ((fN o).map<|ev N σ)):YP P r N σ ⟨dst,o,ty,pos,af,g⟩ v:=by
 unfold ng at h;split at h
 · split at h
   · cases h; exact ⟨_,eD E,fun w=>mv⟩
   · cases h
 · split at h
   · cases h; exact ⟨_,eD E,fun w=>aE⟩
   · cases h
 · split at h
   · cases h;obtain ⟨A,I,aa⟩:=lR E;exact ⟨_,I,fun w=>ta<|je A⟩
   · cases h;obtain ⟨A,I,aa⟩:=lR E;exact ⟨_,aa,fun w=>sZ<|je A⟩
   · cases h
 · split at h
   · cases h;have A:=eD E;obtain ⟨q,O,hu⟩:=iI A;exact ⟨_,A.trans (by rw [hu]),fun w=>nc hu⟩
   · cases h
 · split at h
   · obtain ⟨us,L,hu⟩:=zM<|eD E;obtain ⟨u,V,Z⟩:=oa L h;exact ⟨u,Z,fun w=>xt hu<|by simpa using V⟩
   · cases h
 · split at h
   · split at h
     · rename_i n hn;cases h;obtain ⟨q,O,hu⟩:=iI<|eD E;exact ⟨_,by simp only [den,O]; rfl,fun w=>(fa hn hu).trans<|by rw [fT]⟩
     · cases h
   · cases h
 · split at h
   · split at h
     · rename_i n hn;obtain ⟨us,L,hu⟩:=pS<|eD E;obtain ⟨u,V,Z⟩:=oa L h;exact ⟨u,Z,fun w=>HQ hn hu<|by simpa using V⟩
     · split at h
       · rename_i ao off aj;split at h
         · rename_i n ha;cases h;obtain ⟨us,L,hu⟩:=pS<|eD E;have A:=jd n<|jI off L;exact ⟨_,by simp only [den,A],fun w=>H6 aj ha hu U⟩
         · cases h
       · cases h
   · cases h
 · split at h
   · split at h
     · rename_i e he;replace h:=aU h; obtain ⟨J,h⟩:=h;cases h;obtain ⟨A,I⟩:=ib E;obtain ⟨q,cap,O,L,hu,_⟩:=iJ A;have :=cj.1 J;refine ⟨_,by simp only [den,O]; rfl,fun w=>(ia he hu (cG I) ⟨fD _,by simp; omega⟩).trans ?_⟩;simp [fT]
     · cases h
   · split at h
     · rename_i n e he;replace h:=aU h; obtain ⟨J,h⟩:=h;cases h;obtain ⟨A,I⟩:=ib E;obtain ⟨q,O,hu⟩:=iI A;have :=cj.1 J;refine ⟨_,by simp only [den,O]; rfl,fun w=>(p7 he hu (cG I) ⟨fD _,by simp; omega⟩).trans ?_⟩;simp [fT]
     · cases h
   · cases h
 · split at h
   · rename_i t _ _ l k i;replace h:=aU h; obtain ⟨J,h⟩:=h;obtain ⟨A,I⟩:=ib E;split at h
     · rename_i c L;rw [fy] at h; cases h;obtain ⟨am,ae⟩:=cB.1 L;refine ⟨_,U,fun w=>(ga (lZ J) (gD A) (cG I) am).trans ?_⟩;simp [cn,L]
     · cases h
   · rename_i l k i;split at h
     · rename_i n s M;replace h:=aU h; obtain ⟨J,h⟩:=h;have J:=cj.1 J;obtain ⟨A,I⟩:=ib E;obtain ⟨us,L,hu⟩:=pS A;obtain ⟨u,V,Z⟩:=oa L h;have an:=cG I;unfold y5 at M;split at M
       · rename_i ap e hn;split at M
         · rename_i j ak;split at M
           · rename_i ha;cases M;refine ⟨u,Z,fun w=> ?_⟩;have ae:us.toArray[i*j.size]? =some u:=by simpa using V
             have h0:(0:Int)≤kJ i∧kJ i < (n:Int):=⟨fD _,by simp; omega⟩
             simp only [execOp,Instr.index,hu,an,asIntOf,gq,jw,fR,bh hn,Sem.run_ite,h0,and_self,if_true,sizeOf,di ak,part,B4 ha];simp [ae]
           · cases M
         · cases M
       · cases M
     · cases h
   · cases h
 · split at h
   · obtain ⟨A,I⟩:=ib E;exact Fs (fun h=>h) h A I
   · cases h
 · split at h
   · cases h; exact ⟨_,rfl,fun w=>no<|je<|eD E⟩
   · cases h
 · split at h
   · unfold zx at h;split at h
     · rename_i k al;replace h:=aU h; obtain ⟨J,h⟩:=h;rw [fy,qQ] at h; cases h;exact ⟨_,U,fun w=>Gn al J (cG<|eD E) U⟩
     · cases h
   · cases h
 · exact LN h E
 · split at h
   · replace h:=aU h; obtain ⟨J,h⟩:=h;cases h;have A:=eD E;exact ⟨_,by simp only [den,A],fun w=>wA J U⟩
   · cases h
 · split at h
   · replace h:=aU h; obtain ⟨J,h⟩:=h;split at h
     · rename_i z ab;split at h
       · rename_i au ac;cases h;have aa:=mc (r:=r) 4 ac;exact ⟨_,by simp [den,ax,aa],fun w=>CE J ab<|oe<|eD E⟩
       · cases h
     · cases h
   · replace h:=aU h; obtain ⟨J,h⟩:=h;simp only [bf] at J;obtain rfl :=bQ J.2;cases h;obtain ⟨ar,A,I⟩:=rT<|eD E;exact ⟨_,by simp [den,ax,A],fun w=>CD J.1 I⟩
   · cases h
 · rename_i f a c;cases h;simp only [fN,j1] at E;obtain ⟨c⟩:=c;simp only at E;have A:=jd a.length E;have I:=jI a.length E;rw [List.take_left' (by simp)] at A;rw [List.drop_left' (by simp)] at I;exact ⟨_,by simp only [den,A,I],fun w=>oG⟩
 · rename_i t ps;split at h
   · rename_i pl av M;split at h
     · rename_i aw ab;split at h
       · rename_i l ah;cases h;have ac:=oL (r:=r) (fun v a=>mc 4) ab;obtain ⟨A,I⟩:=yf (f:=ev N σ) E;obtain ⟨C,ag,ai⟩:=vy ah ac A I;exact ⟨.agg C.toArray,by simp only [den,ag],fun w=>Ft M ai w⟩
       · cases h
     · cases h
   · cases h
 · rename_i b ad aq;obtain ⟨ad⟩:=ad;exact Fw h E
 · cases h
end
end Go.Hb
namespace Go.Hb
theorem Ba {r s:Rn} (h:r.le s):∀ {l:List (AV×AV)} {es:List MapEntry},fM r l es→fM s l es
 | [],[],_=>trivial
 | p::l,m::es,hm=>⟨kQ h hm.1,kQ h hm.2.1,Ba h hm.2.2⟩
 | [],_::_,hm=>hm.elim
 | _::_,[],hm=>hm.elim
theorem OR.le {P:an} {r s:Rn} (h:r.le s) {q:Loc} {o:AO} {ob:Option Obj} (I:OR P r q o ob):OR P s q o ob:=by
 cases o with
 | cells l e fz ex=>obtain ⟨c,fr,us,A,C,E⟩:=I; exact ⟨c,fr,us,A,ic h C,E⟩
 | map l=>obtain ⟨es,c,A,C,E⟩:=I; exact ⟨es,c,A,Ba h C,E⟩
 | loop st U n fr ps aE body D=>
   obtain ⟨fn,L,O,A,⟨x,C,E⟩,h4,h5⟩:=I;refine ⟨fn,L,O,A,⟨x,h _ _ C,E⟩,h4,fun i hi=> ?_⟩;have J:=h5 i hi;have M:i < L.size:=ab;rw [nF M] at J ⊢;exact kQ h J
 | kR b=>exact I
 | xE l p=>exact I
structure HR (P:an) (G:Nat) (r:Rn) (T:Nat) (h:Hp) (w:ah):Prop where
 live:∀ i o,h.t.get i=some o→∃ q,r i=some q∧OR P r q o w.heap[q.aq]?
 inj:∀ i j o o' q q',h.t.get i=some o→h.t.get j=some o'→r i=some q→r j=some q'→q.aq=q'.aq→i=j
 new:∀ i,h.nx≤i→i < T→r i=none
 fu:nY G r
 base:G≤h.nx
def Fr (G:Nat) (r:Rn) (h:Hp) (k:Nat):Prop := ∃ i o q,G≤i∧h.t.get i=some o∧r i=some q∧q.aq=k
structure St (P:an) (G T:Nat) (r:Rn) (h:Hp) (w:ah) (r':Rn) (h':Hp) (w':ah):Prop where
 le:r.le r'
 hr:HR P G r' T h' w'
 nx:h.nx≤h'.nx
 md:Md (Fr G r h) w w'
 dR:∀ g,g≤G→∀ k,k < w.heap.size→Fr g r' h' k→Fr g r h k
 out:∀ i,h'.nx≤i→r' i=r i
theorem St.trans {P:an} {G T:Nat} {r r' L:Rn} {h E I:Hp} {w w' w'':ah} (a:St P G T r h w r' E w') (b:St P G T r' E w' L I w''):St P G T r h w L I w'':=
 ⟨Rn.le_trans a.le b.le,b.hr,bS a.nx b.nx,Md.trans' a.md b.md (fun k A C=>a.dR G (aT _) k A C),fun g J k A C=>a.dR g J k A (b.dR g J k (my A a.md.size) C),fun i hi=>(b.out i hi).trans<|a.out i<|bS b.nx hi⟩
theorem St.refl {P:an} {G T:Nat} {r:Rn} {h:Hp} {w:ah} (hr:HR P G r T h w):St P G T r h w r h w:=⟨Rn.le_refl r,hr,aT _,Md.refl _ _,fun _ _ _ _ h=>h,fun _ _=>rfl⟩
theorem St.drew {P:an} {G T:Nat} {r r':Rn} {h A:Hp} {w w':ah} (a:St P G T r h w.drew r' A w'):St P G T r h w r' A w':=⟨a.le,a.hr,a.nx,⟨a.md.os,a.md.output,a.md.size,a.md.cP⟩,a.dR,a.out⟩
section
variable {P:an} {G:Nat} {r:Rn} {T:Nat} {h:Hp} {w:ah}
theorem HR.drew (hr:HR P G r T h w):HR P G r T h w.drew:=⟨hr.live,hr.inj,hr.new,hr.fu,hr.base⟩
theorem HR.cells (hr:HR P G r T h w) {b:Nat} {l:List AV} {e fz:Nat} {ex:Ck} (hb:h.t.get b=some (.cells l e fz ex)):
 ∃ q us,r b=some q∧ax r l=some us∧(∀ j u,us[j]? =some u→ay w.heap q.aq (q.sh+j)=some u)∧∃ c fr,w.heap[q.aq]? =some (.cells c e fr):=by
 obtain ⟨q,J,c,fr,us,A,C,L,E,_⟩:=hr.live b _ hb;exact ⟨q,us,J,C,fun j u I=>by rw [dg A]; exact E j u I,c,fr,A⟩
def YL (P:an) (r:Rn) (N:Fm) (σ:Nat→ag) (o:ar) (w:ah) (v:AV):Prop := ∃ u,den r v=some u∧(execOp (ev N σ) o).run P w= .ok (.value u) w
end
def nw:List AV→Option (List UInt8)
 | []=>some []
 | .int .u8 (.ofNat n)::l=>match nw l with
   | some m=>cond (av n 256) (some (eK n::m)) none
   | none=>none
 | _=>none
theorem xM {r:Rn} :∀ {l:List AV} {m:List UInt8} {us:List ag},nw l=some m→ax r l=some us→us=U8 m
 | [],m,us,h,hd=>by simp only [nw,bp] at h; subst h; rw [j9 hd]; rfl
 | a::l,m,us,h,hd=>by
   unfold nw at h;split at h
   · rename_i h0; cases h0
   · rename_i n I h0;cases h0;split at h
     · rename_i J hm;replace h:=aU h; obtain ⟨E,h⟩:=h;cases h;obtain ⟨u,L,rfl,A,C⟩:=dP hd;obtain rfl :=cG A;obtain rfl :=xM hm C;have :=cj.1 E;simp only [U8,dq,iA,and_true];congr 1;exact (ME n this).symm
     · cases h
   · cases h
inductive KK | s | i (k:bu) | bs
def m7 (P:an) (k:ak) (a:AV):Option KK:=match a with
 | .str _=>cond (isStr P k) (some .s) none
 | .int q _=>match P.underlying k with
   | some (.int _)=>some<|.i q
   | _=>none
 | .agg _=>cond (mH P k) (some .bs) none
 | _=>none
def dz (A:KK) (a:AV):Bool:=match A,a with
 | .s,.str _=>true
 | .i k,.int k' _=>aQ (dD k)<|dD k'
 | .bs,.agg [.bool _,.str _]=>true
 | _,_=>false
def eS (A:KK):List (AV×AV)→Bool
 | []=>true
 | p::l=>cond (dz A p.1) (eS A l) false
def oB:KK→ag→Prop
 | .s=>IQ
 | .i k=>AB k
 | .bs=>vQ
where IQ (v:ag):Prop := ∃ s:List UInt8,v=str s
def fK (a b:AV):Bool:=match a,b with
 | .str l,.str m=>ij l m
 | .int _ a,.int _ b=>decide (a=b)
 | .agg [.bool a,.str l],.agg [.bool b,.str m]=>cond (a==b) (ij l m) false
 | _,_=>false
def l6 (x:AV):List (AV×AV)→Option AV
 | []=>none
 | p::l=>cond (fK p.1 x) (some p.2)<|l6 x l
section
variable {P:an} {r:Rn}
theorem su {C:KK} {a:AV} {u:ag} (h:dz C a=true) (A:den r a=some u):oB C u:=by
 unfold dz at h;split at h
 · exact ⟨_,gD A⟩
 · rename_i k O n;obtain rfl :=mW h;exact ⟨_,cG A⟩
 · obtain ⟨us,E,rfl⟩:=pS A;obtain ⟨V,aa,rfl,I,J⟩:=dP E;obtain ⟨Z,ab,rfl,L,M⟩:=dP J;obtain rfl :=j9 M;obtain rfl :=je I;obtain rfl :=gD L;exact ⟨_,_,U⟩
 · cases h
theorem AN {a:AV} (h:dz .s a=true):∃ l,a= .str l:=by
 cases a with
 | str l=>exact ⟨l,rfl⟩
 | _=>exact dd (show false =true from h)
theorem AM {k:bu} {a:AV} (h:dz (.i k) a=true):∃ n,a= .int k n:=by
 cases a with
 | int A n=>exact ⟨n,by rw [mW (show aQ (dD k) (dD A)=true from h)]⟩
 | _=>exact dd (show false =true from h)
theorem AL {a:AV} (h:dz .bs a=true):∃ f l,a= .agg [.bool f,.str l]:=by
 unfold dz at h;split at h <;> first
  | exact ⟨_,_,rfl⟩
  | contradiction
  | (exfalso; cases h; done)
  | (rename_i A; cases A; done)
  | (rename_i A _; cases A; done)
theorem zJ {f:Bool} {l:List UInt8} {u:ag} (h:den r (.agg [.bool f,.str l])=some u):u= .agg #[.bool f,str l]:=by simpa [den,ax] using h.symm
theorem str_inj {l m:List UInt8} (h:str l=str m):l=m:=by unfold str at h; cases h; rfl
theorem kY {I:KK} {a b:AV} {u v:ag} (A:dz I a=true) (C:dz I b=true) (hu:den r a=some u) (E:den r b=some v):fK a b=true↔u=v:=by
 cases I with
 | s=>
   obtain ⟨l,rfl⟩:=AN A;obtain ⟨m,rfl⟩:=AN C;rw [gD hu,gD E];simp only [fK,oo,decide_eq_true_iff];exact ⟨fun h=>by rw [h],str_inj⟩
 | i k=>
   obtain ⟨l,rfl⟩:=AM A;obtain ⟨m,rfl⟩:=AM C;rw [cG hu,cG E];simp only [fK,decide_eq_true_iff];exact ⟨fun h=>by rw [h],fun h=>by cases h; rfl⟩
 | bs=>
   obtain ⟨f,l,rfl⟩:=AL A;obtain ⟨g,m,rfl⟩:=AL C;rw [zJ hu,zJ E];simp only [fK,oo];cases hab:(f==g)
   · have :f≠g:=by simpa using hab
     exact ⟨fun h=>dd h,fun h=>by simp at h; exact absurd h.1 this⟩
   · obtain rfl :f=g:=by simpa using hab
     simp only [cond_true,decide_eq_true_iff];exact ⟨fun h=>by rw [h],fun h=>by simp at h; exact str_inj h⟩
theorem vT {k:ak} {a:AV} {C:KK} (h:m7 P k a=some C):nZ P k (oB C):=by
 unfold m7 at h;split at h
 · replace h:=aU h; obtain ⟨A,h⟩:=h;cases h;exact (vS<|lZ A).key
 · split at h
   · cases h; exact (AJ<|by assumption).key
   · cases h
 · replace h:=aU h; obtain ⟨A,h⟩:=h;cases h;exact I7 A
 · cases h
theorem sK {A:KK} :∀ {l:List (AV×AV)} {es:List MapEntry},fM r l es→eS A l=true→∀ p∈es.map (fun e=>(e.key,e.val)),oB A p.1
 | [],[],_,_,p,hp=>by simp at hp
 | q::l,m::es,hm,hk,p,hp=>by
   simp only [eS] at hk;cases h1:dz A q.1
   · rw [h1] at hk; cases hk
   · rw [h1] at hk;rcases dr.1 hp with rfl | hp
     · exact su h1 hm.1
     · exact sK hm.2.2 hk p hp
 | [],_::_,hm,_,_,_=>hm.elim
 | _::_,[],hm,_,_,_=>hm.elim
theorem AH {E:KK} {x v:AV} {kx:ag} (C:dz E x=true) (A:den r x=some kx):∀ {l:List (AV×AV)} {es:List MapEntry},fM r l es→eS E l=true→l6 x l=some v→∃ u,den r v=some u∧(kx,u)∈es.map (fun e=>(e.key,e.val))
 | [],_,_,_,h=>by cases h
 | q::l,[],hm,_,_=>hm.elim
 | q::l,m::es,hm,hk,h=>by
   simp only [eS] at hk;cases h1:dz E q.1
   · rw [h1] at hk; cases hk
   · rw [h1] at hk;simp only [l6] at h;cases he:fK q.1 x
     case true =>
      have he:=(kY h1 C hm.1 A).1 he;rw [(kY h1 C hm.1 A).2 he] at h;cases h;exact ⟨m.val,hm.2.1,by rw [← he]; exact iB⟩
     case false =>
      rw [he] at h;obtain ⟨u,I,J⟩:=AH C A hm.2.2 hk h;exact ⟨u,I,iY _ J⟩
theorem vR {C:KK} {x:AV} {kx:ag} (I:dz C x=true) (E:den r x=some kx):∀ {l:List (AV×AV)} {es:List MapEntry},fM r l es→eS C l=true→l6 x l=none→∀ v,(kx,v)∉es.map (fun e=>(e.key,e.val))
 | [],[],_,_,_,v=>by simp
 | [],_::_,hm,_,_,_=>hm.elim
 | q::l,[],hm,_,_,_=>hm.elim
 | q::l,m::es,hm,hk,h,v=>by
   simp only [eS] at hk;cases h1:dz C q.1
   · rw [h1] at hk; cases hk
   · rw [h1] at hk;simp only [l6] at h;cases he:fK q.1 x
     case true =>rw [he] at h; cases h
     case false =>
      rw [he] at h;intro J;rcases dr.1 J with A | A
      · cases A; have :=(kY h1 I hm.1 E).2 rfl; rw [he] at this; cases this
      · exact vR I E hm.2.2 hk h v A
end
end Go.Hb
namespace Go.Hb
def zy (P:an) (t u:ak) (x:AV) (h:Hp):Option AV:=match x with
 | .sl _ _ 0 _ _=>match P.underlying t with
   | some (.slice e)=>cond (lP P t e u) (some<|.str []) none
   | _=>none
 | .sl b o n _ _=>match h.t.get b with
   | some (.cells l e _ _)=>cond (lP P t e u && aZ (o+n) l.length) (match nw ((l.drop o).take n) with
     | some m=>some<|.str m
     | none=>none) none
   | _=>none
 | .eu=>match P.underlying t with
   | some (.slice e)=>cond (lP P t e u) (some<|.str []) none
   | _=>none
 | .ptr b 0=>match h.t.get b with
   | some (.cells l e 0 .x)=>cond (ny P t u e l.length || ny P u t e l.length) (some<|.ptr b 0) none
   | _=>none
 | _=>none
def sw (P:an) (t:ak) (x:AV) (h:Hp):Option AV:=match x with
 | .ptr b o=>match h.t.get b with
   | some (.cells l _ _ _)=>match c9 P t with
     | some none=>l[o]?
     | some (some n)=>cond (aZ (o+n) l.length) (some<|.agg<|(l.drop o).take n) none
     | none=>none
   | _=>none
 | _=>none
def jq (P:an) (o:Op) (xs:List AV) (h:Hp):Option AV:=match o with
 | .load t _=>match xs with
   | [x]=>sw P t x h
   | _=>none
 | .lookup t _ _ ok=>match xs with
   | [.map b,k]=>match h.t.get b with
     | some (.map l)=>match P.underlying t with
       | some (.map kt e)=>match m7 P kt k with
         | some A=>cond (dz A k && eS A l) (match l6 k l with
           | some v=>some<|cond ok (.bY [v,.bool true]) v
           | none=>match zeroV P e with
             | some z=>match jm 4 z with
               | some z=>some<|cond ok (.bY [z,.bool false]) z
               | none=>none
             | none=>none) none
         | none=>none
       | _=>none
     | _=>none
   | _=>none
 | .convert t u _=>match xs with
   | [x]=>zy P t u x h
   | _=>none
 | .slice t _ none none none=>match xs with
   | [.ptr b 0]=>match h.t.get b with
     | some (.cells _ _ _ .x)=>match lO P t with
       | some (n,_)=>some<|.sl b 0 n n true
       | none=>none
     | _=>none
   | _=>none
 | .call ⟨.builtin .len,_,⟨[t]⟩⟩=>match xs with
   | [.map b]=>match h.t.get b with
     | some (.map l)=>match P.underlying t with
       | some (.map _ _)=>eT .i64 l.length
       | _=>none
     | _=>none
   | _=>none
 | _=>none
section
variable {P:an} {G:Nat} {r:Rn} {T:Nat} {h:Hp} {w:ah} {N:Fm} {σ:Nat→ag} {dst:Option Nat} {ty:ak} {pos :String} {af:Array bM} {g:Option (Nat×Bool)} {x y z:aO}
theorem Bb:∀ {l:List (AV×AV)} {es:List MapEntry},fM r l es→es.length=l.length
 | [],[],_=>rfl
 | p::l,m::es,hm=>by simp [Bb hm.2.2]
 | [],_::_,hm=>hm.elim
 | _::_,[],hm=>hm.elim
theorem HR.map (hr:HR P G r T h w) {b:Nat} {l:List (AV×AV)} (hb:h.t.get b=some (.map l)):∃ q es c,r b=some q∧w.heap[q.aq]? =some (.map es c)∧fM r l es.toList∧(es.toList.map fun e=>e.key).Nodup:=by
 obtain ⟨q,I,es,c,A,C,E⟩:=hr.live b _ hb;exact ⟨q,es,c,I,A,C,E⟩
theorem AT (hr:HR P G r T h w) {t:ak} {a v:AV} {v0:ag} (A:sw P t a h=some v) (V:den r a=some v0):∃ b off u,v0= .pointer (some ⟨b,off,none⟩)∧den r v=some u∧
 ((c9 P t=some none∧ay w.heap b off =some u)∨∃ (n:Nat) (cs:List ag),c9 P t=some (some n)∧u= .agg cs.toArray∧cs.length=n∧∀ j,j < n→ay w.heap b (off+j)=cs[j]?):=by
 unfold sw at A;split at A
 · rename_i b o;split at A
   · rename_i l _ _ _ hb;obtain ⟨q,us,aa,E,I,_⟩:=hr.cells hb;obtain ⟨q',L,rfl⟩:=iI V;rw [aa] at L; cases L;split at A
     · rename_i ha;obtain ⟨u,C,M⟩:=oa E A;exact ⟨_,_,u,U,M,.inl ⟨ha,I _ _ C⟩⟩
     · rename_i n ha;replace A:=aU A; obtain ⟨O,A⟩:=A;have hle:=bH O;cases A;have C:=jd n<|jI o E;have hlen:=cZ E;refine ⟨_,_,.agg ((us.drop o).take n).toArray,U,by simp only [den,C],.inr ⟨n,_,ha,U,by simp; omega,fun j Z=> ?_⟩⟩;rw [gr,if_pos Z,iX];have J:o+j < us.length:=ab;rw [fT,bR J];exact I _ _<|bR J
     · cases A
   · cases A
 · cases A
theorem BA (hr:HR P G r T h w) {o:Op} {xs:List AV} {v:AV} (A:jq P o xs h=some v) (Z:ax r xs=some ((fN o).map<|ev N σ)):YL P r N σ ⟨dst,o,ty,pos,af,g⟩ w v:=by
 unfold jq at A;split at A
 · split at A
   · obtain ⟨b,off,u,O,hu,J⟩:=AT hr A<|eD Z;rcases J with ⟨ha,E⟩ | ⟨n,cs,ha,rfl,aa,E⟩
     · exact ⟨u,hu,ld ha O E⟩
     · exact ⟨_,hu,jk ha O aa E⟩
   · cases A
 · rename_i t a b ok;split at A
   · rename_i b k;split at A
     · rename_i l hb;obtain ⟨q,es,c,L,hw,hm,hn⟩:=hr.map hb;obtain ⟨J,M⟩:=ib Z;obtain ⟨q',C,hu⟩:=mK J;rw [L] at C; cases C;split at A
       · rename_i kt e ae;split at A
         · rename_i aA au;replace A:=aU A; obtain ⟨E,A⟩:=A;simp only [bf] at E;have aj:=vT au;have al:j4 w.heap q.aq (es.toList.map fun e=>(e.key,e.val)):=⟨es,c,hw,rfl⟩
           have ak:=sK hm E.2;have hi:=su E.1 M;split at A
           · rename_i aB ai;cases A;obtain ⟨u,V,ab⟩:=AH E.1 M hm E.2 ai;refine ⟨if ok then .tuple #[u,.bool true] else u,?_,AZ ae aj al ak hu U hi (by rw [ur]; exact hn) ab⟩;cases ok
             · exact V
             · simp [den,ax,V]
           · rename_i ai;have ab:=vR E.1 M hm E.2 ai;split at A
             · rename_i z aw;split at A
               · rename_i aC az;cases A;have V:=mc (r:=r) 4 az;refine ⟨if ok then .tuple #[z,.bool false] else z,?_,A0 ae aw aj al ak hu U hi ab⟩;cases ok
                 · exact V
                 · simp [den,ax,V]
               · cases A
             · cases A
         · cases A
       · cases A
     · cases A
   · cases A
 · rename_i t u a;split at A
   · rename_i x;have O:=eD Z;unfold zy at A;split at A
     · split at A
       · rename_i e he;replace A:=aU A; obtain ⟨I,A⟩:=A;cases A;obtain ⟨q',cap,C,hn,hu,_⟩:=iJ O;exact ⟨_,U,vg I hu (bo.nil _ _) U⟩
       · cases A
     · rename_i b o n c q _;split at A
       · rename_i l e _ _ hb;obtain ⟨q,us,L,aa,E,_⟩:=hr.cells hb;obtain ⟨q',cap,C,hn,hu,_⟩:=iJ O;rw [L] at C; cases C;replace A:=aU A; obtain ⟨I,A⟩:=A;simp only [bf] at I;have hle:=bH I.2;split at A
         · rename_i m hm;cases A;have J:=jd n<|jI o aa;have M:=xM hm J;have hlen:=cZ aa;have av:m.length=n:=by
            have :=congrArg lE M;simp [uJ] at this;omega
           refine ⟨_,U,vg I.1 hu ⟨fun _=>rfl,fun j u ac=> ?_⟩ av⟩;rw [← M,gr] at ac;split at ac
           · rw [iX] at ac;show ay w.heap q.aq (q.sh+o+j)=some u;rw [fT]; exact E _ _ ac
           · cases ac
         · cases A
       · cases A
     · split at A
       · rename_i e he;replace A:=aU A; obtain ⟨I,A⟩:=A;cases A;exact ⟨_,U,vg I (ig O) (bo.nil _ _) U⟩
       · cases A
     · rename_i b;split at A
       · rename_i l e hb;replace A:=aU A; obtain ⟨I,A⟩:=A;cases A;obtain ⟨q,L,c,fr,us,J,M,V,ab,an,ao,ah,ap⟩:=hr.live b _ hb;obtain ⟨ad,am,rfl⟩:=ah.1 rfl;obtain ⟨q',C,hu⟩:=iI O;rw [L] at C; cases C;rw [ad] at hu;have ar:c=c.toList.toArray:=by simp
         rw [ar] at J;refine ⟨_,O.trans (congrArg some hu),?_⟩;rcases Dq.1 I with I | I
         · exact CK I hu J<|by simpa using am
         · exact Aq I hu J<|by simpa using am
       · cases A
     · cases A
   · cases A
 · split at A
   · rename_i b;split at A
     · rename_i hb;split at A
       · rename_i n _ hn;cases A;obtain ⟨q,L,c,fr,us,J,M,V,ab,an,ao,ah,ap⟩:=hr.live b _ hb;obtain ⟨ad,_,_⟩:=ah.1 rfl;obtain ⟨q',C,hu⟩:=iI<|eD Z;rw [L] at C; cases C;rw [ad] at hu;exact ⟨_,by rw [lS L (aT _),ad],Fi hn hu⟩
       · cases A
     · cases A
   · cases A
 · rename_i ag t;split at A
   · rename_i b;split at A
     · rename_i l hb;obtain ⟨q,es,c,L,hw,hm,hn⟩:=hr.map hb;split at A
       · rename_i ae;rw [fy] at A; cases A;obtain ⟨ag⟩:=ag;have aa:=cZ Z;obtain ⟨x,rfl⟩:∃ x,ag= [x]:=re.1<|by simpa [fN] using aa
         obtain ⟨q',C,hu⟩:=mK<|eD Z;rw [L] at C; cases C;refine ⟨_,U,?_⟩;have :=A2 (dst:=dst) (ty:=ty) (pos :=pos) (af:=af) (g:=g) (P:=P) ae rfl hu hw;rw [this];have :=Bb hm;rw [nG] at this;rw [this]
       · cases A
     · cases A
   · cases A
 · cases A
end
end Go.Hb
namespace Go.Hb
def Rn.ext (r:Rn) (i:Nat) (q:Loc):Rn:=fun k=>if k=i then some q else r k
theorem Rn.gE (r:Rn) (i:Nat) (q:Loc):r.ext i q i=some q:=if_pos rfl
theorem Rn.jL (r:Rn) {i k:Nat} (q:Loc) (h:k≠i):r.ext i q k=r k:=if_neg h
theorem Rn.qf {r:Rn} {i:Nat} (q:Loc) (h:r i=none):r.le (r.ext i q):=fun k x A=>by
 by_cases e:k=i
 · subst e; rw [h] at A; cases A
 · rw [Rn.jL r q e]; exact A
theorem OR.obj {P:an} {r:Rn} {q:Loc} {o:AO} {ob:Option Obj} (h:OR P r q o ob):∃ b,ob=some b:=by
 cases o with
 | cells l e fz ex=>obtain ⟨c,fr,us,A,_⟩:=h; exact ⟨_,A⟩
 | map l=>obtain ⟨es,c,A,_⟩:=h; exact ⟨_,A⟩
 | loop st C n fr ps aE body D=>obtain ⟨_,_,_,A,_⟩:=h; exact ⟨_,A⟩
 | kR b=>exact ⟨_,h⟩
 | xE l p=>exact ⟨_,h⟩
section
variable {P:an} {G:Nat} {r:Rn} {T:Nat} {h:Hp} {w:ah}
theorem nY.le {r s:Rn} (A:nY G r) (h:r.le s):nY G s:=fun g C=>let ⟨m,hm⟩:=A g C; ⟨m,h _ _ hm⟩
theorem HR.lt (hr:HR P G r T h w) {i:Nat} {o:AO} {q:Loc} (hi:h.t.get i=some o) (E:r i=some q):q.aq < w.heap.size:=by
 obtain ⟨q',A,C⟩:=hr.live i o hi;rw [E] at A; cases A;obtain ⟨b,hb⟩:=C.obj;exact (bJ.1 hb).1
theorem HR.put (hr:HR P G r T h w) {i aa:Nat} {o:AO} {q:Loc} {r':Rn} {w':ah} (hle:r.le r') (hi:av i bZ=true) (Z:r' i=some q) (ae:OR P r' q o w'.heap[q.aq]?)
 (hw:∀ k,k≠q.aq→k < w.heap.size→w'.heap[k]? =w.heap[k]?) (V:∀ j M q',j≠i→h.t.get j=some M→r j=some q'→q'.aq≠q.aq)
 (ad:h.nx≤aa) (ac:∀ k,aa≤k→k < T→r' k=none):HR P G r' T ⟨h.t.set i o,aa⟩ w':=by
 refine ⟨fun j M A=> ?_,fun j k O U ai aj A I C J he=> ?_,ac,hr.fu.le hle,bS hr.base ad⟩
 · rw [Tr.lW _ _ _ _ hi] at A;split at A
   · rename_i e; subst e; cases A; exact ⟨q,Z,ae⟩
   · rename_i e;obtain ⟨q',C,E⟩:=hr.live j M A;refine ⟨q',hle _ _ C,?_⟩;rw [hw _ (V j M q' e A C) (hr.lt A C)];exact E.le hle
 · simp only [Tr.lW _ _ _ _ hi] at A I;split at A
   · rename_i e;split at I
     · rename_i L; rw [e,L]
     · rename_i L;exfalso;subst e;rw [Z] at C; cases C;obtain ⟨q',E,_⟩:=hr.live k U I;rw [hle _ _ E] at J; cases J;exact V k U _ L I E he.symm
   · rename_i e;split at I
     · rename_i L;exfalso;subst L;rw [Z] at J; cases J;obtain ⟨q',E,_⟩:=hr.live j O A;rw [hle _ _ E] at C; cases C;exact V j O _ e A E he
     · obtain ⟨q',E,_⟩:=hr.live j O A;obtain ⟨ag,ab,_⟩:=hr.live k U I;rw [hle _ _ E] at C; cases C;rw [hle _ _ ab] at J; cases J;exact hr.inj j k O U _ _ A I E ab he
theorem HR.del (hr:HR P G r T h w) {i:Nat} (hi:av i bZ=true):HR P G r T ⟨h.t.del i,h.nx⟩ w:=by
 refine ⟨fun j o A=> ?_,fun j k E I J L A C=> ?_,hr.new,hr.fu,hr.base⟩
 · rw [Tr.oz _ _ _ hi] at A;split at A
   · cases A
   · exact hr.live j o A
 · simp only [Tr.oz _ _ _ hi] at A C;split at A
   · cases A
   · split at C
     · cases C
     · exact hr.inj j k E I J L A C
theorem Fr.set {g:Nat} {r':Rn} {i O:Nat} {o:AO} {q:Loc} (hi:av i bZ=true) (M:r' i=some q) (hle:r.le r') (hr:HR P G r T h w) {k:Nat} (L:Fr g r' ⟨h.t.set i o,O⟩ k):k=q.aq∨Fr g r h k:=by
 obtain ⟨j,I,q',J,A,C,rfl⟩:=L;rw [Tr.lW _ _ _ _ hi] at A;split at A
 · rename_i e; subst e; rw [M] at C; cases C; exact .inl rfl
 · obtain ⟨V,E,_⟩:=hr.live j I A;have :=hle _ _ E;rw [C] at this; cases this;exact .inr ⟨j,I,_,J,A,E,U⟩
def YM (P:an) (G:Nat) (r:Rn) (T:Nat) (N:Fm) (σ:Nat→ag) (o:ar) (h:Hp) (w:ah) (v:AV) (A:Hp):Prop :=
 ∃ r' u w',den r' v=some u∧((execOp (ev N σ) o).run P w= .ok (.value u) w'∨(execOp (ev N σ) o).run P w= .ok .skip w'∧u=undef)∧St P G T r h w r' A w'
def cQ (h:Hp) (o:AO):Option Hp:=cond (av h.nx bZ) (some ⟨h.t.set h.nx o,h.nx+1⟩) none
theorem JN (w:ah) (ob:Obj) (F:Nat→Prop):Md F w {w with heap:=w.heap.push ob} :=
 ⟨rfl,rfl,by simp,fun k A _=>by simp only [tV]; rw [if_neg ab]⟩
theorem HR.cQ (hr:HR P G r T h w) {o:AO} {C:Hp} (hn:cQ h o=some C) (hT:C.nx≤T) (room:Nat) {w':ah} {ob:Obj} (I:w'.heap=w.heap.push ob) (aa:w'.os=w.os) (ac:w'.output=w.output) (Z:∀ r',r.le r'→r' h.nx=some ⟨w.heap.size,0,room⟩→OR P r' ⟨w.heap.size,0,room⟩ o (some ob)):
 ∃ r',r' h.nx=some ⟨w.heap.size,0,room⟩∧St P G T r h w r' C w':=by
 unfold Hb.cQ at hn;replace hn:=aU hn; obtain ⟨J,hn⟩:=hn;cases hn;simp only at hT;have hle:=Rn.qf (i:=h.nx) ⟨w.heap.size,0,room⟩<|hr.new h.nx (aT _) ab;have L:∀ k,k < w.heap.size→w'.heap[k]? =w.heap[k]? :=fun k A=>by rw [I,tV,if_neg ab]
 refine ⟨r.ext h.nx ⟨w.heap.size,0,room⟩,Rn.gE _ _ _,hle,hr.put hle J (Rn.gE _ _ _) ?_ (fun k _ V=>L k V) (fun j ag q' ae O ad=> ?_) (lI _) (fun k A U=> ?_),lI _,⟨aa,ac,by rw [I]; simp,fun k A _=>L k A⟩,fun g _ k A M=> ?_,fun k A=>Rn.jL _ _<|by simp only at A; omega⟩
 · rw [I]; simp only [tV,if_true]; exact Z _ hle<|Rn.gE _ _ _
 · have :=hr.lt O ad; simp only; omega
 · rw [Rn.jL _ _ ab]; exact hr.new k ab U
 · rcases Fr.set J (Rn.gE _ _ _) hle hr M with E | E
   · simp only at E; omega
   · exact E
theorem wT {r':Rn} {l:List AV} {us:List ag} {e b:Nat} (A:ax r' l=some us) (C:dS l=true):OR P r' ⟨b,0,0⟩ (.cells l e 0 .x) (some<|.cells us.toArray e (0,0)):=
 ⟨us.toArray,(0,0),us,rfl,A,by simp [cZ A],fun j u E=>by simpa using E,aT _,oM A C,⟨fun _=>⟨rfl,by simp [cZ A],rfl⟩,fun _=>rfl⟩,fun s _=>by simp⟩
variable {N:Fm} {σ:Nat→ag} {dst:Option Nat} {ty:ak} {pos :String} {af:Array bM} {g:Option (Nat×Bool)} {x y z:aO}
theorem YM.new (hr:HR P G r T h w) {o:ar} {l:List AV} {us:List ag} {e:Nat} {A:Hp} {v:AV} {f:Nat→ag} (hn:Hb.cQ h (.cells l e 0 .x)=some A) (hT:A.nx≤T) (E:ax r l=some us) (C:dS l=true)
 (L:(execOp (ev N σ) o).run P w= .ok (.value<|f w.heap.size) {w with heap:=w.heap.push<|.cells us.toArray e (0,0)}) (M:∀ r':Rn,r' h.nx=some ⟨w.heap.size,0,0⟩→den r' v=some (f w.heap.size)):YM P G r T N σ o h w v A:=by
 obtain ⟨r',I,J⟩:=hr.cQ hn hT 0 (w':= {w with heap:=w.heap.push<|.cells us.toArray e (0,0)}) rfl rfl rfl fun r' hle _=>wT (ic hle E) C;exact ⟨r',_,_,M r' I,.inl L,J⟩
theorem HR.lj (hr:HR P G r T h w) {i:Nat} {o L:AO} {q:Loc} {w':ah} (hi:h.t.get i=some L) (hb:av i bZ=true) (E:r i=some q) (M:G≤i) (Z:OR P r q o w'.heap[q.aq]?) (hm:Md (fun k=>k=q.aq) w w'):
 St P G T r h w r ⟨h.t.set i o,h.nx⟩ w':=by
 have J:∀ g,g≤G→Fr g r h q.aq:=fun g C=>⟨i,L,q,bS C M,hi,E,rfl⟩
 refine ⟨Rn.le_refl r,hr.put (Rn.le_refl r) hb E Z (fun k I V=>hm.cP k V I) (fun j aa ab U C A he=>U<|hr.inj j i _ _ _ _ C hi A E he) (aT _) hr.new,aT _,hm.mono fun k _ I=>by rw [I]; exact J G (aT _),fun g C k _ O=> ?_,fun _ _=>rfl⟩;rcases Fr.set hb E (Rn.le_refl r) hr O with A | A
 · rw [A]; exact J g C
 · exact A
end
end Go.Hb
namespace Go.Hb
def mZ (x v:AV):List (AV×AV)→List (AV×AV)
 | []=> [(x,v)]
 | p::l=>cond (fK p.1 x) ((p.1,v)::l) (p::mZ x v l)
def AP:KK→Bool
 | .bs=>false
 | _=>true
def oS (P:an) (t:ak) (b:Nat) (k v:AV) (h:Hp):Option Hp:=match h.t.get b with
 | some (.map l)=>match P.underlying t with
   | some (.map kt e)=>match m7 P kt k with
     | some A=>cond (av b bZ && (aZ h.nx b==false) && (dz A k && eS A l) && (AP A || (l6 k l).isNone)) (some ⟨h.t.set b (.map<|mZ k v l),h.nx⟩) none
     | none=>none
   | _=>none
 | _=>none
section
variable {P:an} {G:Nat} {r:Rn} {T:Nat} {h:Hp} {w:ah}
theorem Bc {x v:AV} {kx u:ag} {C:KK} (J:dz C x=true) (A:den r x=some kx) (I:den r v=some u) {m:MapEntry} (vL:m.key=kx) (E:m.val=u):∀ {l:List (AV×AV)} {es:List MapEntry},fM r l es→eS C l=true→(∀ e∈es,e.key≠kx)→fM r (mZ x v l) (es++ [m])
 | [],[],_,_,_=>⟨by rw [vL]; exact A,by rw [E]; exact I,trivial⟩
 | [],_::_,hm,_,_=>hm.elim
 | _::_,[],hm,_,_=>hm.elim
 | q::l,e::es,hm,hk,hn=>by
   simp only [eS] at hk;cases h1:dz C q.1
   · rw [h1] at hk; cases hk
   · rw [h1] at hk;have he:fK q.1 x=false :=by
      cases hq:fK q.1 x
      · rfl
      · exact absurd ((kY h1 J hm.1 A).1 hq)<|hn e iB
     simp only [mZ,he,cond_false];exact ⟨hm.1,hm.2.1,Bc J A I vL E hm.2.2 hk fun e he=>hn e<|iY _ he⟩
theorem Be {x v:AV} {kx u:ag} {C:KK} (I:dz C x=true) (E:den r x=some kx) (L:den r v=some u) {f:MapEntry→MapEntry} (J:∀ e,e.key=kx→(f e).key=kx∧(f e).val=u):∀ {l:List (AV×AV)} {es:List MapEntry} {j:Nat} {A:MapEntry},fM r l es→eS C l=true→
 es[j]? =some A→A.key=kx→(es.map fun e=>e.key).Nodup→fM r (mZ x v l) (es.modify j f)
 | [],[],j,A,_,_,hj,_,_=>by simp at hj
 | [],_::_,_,_,hm,_,_,_,_=>hm.elim
 | _::_,[],_,_,hm,_,_,_,_=>hm.elim
 | q::l,e::es,0,A,hm,hk,hj,hk',_=>by
   simp only [eS] at hk;cases h1:dz C q.1
   · rw [h1] at hk; cases hk
   · simp only [fS,bp] at hj;subst hj;simp only [mZ,(kY h1 I hm.1 E).2 hk',cond_true];obtain ⟨M,O⟩:=J e hk';exact ⟨by show den r q.1=some (f e).key; rw [hm.1,M,hk'],by show den r v=some (f e).val; rw [O]; exact L,hm.2.2⟩
 | q::l,e::es,j+1,A,hm,hk,hj,hk',hn=>by
   simp only [eS] at hk;cases h1:dz C q.1
   · rw [h1] at hk; cases hk
   · rw [h1] at hk;simp only [gR] at hj;simp only [dq,pD] at hn;have he:fK q.1 x=false :=by
      cases hq:fK q.1 x
      · rfl
      · have :=(kY h1 I hm.1 E).1 hq;exact absurd (gu.2 ⟨A,jy hj,hk'.trans this.symm⟩) hn.1
     simp only [mZ,he,cond_false];exact ⟨hm.1,hm.2.1,Be I E L J hm.2.2 hk hj hk' hn.2⟩
theorem Jc {k:ak} {a:AV} {A:KK} (h:m7 P k a=some A) (E:AP A=true):∀ w v,oB A v→(qW v v).run P w= .ok v w:=by
 unfold m7 at h;split at h
 · replace h:=aU h; obtain ⟨C,h⟩:=h;cases h;exact (vS<|lZ C).stays
 · split at h
   · cases h; exact (AJ<|by assumption).stays
   · cases h
 · replace h:=aU h; obtain ⟨C,h⟩:=h;cases h;cases E
 · cases h
theorem BO (hr:HR P G r T h w) {t:ak} {b:Nat} {k v:AV} {Z:Hp} {q:Loc} {kx u:ag} (aa:G≤b) (hp:oS P t b k v h=some Z) (V:r b=some q) (E:den r k=some kx) (an:den r v=some u):
 ∃ w',(pv t (.map<|some q.aq) kx u).run P w= .ok () w'∧St P G T r h w r Z w':=by
 unfold oS at hp;split at hp
 · rename_i l hb;split at hp
   · rename_i kt e am;split at hp
     · rename_i aw ah;replace hp:=aU hp; obtain ⟨ad,hp⟩:=hp;simp only [bf] at ad;obtain ⟨⟨⟨ac,_⟩,hka,hkl⟩,hstay⟩:=ad;cases hp;obtain ⟨q',es,c,al,hw,hm,hn⟩:=hr.map hb;rw [V] at al; cases al;have J:=vT ah;have hi:=su hka E;have ap:∀ e∈es.toList,oB aw e.key:=r8 rfl (sK hm hkl);have ai:=(bJ.1 hw).1;rcases J.find w kx es.toList hi ap with ⟨M,aj⟩ | ⟨j,L,M,C,A⟩
       · refine ⟨{w with heap:=w.heap.setIfInBounds q.aq<|.map (es.push {key:=kx,val:=u,born:=c})<|c+1},by simp [pv,bh am,run_getObj_map hw,J.check _ w kx hi,M,setObj,jY,hw],?_⟩;refine hr.lj hb ac V aa ?_ ⟨U,U,by simp,fun i _ O=>by simp only; rw [ly (fun e=>O e.symm)]⟩;refine ⟨_,_,by simp only; rw [ml ai],?_,?_⟩
         · simp only [tX];exact Bc hka E an U U hm hkl aj
         · simp only [tX,j1,dq,List.map_nil];rw [List.nodup_append];refine ⟨hn,by simp,?_⟩;intro a ha ax ab ao;simp at ab;subst ao ab;obtain ⟨p,hp,av⟩:=gu.1 ha;exact aj p hp av
       · have au:(qW kx kx).run P w= .ok kx w:=by
          rcases Dq.1 hstay with I | I
          · exact Jc ah I w kx hi
          · exfalso;cases hg:l6 k l with
            | none=>exact vR hka E hm hkl hg L.val<|by rw [← A]; exact gu.2 ⟨L,jy C,rfl⟩
            | some v=>rw [hg] at I; cases I
         have ar:es[j]? =some L:=by simpa using C
         refine ⟨{w with heap:=w.heap.setIfInBounds q.aq<|.map (es.modify j fun e=> {e with key:=kx,val:=u}) c},?_,?_⟩
         · simp [pv,bh am,run_getObj_map hw,J.check _ w kx hi,M,ar,A,au,setObj,jY,hw]
         · refine hr.lj hb ac V aa ?_ ⟨U,U,by simp,fun i _ O=>by simp only; rw [ly (fun e=>O e.symm)]⟩;refine ⟨_,_,by simp only; rw [ml ai],?_,?_⟩
           · rw [qT];exact Be hka E an (fun e _=>⟨U,U⟩) hm hkl C A hn
           · rw [qT];have :(es.toList.modify j fun e=> {e with key:=kx,val:=u}).map (fun e=>e.key)=es.toList.map fun e=>e.key:=by
              apply um;intro i;simp only [eJ,List.getElem?_modify];by_cases ae:j=i
              · subst ae; rw [C]; simp [A]
              · simp [ae]
             rw [this]; exact hn
     · cases hp
   · cases hp
 · cases hp
end
def kp (A:List AV):Nat→List AV
 | 0=> []
 | n+1=>A++kp A n
def qJ (P:an) (G:Nat) (t:ak) (b o:Nat) (v:AV) (h:Hp):Option Hp:=match h.t.get b with
 | some (.cells l e fz ex)=>match cO P t with
   | some n=>cond ((aQ (kN v).length n && aZ (o+n) l.length) && (aZ fz o && (dS (kN v) && (aZ G b && av b bZ)))) (some ⟨h.t.set b (.cells (l.take o++(kN v++l.drop (o+n))) e fz ex),h.nx⟩) none
   | none=>none
 | _=>none
def o5 (P:an) (t:ak):Option (Nat×Nat×Nat×List AV):=match P.underlying t with
 | some (.slice e)=>match P.info? e with
   | some i=>match i.zero with
     | some z=>match kj (jm 4) z.cells.toList with
       | some A=>cond (aQ A.length i.size && (av 0 i.size && dS A)) (some (e,i.size,i.bytes,A)) none
       | none=>none
     | none=>none
   | none=>none
 | _=>none
def oO (P:an) (G:Nat) (o:Op) (xs:List AV) (h:Hp):Option (AV×Hp):=match o with
 | .alloc e=>match zeroOf P e with
   | some (some C)=>match kj (jm 4) C with
     | some l=>cond (dS l) (match cQ h (.cells l e 0 .x) with
       | some A=>some (.ptr h.nx 0,A)
       | none=>none) none
     | none=>none
   | _=>none
 | .box e _=>match xs with
   | [x]=>cond (dS<|kN x) (match cQ h (.cells (kN x) e 0 .x) with
     | some A=>some (.ptr h.nx 0,A)
     | none=>none) none
   | _=>none
 | .makeMap _ none=>match cQ h (.map []) with
   | some A=>some (.map h.nx,A)
   | none=>none
 | .buildSlice t n ⟨ps⟩=>match o5 P t with
   | some (e,s,_,C)=>cond (aZ (n*s) 16777216) (match mP (fun i=>some (i*s,s)) (kp C n) (lx ps xs) with
     | some l=>cond (dS l) (match cQ h (.cells l e 0 .x) with
       | some A=>some (.sl h.nx 0 n n true,A)
       | none=>none) none
     | none=>none) none
   | none=>none
 | .makeSlice t _ _=>match xs with
   | [.int .i64 (.ofNat n),.int .i64 (.ofNat c)]=>match o5 P t with
     | some (e,s,by_,C)=>cond (aZ n c && (aZ (by_*c) 281474976710656 && av c 9223372036854775808)) (match cQ h (.cells (kp C c) e 0 .x) with
       | some A=>some (.sl h.nx 0 n c true,A)
       | none=>none) none
     | none=>none
   | _=>none
 | .store t _ _=>match xs with
   | [.ptr b o,v]=>match qJ P G t b o v h with
     | some A=>some (.bY [],A)
     | none=>none
   | _=>none
 | .mapUpdate t _ _ _=>match xs with
   | [.map b,k,v]=>cond (aZ G b) (match oS P t b k v h with
     | some A=>some (.bY [],A)
     | none=>none) none
   | _=>none
 | .insert t _ _ _=>match xs with
   | [.map b,k,v]=>cond (aZ G b) (match oS P t b k v h with
     | some A=>some (.bY [],A)
     | none=>none) none
   | _=>none
 | _=>none
section
variable {P:an} {G:Nat} {r:Rn} {T:Nat} {h:Hp} {w:ah} {N:Fm} {σ:Nat→ag} {dst:Option Nat} {ty:ak} {pos :String} {af:Array bM} {g:Option (Nat×Bool)} {x y z:aO}
theorem iH (r:Rn):den r (.bY [])=some undef:=by simp [den,ax]; rfl
theorem td {r:Rn} {A:List AV} {Z:List ag} (h:ax r A=some Z):∀ n,ax r (kp A n)=some ((eB n Z).flatten)
 | 0=>by simp [kp,ax]
 | n+1=>by simp only [kp,Es,pC]; exact ff h<|td h n
theorem By:∀ {l m:List AV},dS l=true→dS m=true→dS (l++m)=true
 | [],m,_,h=>h
 | a::l,m,h,h'=>by
   simp only [dS,List.cons_append] at h ⊢;cases ha:sR a
   · rw [ha] at h; cases h
   · rw [ha] at h; exact By h h'
theorem wX {A:List AV} (h:dS A=true):∀ n,dS (kp A n)=true
 | 0=>rfl
 | n+1=>By h<|wX h n
theorem wV (Z:Array ag) (A:0 < Z.size):∀ n,(lz<|n*Z.size).map (Z[· % Z.size]!)=((eB n Z.toList).flatten).toArray:=by
 intro n;apply pn.1;simp only [gN,Array.toList_range]
 induction n with
 | zero=>simp
 | succ n ih=>
   rw [Nat.succ_mul,EA,List.range_add,j1,Es,pC,ur];congr 1
   · apply um;intro i;simp only [eJ];by_cases hi:i < Z.size
     · rw [List.getElem?_range hi,dJ,Nat.mod_eq_of_lt hi];rw [getElem!_pos Z i hi];simp [hi]
     · rw [nU (by simp; omega),nU (by simp; omega)]; rfl
   · rw [← ih];apply List.map_congr_left;intro i _;simp
theorem tu {r:Rn} {t e s E:Nat} {C:List AV} (h:o5 P t=some (e,s,E,C)):∃ i z,P.underlying t=some (.slice e)∧P.info? e=some i∧i.zero=some z∧i.size=s∧i.bytes=E∧z.cells.size=s∧0 < s∧ax r C=some z.cells.toList∧dS C=true∧C.length=s:=by
 unfold o5 at h;split at h
 · rename_i O hu;split at h
   · rename_i i hi;split at h
     · rename_i z L;split at h
       · rename_i V M;replace h:=aU h; obtain ⟨A,h⟩:=h;simp only [bf] at A;cases h;have I:=oL (r:=r) (fun v a=>mc 4) M;have J:=bQ A.1;have :=cZ I;exact ⟨i,z,hu,hi,L,U,U,by rw [← nG]; omega,cj.1 A.2.1,I,A.2.2,J⟩
       · cases h
     · cases h
   · cases h
 · cases h
theorem L7 (hr:HR P G r T h w) {t b o:Nat} {v:AV} {aa:Hp} {u:ag} (A:qJ P G t b o v h=some aa) (ay:den r v=some u) (az:den r (.ptr b o)=some (ev N σ x)) (aA:ev N σ y=u):YM P G r T N σ ⟨dst,.store t x y,ty,pos,af,g⟩ h w (.bY []) aa:=by
 unfold qJ at A;split at A
 · rename_i l e fz ex hb;split at A
   · rename_i n hn;replace A:=aU A; obtain ⟨ai,A⟩:=A;simp only [bf] at ai;obtain ⟨⟨I,c2⟩,c3,c4,J,c6⟩:=ai;have I:=bQ I;have c2:=bH c2;have c3:=bH c3;have J:=bH J;cases A;obtain ⟨q,ak,c,fr,us,ac,M,aC,ad,ap,ae,ah,ar⟩:=hr.live b _ hb;obtain ⟨q',al,hu⟩:=iI az;rw [ak] at al; cases al;have V:=uX ay;have aw:=cZ V;have aE:=cZ M;have aj:=oM V c4;have hlen:u.cells.toList.length=n:=by rw [aw,I]
     have bD:=run_storeCells_atF P q.aq (q.sh+o) e fr u.cells.toList 0 c w ac ab ab aj;unfold cO at hn;simp only [fU] at hn;obtain ⟨i,hi,A⟩:=hn;have ax:u.cells.size=n:=by rw [← nG,hlen]
     obtain ⟨L,O⟩:∃ L,c.toList.take (q.sh+o+0)++u.cells.toList++c.toList.drop (q.sh+o+0 +u.cells.toList.length)=L:=⟨_,rfl⟩
     rw [O] at bD;have aD:L.length=c.size:=by rw [← O]; simp; omega
     have au:∀ k,L[k]? =if k < q.sh+o then c[k]? else if k < q.sh+o+n then u.cells.toList[k - (q.sh+o)]? else c[k]? :=by
      intro k;rw [← O,j2];by_cases E:k < q.sh+o
      · rw [if_pos E,gQ,eW (by simp; omega),gr,if_pos E]; simp
      · rw [if_neg E];by_cases Z:k < q.sh+o+n
        · rw [if_pos Z,eW (by simp; omega),eI (by simp; omega)];congr 1; simp; omega
        · rw [if_neg Z,eI (by simp; omega),iX];simp only [bB,bW,nG,ph];congr 1; omega
     refine ⟨r,undef,w.setRow q.aq L.toArray,iH r,.inr ⟨?_,U⟩,?_⟩
     · simp [execOp,Instr.storeAt,hu,aA,Instr.sureAddr,storeVar,sizeOf,di hi,A,ax,bD]
     · refine hr.lj hb c6 ak J ?_ ⟨U,U,by simp,fun k _ av=>setRow_other w q.aq k _ av⟩;rw [setRow_heap w q.aq _ _ e _ ac];refine ⟨L.toArray,fr,us.take o++(u.cells.toList++us.drop (o+n)),U,ff (jd o M) (ff V<|jI (o+n) M),?_,fun j a C=> ?_,ap,?_,⟨fun hex=> ?_,ah.2⟩,fun s A=> ?_⟩
       · simp only [bB,bW,gS,ej]; omega
       · rw [lD,au];by_cases E:j < o
         · rw [eW (by simp; omega),gr,if_pos E] at C;rw [if_pos ab]; exact ad _ _ C
         · rw [eI (by simp; omega)] at C;rw [if_neg ab];have am:(us.take o).length=o:=by simp; omega
           rw [am] at C;by_cases Z:j < o+n
           · rw [eW ab] at C;rw [if_pos ab,show q.sh+j - (q.sh+o)=j - o from by omega]; exact C
           · rw [eI ab,iX,hlen] at C;rw [if_neg ab];refine ad j a ?_;rw [← C]; congr 1; omega
       · intro a ha;rcases fl.1 ha with ha | ha
         · exact ae a<|uv ha
         · rcases fl.1 ha with ha | ha
           · exact aj a ha
           · exact ae a<|uu ha
       · obtain ⟨an,aB,ao⟩:=ah.1 hex;refine ⟨an,?_,ao⟩;simp only [bB,bW,gS,ej]; omega
       · have :=ar s A;simp only [ej]; omega
   · cases A
 · cases A
end
end Go.Hb
namespace Go.Hb
section
variable {P:an} {G:Nat} {r:Rn} {T:Nat} {h:Hp} {w:ah} {N:Fm} {σ:Nat→ag} {dst:Option Nat} {ty:ak} {pos :String} {af:Array bM} {g:Option (Nat×Bool)} {x y z:aO}
theorem zG {r':Rn} {i b room n c:Nat} (hi:r' i=some ⟨b,0,room⟩) (hn:n≤c):den r' (.sl i 0 n c true)=some (.slice (some ⟨b,0,none⟩) n c):=by
 rw [lS hi hn]
theorem HV {t e s n:Nat} {A L:List AV} {Z:ag} {ps:List (Nat×aO)} {xs:List AV} (ac:0 < s) (aa:Z.cells.size=s) (V:ax r A=some Z.cells.toList) (O:mP (fun i=>some (i*s,s)) (kp A n) (lx ps xs)=some L) (M:ax r xs=some ((ps.map (·.2)).map<|ev N σ)):
 ∃ C,ax r L=some C∧jv (fun i=>some (i*s,s)) ((lz<|n*s).map (Z.cells[· % Z.cells.size]!)) (ps.map fun p=>(p.1,ev N σ p.2))=some C.toArray:=by
 obtain ⟨E,I⟩:=yf (f:=ev N σ) M;obtain ⟨C,J,U⟩:=vy O (td V n) E I;refine ⟨C,J,?_⟩;rw [← U];congr 1;have :=wV Z.cells ab n;rw [aa] at this ⊢;exact this
theorem Kd (hr:HR P G r T h w) {o:Op} {xs:List AV} {v:AV} {aa:Hp} (A:oO P G o xs h=some (v,aa)) (hT:aa.nx≤T) (V:ax r xs=some ((fN o).map<|ev N σ)):YM P G r T N σ ⟨dst,o,ty,pos,af,g⟩ h w v aa:=by
 unfold oO at A;split at A
 · rename_i e;split at A
   · rename_i ap O;split at A
     · rename_i l az;replace A:=aU A; obtain ⟨E,A⟩:=A;split at A
       · rename_i L hn;cases A;have aw:=oL (r:=r) (fun v a=>mc 4) az;unfold zeroOf at O;simp only [fU] at O;obtain ⟨i,hi,zv,aG,rfl⟩:=O;refine YM.new hr (f:=fun b=> .pointer<|some ⟨b,0,none⟩) hn hT aw E ?_ fun r' I=>by simp only [den,I]
         simp [execOp,uc,zeroValue,di hi,aG,newVar,newRow]
       · cases A
     · cases A
   · cases A
 · rename_i e _;split at A
   · rename_i x;replace A:=aU A; obtain ⟨E,A⟩:=A;split at A
     · rename_i L hn;cases A;have J:=eD V;refine YM.new hr (f:=fun b=> .pointer<|some ⟨b,0,none⟩) hn hT (uX J) E ?_ fun r' I=>by simp only [den,I]
       simp [execOp,Instr.box,newVar,newRow]
     · cases A
   · cases A
 · split at A
   · rename_i L hn;cases A;obtain ⟨r',aB,I⟩:=hr.cQ hn hT 0 (w':= {w with heap:=w.heap.push<|.map #[] 0}) rfl rfl rfl fun r' hle _=>⟨#[],0,rfl,trivial,by simp⟩
     refine ⟨r',.map (some w.heap.size),_,by simp only [den,aB],.inl ?_,I⟩;simp [execOp,Instr.makeMap]
   · cases A
 · rename_i t n ps;split at A
   · rename_i e s aq ap O;replace A:=aU A; obtain ⟨E,A⟩:=A;have E:=bH E;split at A
     · rename_i l ay;replace A:=aU A; obtain ⟨J,A⟩:=A;split at A
       · rename_i L hn;cases A;obtain ⟨i,zv,hu,hi,ai,rfl,rfl,Z,am,aj,ao,aF⟩:=tu (r:=r) O;obtain ⟨C,av,ad⟩:=HV (N:=N) (σ:=σ) (t:=t) (e:=e) am Z aj ay V;refine YM.new hr (f:=fun b=> .slice (some ⟨b,0,none⟩) n n) hn hT av J ?_ fun r' I=>zG I<|aT _;have aH:(ps.toArray.map fun p=>(p.1,ev N σ p.2)).toList=ps.map fun p=>(p.1,ev N σ p.2):=by simp
         by_cases al:n*i.size=0
         · have aA:n=0:=by rcases Nat.mul_eq_zero.1 al with h | h; exact h; omega
           subst aA;have ak:∀ f:Nat→ag,Array.map f (lz 0)= #[]:=fun f=>Array.eq_empty_of_size_eq_zero<|by simp
           rw [pH,ak] at ad;simp [execOp,ud,bh hu,sizeOf,di hi,ak,ad,newRow]
         · simp only [execOp,ud,gq,bh hu,fR,sizeOf,di hi,jw,Sem.run_ite,zeroValue,ai,gN,ad];rw [if_neg (by rw [show (2:Nat) ^ 24=16777216 from rfl]; omega),if_neg al];simp [newRow]
       · cases A
     · cases A
   · cases A
 · rename_i t _ _;split at A
   · rename_i n c;split at A
     · rename_i e s aq ap O;replace A:=aU A; obtain ⟨E,A⟩:=A;simp only [bf] at E;have ar:=bH E.1;have c2:=bH E.2.1;have c3:=cj.1 E.2.2;split at A
       · rename_i L hn;cases A;obtain ⟨i,zv,hu,hi,ai,rfl,rfl,Z,am,aj,ao,aF⟩:=tu (r:=r) O;have an:=run_make (P:=P) w t e i zv hu hi ai .i64 .i64 n c ab ab (by rw [← Int.natCast_mul]; omega) ab;have au:madeCells zv.cells (c*i.size)=((eB c zv.cells.toList).flatten).toArray:=by
          have :=wV zv.cells ab c;rw [Z] at this;rw [← this]; unfold madeCells; rw [Z]
         rw [DX,DX,au] at an;refine YM.new hr (f:=fun b=> .slice (some ⟨b,0,none⟩) n c) hn hT (td aj c) (wX ao c) ?_ fun r' I=>zG I ar;obtain ⟨J,M⟩:=ib V;have aD:=cG J;have aE:=cG M;simp [execOp,aD,aE,an]
       · cases A
     · cases A
   · cases A
 · split at A
   · split at A
     · rename_i L aC;cases A;obtain ⟨J,M⟩:=ib V;exact L7 hr aC M J U
     · cases A
   · cases A
 · split at A
   · replace A:=aU A; obtain ⟨E,A⟩:=A;split at A
     · rename_i L hp;cases A;obtain ⟨J,M,ac⟩:=lR V;obtain ⟨q,ae,hu⟩:=mK J;obtain ⟨w',ah,I⟩:=BO hr (bH E) hp ae M ac;exact ⟨r,undef,w',iH r,.inr ⟨by simp [execOp,hu,ah],U⟩,I⟩
     · cases A
   · cases A
 · split at A
   · replace A:=aU A; obtain ⟨E,A⟩:=A;split at A
     · rename_i L hp;cases A;obtain ⟨J,M,ac⟩:=lR V;obtain ⟨q,ae,hu⟩:=mK J;obtain ⟨w',ah,I⟩:=BO hr (bH E) hp ae M ac;exact ⟨r,undef,w',iH r,.inr ⟨by simp [execOp,hu,ah],U⟩,I⟩
     · cases A
   · cases A
 · cases A
end
end Go.Hb
namespace Go.Hb
def tG:List UInt8→List AV
 | []=> []
 | c::l=> .int .u8 (kJ c.toNat)::tG l
def pQ (o:Nat):Ck→Ck
 | .a=> .a
 | _=>match o with
   | 0=> .z
   | _=> .a
theorem zr {o:Nat} {e:Ck} :pQ o e≠.x:=by
 cases e <;> simp only [pQ] <;> first | (intro h; cases h; done) | (split <;> intro h <;> cases h)
theorem F4 {o:Nat} {e:Ck} (h:pQ o e≠.a):e≠.a∧o=0:=by
 cases e with
 | a=>exact absurd rfl h
 | _=>
   refine ⟨fun h=>(by cases h),?_⟩;simp only [pQ] at h;split at h
   · rfl
   · exact absurd U h
def xB (P:an) (s:Nat) (A:ak) (x:AV) (h:Hp):Option (Nat×List AV):=match x with
 | .sl b o n _ _=>match h.t.get b with
   | some (.cells l _ _ _)=>cond (jN P A && aZ (o+n*s) l.length) (some (n,(l.drop o).take (n*s))) none
   | _=>none
 | .eu=>cond (jN P A) (some (0,[])) none
 | .str l=>cond (isStr P A && aQ s 1) (some (l.length,tG l)) none
 | _=>none
def uL (P:an) (G:Nat) (t I:ak) (E J:AV) (h:Hp):Option (AV×Hp):=match o5 P t with
 | some (e,s,by_,_)=>match xB P s I J h with
   | some (m,news)=>cond (dS news) (match E with
     | .eu=>match m with
       | 0=>some (.eu,h)
       | _=>cond (aZ (m*by_) 140737488355328 && aZ m 1000000000) (match cQ h (.cells news e 0 .z) with
         | some A=>some (.sl h.nx 0 m 0 false,A)
         | none=>none) none
     | .sl b o n c x=>match m with
       | 0=>some (.sl b o n c x,h)
       | _=>match h.t.get b with
         | some (.cells l C fz ex)=>cond ((aQ e C && (aZ ((n+m)*by_) 140737488355328 && aZ (n+m) 1000000000)) && (aZ (o+n*s) l.length && (aZ G b && av b bZ)))
           (cond x (cond (aZ (n+m) c)
            (cond (aZ (o+(n+m)*s) l.length && aZ fz (o+n*s)) (some (.sl b o (n+m) c true,⟨h.t.set b (.cells (l.take (o+n*s)++(news++l.drop (o+(n+m)*s))) e fz ex),h.nx⟩)) none)
            (match cQ h (.cells ((l.drop o).take (n*s)++news) e 0 .z) with
             | some A=>some (.sl h.nx 0 (n+m) 0 false,A)
             | none=>none))
            (cond (aQ o (c*s) && aZ fz (o+n*s)) (match cQ ⟨h.t.del b,h.nx⟩ (.cells ((l.drop o).take (n*s)++news) e (fz - o)<|pQ o ex) with
             | some A=>some (.sl h.nx 0 (n+m) 0 false,A)
             | none=>none) none)) none
         | _=>none
     | _=>none) none
   | none=>none
 | none=>none
section
variable {P:an} {G:Nat} {r:Rn} {T:Nat} {h:Hp} {w:ah} {N:Fm} {σ:Nat→ag} {dst:Option Nat} {ty:ak} {pos :String} {af:Array bM} {g:Option (Nat×Bool)} {x y z:aO}
theorem CU:∀ l:List UInt8,ax r (tG l)=some (U8 l)
 | []=>by simp [tG,ax,U8]
 | c::l=>dK rfl (CU l)
theorem LV (hr:HR P G r T h w) {s m:Nat} {M:ak} {x:AV} {news:List AV} {u:ag} (he:xB P s M x h=some (m,news)) (U:dS news=true) (hu:den r x=some u):∃ N,ax r news=some N∧Src P s M u m N w:=by
 unfold xB at he;split at he
 · rename_i b o n aa ab;split at he
   · rename_i l _ _ _ hb;replace he:=aU he; obtain ⟨A,he⟩:=he;simp only [bf] at A;cases he;obtain ⟨q,us,Z,J,V,_⟩:=hr.cells hb;obtain ⟨q',cap,L,hn,rfl,_⟩:=iJ hu;rw [Z] at L; cases L;obtain ⟨O,E⟩:=qa A.1;have hle:=bH A.2;have hlen:=cZ J;have I:=jd (m*s)<|jI o J;refine ⟨_,I,Src.ofSlice w E _ _ _ _ (by simp; omega) (fun j u C=> ?_)<|oM I U⟩;rw [dO,hZ,fT];rw [gr] at C;split at C
     · rw [iX] at C; exact V _ _ C
     · cases C
   · cases he
 · replace he:=aU he; obtain ⟨A,he⟩:=he;cases he;obtain rfl :=ig hu;obtain ⟨O,E⟩:=qa A;exact ⟨[],by simp [ax],Src.ofNil w E 0⟩
 · replace he:=aU he; obtain ⟨A,he⟩:=he;simp only [bf] at A;cases he;obtain rfl :=gD hu;obtain rfl :=bQ A.2;exact ⟨_,CU _,Src.ofString w (lZ A.1) ⟨⟨_⟩⟩⟩
 · cases he
theorem yX {t J ty e:ak} {i:TypeInfo} (I:P.underlying t=some (.slice e)) (hi:P.info? e=some i) {x:ag} {news:List ag} (A:Src P i.size J x 0 news w) {base:Option Addr} {n c:Nat} (hn:n≤c):
 (jX #[t,J] ty #[.slice base n c,x]).run P w= .ok (.slice base n c) w:=by
 have M:news= []:=jx<|by rw [A.newsLen]; simp
 subst M;have E:=A.cells;cases base with
 | none=>rcases A.kind with ⟨L,C⟩ | C <;> simp [jX,run_underlying I,run_underlying C,sizeOf,typeInfo,hi,A.len,hn,E]
 | some a=>rcases A.kind with ⟨L,C⟩ | C <;> simp [jX,run_underlying I,run_underlying C,sizeOf,typeInfo,hi,A.len,hn,E,storeCells]
theorem yY {t E ty e:ak} {i:TypeInfo} (I:P.underlying t=some (.slice e)) (hi:P.info? e=some i) {x:ag} {m:Nat} {news:List ag} (A:Src P i.size E x m news w) {b off n c:Nat} {cur:Array ag} {fz:Nat×Nat} (hn:n+m≤c)
 (hb:w.heap[b]? =some (.cells cur e fz)) (L:fz.2≤off+n*i.size) (M:off+n*i.size+news.length≤cur.size):
 (jX #[t,E] ty #[.slice (some ⟨b,off,none⟩) n c,x]).run P w= .ok (.slice (some ⟨b,off,none⟩) (n+m) c) (w.setRow b (cur.toList.take (off+n*i.size)++news++cur.toList.drop (off+n*i.size+news.length)).toArray):=by
 have bD:=run_storeCells_atF P b (off+n*i.size) e fz news 0 cur w hb ab ab A.one;simp only [j2] at bD;rcases A.kind with ⟨J,C⟩ | C <;> simp [jX,run_underlying I,run_underlying C,sizeOf,typeInfo,hi,A.len,hn,A.cells,Addr.add_lit,bD]
theorem xl (L X:List ag) (a:Nat) (h:a+X.length≤L.length) (k:Nat):(L.take a++X++L.drop (a+X.length))[k]? =if k < a then L[k]? else if k < a+X.length then X[k - a]? else L[k]? :=by
 by_cases A:k < a
 · rw [if_pos A,gQ,eW (by simp; omega),gr,if_pos A]
 · rw [if_neg A];by_cases C:k < a+X.length
   · rw [if_pos C,eW (by simp; omega),eI (by simp; omega)];congr 1; simp; omega
   · rw [if_neg C,eI (by simp; omega),iX];simp only [bB,bW];congr 1; omega
theorem yW {t A ty e:ak} {i:TypeInfo} {z:ag} (L:P.underlying t=some (.slice e)) (hi:P.info? e=some i) (M:i.zero=some z) (O:z.cells.size=i.size) (Z:0 < i.size) {x:ag} {m:Nat} {olds news:List ag} (I:Src P i.size A x m news w) {base:Option Addr} {n c:Nat}
 (J:olds.length=n*i.size) (hold:(ub i.size n<|.slice base n c).run P w.drew= .ok olds.toArray w.drew) (V:∀ u∈olds,u.oneCell'=true) (C:c < n+m) (U:n+m≤1000000000) (hb:(n+m)*i.bytes≤140737488355328):
 ∃ (cap:Nat) (cs:Array ag),n+m≤cap∧cap*i.size=cs.size∧(∀ (j:Nat) (u:ag),(olds++news)[j]? =some u→cs[j]? =some u)∧(jX #[t,A] ty #[.slice base n c,x]).run P w= .ok (.slice (some ⟨w.heap.size,0,none⟩) (n+m) cap) {w.drew with heap:=w.heap.push<|.cells cs e (0,0)} :=by
 have hr:=run_append_grow_src (P:=P) w t A ty e i z L hi M base n c olds hold x m news I C ab<|growslice_fits C hb;refine ⟨_,_,grownCap_ge w (n+m) c e,?_,?_,hr⟩
 · have :=grownCap_ge w (n+m) c e;simp only [Array.size_append,ej,size_zeroCells,O,bB,J,I.newsLen,← mw];congr 1; omega
 · intro j u E;rw [Array.getElem?_append_left (by have :=(cB.1 E).1; simpa using this)];simpa using E
theorem HX (hr:HR P G r T h w) {b o n c s:Nat} {x:Bool} {l:List AV} {e fz:Nat} {ex:Ck} {us:List ag} {q:Loc} (hb:h.t.get b=some (.cells l e fz ex)) (L:r b=some q) (C:ax r l=some us) (hle:o+n*s≤l.length) (cap:Nat):
 (ub s n<|.slice (some ⟨q.aq,q.sh+o,none⟩) n cap).run P w.drew= .ok ((us.drop o).take<|n*s).toArray w.drew:=by
 obtain ⟨q',M,I,E,J,_⟩:=hr.cells hb;rw [L] at I; cases I;rw [C] at E; cases E;have hlen:=cZ C;refine run_firstCells_some (P:=P) w.drew s n _ n cap _ (by simp; omega) fun j u A=> ?_;rw [dO,hZ,fT];rw [gr] at A;split at A
 · rw [iX] at A; exact J _ _ A
 · cases A
theorem Fg (hr:HR P G r T h w) {t ao:ak} {a0 a2 v:AV} {az:Hp} (ha:uL P G t ao a0 a2 h=some (v,az)) (hT:az.nx≤T) (aw:den r a0=some (ev N σ x)) (bq:den r a2=some (ev N σ y)):YM P G r T N σ ⟨dst,.call ⟨.builtin .append,#[x,y],#[t,ao]⟩,ty,pos,af,g⟩ h w v az:=by
 have ai:∀ {u:ag} {w':ah},(jX #[t,ao] ty #[ev N σ x,ev N σ y]).run P w= .ok u w'→(execOp (ev N σ) ⟨dst,.call ⟨.builtin .append,#[x,y],#[t,ao]⟩,ty,pos,af,g⟩).run P w= .ok (.value u) w':=by
  intro u w' h;simp [execOp,resolve,invoke,builtin,h]
 unfold uL at ha;split at ha
 · rename_i e s bv bL br;obtain ⟨i,zv,hu,hi,aW,rfl,rfl,aX,aS,bG,bJ,bI⟩:=tu (r:=r) br;split at ha
   · rename_i m news bo;replace ha:=aU ha; obtain ⟨aQ,ha⟩:=ha;obtain ⟨Nw,am,V⟩:=LV hr bo aQ bq;have ba:=cZ am;have aI:=oM am aQ;split at ha
     · have ac:=ig aw;split at ha
       · cases ha;exact ⟨r,_,w,aw,.inl (ai<|by rw [ac]; exact yX hu hi V<|aT _),St.refl hr⟩
       · rename_i aG;replace ha:=aU ha; obtain ⟨C,ha⟩:=ha;simp only [bf] at C;have ax:=bH C.1;have c2:=bH C.2;have hm:0 < m:=EF fun e=>aG<|by rw [e]
         split at ha
         · rename_i Z hn;cases ha;obtain ⟨cap,cs,g1,g2,g3,g4⟩:=yW (w:=w) (ty:=ty) (base:=none) (n:=0) (c:=0) (olds:= []) hu hi aW aX aS V (by simp) (run_firstCells_none (P:=P) w.drew i.size 0 0 0) (by simp) ab ab<|by rw [cr]; exact ax
           rw [cr] at g1 g4;rw [List.nil_append] at g3;obtain ⟨r',au,bD⟩:=hr.cQ hn hT cap (w':= {w.drew with heap:=w.heap.push<|.cells cs e (0,0)}) rfl rfl rfl fun r' hle _=>by
            refine ⟨cs,(0,0),Nw,U,ic hle am,?_,fun j u A=>by rw [cr]; exact g3 j u A,by simp,aI,⟨(fun h=>by cases h),fun _=>rfl⟩,fun s E=> ?_⟩
            · rw [cr,← ba,V.newsLen,← g2]; exact yE _ g1
            · have :s=i.size:=by unfold cO at E; rw [hi] at E; simpa using E.symm
              rw [this,cr,g2]; exact aT _
           refine ⟨r',_,_,?_,.inl (ai<|by rw [ac]; exact g4),bD⟩;rw [od au (by simpa using g1)]; simp
         · cases ha
     · rename_i b o n c a1;obtain ⟨q,cap,ad,bl,ac,bd,bc⟩:=iJ aw;split at ha
       · cases ha;exact ⟨r,_,w,aw,.inl (ai<|by rw [ac]; exact yX hu hi V bl),St.refl hr⟩
       · rename_i aG;have hm:0 < m:=EF fun e=>aG<|by rw [e]
         split at ha
         · rename_i l bw fz ex hb;replace ha:=aU ha; obtain ⟨C,ha⟩:=ha;simp only [bf] at C;obtain ⟨⟨ax,c2,c3⟩,ay,ap,c6⟩:=C;obtain rfl :=bQ ax;have c2:=bH c2;have c3:=bH c3;have ay:=bH ay;have ap:=bH ap;obtain ⟨q',ae,cc,fr,us,O,aa,bz,aA,a7,aB,aC,aL⟩:=hr.live b _ hb;rw [ad] at ae; cases ae;have bE:=cZ aa;have bh:=HX (s:=i.size) (x:=a1) (c:=c) hr hb ad aa ay;have holds:=jd (n*i.size)<|jI o aa;have aH:((us.drop o).take<|n*i.size).length=n*i.size:=by simp; omega
           have aR:∀ u∈(us.drop o).take (n*i.size),u.oneCell'=true :=fun u hu=>aB u<|uu<|uv hu;have ar:=ff holds am;have aN:∀ u∈(us.drop o).take (n*i.size)++Nw,u.oneCell'=true :=fun u hu=>(fl.1 hu).elim (aR u)<|aI u;have aO:∀ s,cO P e=some s→s=i.size:=fun s E=>by unfold cO at E; rw [hi] at E; simpa using E.symm
           have aP:((us.drop o).take (n*i.size)++Nw).length=(n+m)*i.size:=by rw [bB,aH,V.newsLen,mw]
           have grow:∀ {h0 Z:Hp} {aK:Nat} {ck:Ck},ck≠.x→HR P G r T h0 w→St P G T r h w r h0 w→h0.nx=h.nx→cap < n+m→Hb.cQ h0 (.cells ((l.drop o).take (n*i.size)++news) e aK ck)=some Z→Z.nx≤T→
            YM P G r T N σ ⟨dst,.call ⟨.builtin .append,#[x,y],#[t,ao]⟩,ty,pos,af,g⟩ h w (.sl h.nx 0 (n+m) 0 false) Z:=by
            intro h0 Z aK ck bb bn bp bm J hn hT;obtain ⟨a3,cs,g1,g2,g3,g4⟩:=yW (w:=w) (ty:=ty) (base:=some ⟨q.aq,q.sh+o,none⟩) (n:=n) (c:=cap) hu hi aW aX aS V aH (bh cap) aR J c3 c2;obtain ⟨r',au,bD⟩:=bn.cQ hn hT a3 (w':= {w.drew with heap:=w.heap.push<|.cells cs e (0,0)}) rfl rfl rfl fun r' hle _=>by
             refine ⟨cs,(0,0),_,U,ic hle ar,?_,fun j u A=>by rw [cr]; exact g3 j u A,by simp,aN,⟨fun h=>absurd h bb,fun _=>rfl⟩,fun s E=> ?_⟩
             · rw [cr,← cZ ar,aP,← g2]; exact yE _ g1
             · rw [aO s E,cr,g2]; exact aT _
            rw [bm] at au;refine ⟨r',_,_,?_,.inl (ai<|by rw [ac]; exact g4),St.trans bp bD⟩;rw [od au (by simpa using g1)]; simp
           cases a1
           · obtain ⟨rfl,bC⟩:=bc rfl;simp only [cond_false] at ha;replace ha:=aU ha; obtain ⟨C,ha⟩:=ha;simp only [bf] at C;have d1:=bQ C.1;have d2:=bH C.2;split at ha
             · rename_i Z hn;cases ha;have av:=hr.del c6;have aV:St P G T r h w r ⟨h.t.del b,h.nx⟩ w:=⟨Rn.le_refl r,av,aT _,Md.refl _ _,fun g _ k _ aE=>by
                obtain ⟨j,aY,q',a8,A,ae,rfl⟩:=aE;rw [Tr.oz _ _ _ c6] at A;split at A
                · cases A
                · exact ⟨j,aY,q',a8,A,ae,U⟩,fun _ _=>rfl⟩
               by_cases M:n+m≤q.room - c
               ·
                have bA:=aL i.size<|by unfold cO; rw [hi]; rfl
                have bx:q.sh+o+(n+m)*i.size≤cc.size:=by
                 have :(c+(n+m))*i.size≤q.room*i.size:=yE _ ab;rw [mw] at this;omega
                have a4:Nw.length=m*i.size:=V.newsLen;have a5:(n+m)*i.size=n*i.size+m*i.size:=mw _ _ _;have an:=yY (w:=w) (ty:=ty) (off :=q.sh+o) hu hi V M O ab ab;unfold Hb.cQ at hn;replace hn:=aU hn; obtain ⟨aD,hn⟩:=hn;cases hn;simp only at hT aD;have hle:=Rn.qf (i:=h.nx) ⟨q.aq,q.sh+o,q.room - c⟩<|hr.new h.nx (aT _) ab;obtain ⟨L,aj⟩:∃ L,cc.toList.take (q.sh+o+n*i.size)++Nw++cc.toList.drop (q.sh+o+n*i.size+Nw.length)=L:=⟨_,rfl⟩
                have al:=xl cc.toList Nw (q.sh+o+n*i.size)<|by simp; omega
                rw [aj] at an al;have a9:L.length=cc.size:=by rw [← aj]; simp; omega
                have aF:=setRow_heap w q.aq _ L.toArray e _ O;have aM:∀ g,g≤G→Fr g r h q.aq:=fun g J=>⟨b,_,q,bS J ap,hb,ad,rfl⟩
                refine ⟨r.ext h.nx ⟨q.aq,q.sh+o,q.room - c⟩,_,w.setRow q.aq L.toArray,?_,.inl (ai<|by rw [ac]; exact an),⟨hle,av.put hle aD (Rn.gE _ _ _) ?_ (fun k I _=>setRow_other w q.aq k _ I) ?_ (lI _) (fun k I bj=> ?_),lI _,⟨U,U,by simp,fun k _ I=>setRow_other w q.aq k _ fun e=>I<|by rw [e]; exact aM G<|aT _⟩,fun g J k I aE=> ?_,fun k I=>Rn.jL _ _<|by simp only at I; omega⟩⟩
                · rw [od (Rn.gE _ _ _) (by simpa using M)]; simp
                · rw [aF];refine ⟨L.toArray,fr,_,U,ic hle ar,?_,fun j u A=> ?_,by simp only; omega,aN,⟨fun h=>absurd h zr,fun h=>by obtain ⟨O,aa⟩:=F4 h; simp only; rw [aC.2 O,aa]⟩,fun s E=> ?_⟩
                  · rw [← cZ ar,aP]; simp only [ej]; omega
                  · simp only [lD];rw [al];by_cases aJ:j < n*i.size
                    · rw [eW ab,gr,if_pos aJ,iX] at A;rw [if_pos ab,ph,fT]; exact aA _ _ A
                    · rw [eI ab,aH] at A;have :=(cB.1 A).1;rw [if_neg ab,if_pos ab,show q.sh+o+j - (q.sh+o+n*i.size)=j - n*i.size from by omega]; exact A
                  · rw [aO s E];simp only [ej];have :(c+(q.room - c))*i.size=q.room*i.size:=by congr 1; omega
                    rw [mw] at this;omega
                · intro j aY q' A J ae he;rw [Tr.oz _ _ _ c6] at J;split at J
                  · cases J
                  · rename_i bi;exact bi<|hr.inj j b _ _ _ _ J hb ae ad he
                · rw [Rn.jL _ _ (by simp only at I; omega)]; exact hr.new k (by simp only at I; omega) bj
                · rcases Fr.set aD (Rn.gE _ _ _) hle av aE with O | O
                  · rw [O]; exact aM g J
                  · exact aV.dR g J k I O
               · exact grow zr av aV U ab hn hT
             · cases ha
           · obtain rfl :=bd rfl;simp only [cond_true] at ha;cases M:aZ (n+m) cap
             · rw [M] at ha;simp only [cond_false] at ha;split at ha
               · rename_i Z hn;cases ha;exact grow (fun h=>by cases h) hr (St.refl hr) U (by
                  rcases dW cap (n+m) with h | h
                  · exact h
                  · rw [yC h] at M; cases M) hn hT
               · cases ha
             · rw [M] at ha;simp only [cond_true] at ha;replace ha:=aU ha; obtain ⟨C,ha⟩:=ha;simp only [bf] at C;have d1:=bH C.1;have d2:=bH C.2;have M:=bH M;cases ha;have a4:Nw.length=m*i.size:=V.newsLen;have a5:(n+m)*i.size=n*i.size+m*i.size:=mw _ _ _;have an:=yY (w:=w) (ty:=ty) (off :=q.sh+o) hu hi V M O ab ab;obtain ⟨L,aj⟩:∃ L,cc.toList.take (q.sh+o+n*i.size)++Nw++cc.toList.drop (q.sh+o+n*i.size+Nw.length)=L:=⟨_,rfl⟩
               have al:=xl cc.toList Nw (q.sh+o+n*i.size)<|by simp; omega
               rw [aj] at an al;have a9:L.length=cc.size:=by rw [← aj]; simp; omega
               have aF:=setRow_heap w q.aq _ L.toArray e _ O;refine ⟨r,_,w.setRow q.aq L.toArray,lS ad M,.inl (ai<|by rw [ac]; exact an),hr.lj hb c6 ad ap ?_ ⟨U,U,by simp,fun k _ I=>setRow_other w q.aq k _ I⟩⟩;rw [aF];have bg:=ff (jd (o+n*i.size) aa)<|ff am<|jI (o+(n+m)*i.size) aa;refine ⟨L.toArray,fr,_,U,bg,?_,fun j u A=> ?_,a7,?_,⟨fun hex=> ?_,aC.2⟩,fun s E=> ?_⟩
               · simp only [bB,bW,gS,ej]; omega
               · simp only [lD];rw [al];by_cases aJ:j < o+n*i.size
                 · rw [eW (by simp; omega),gr,if_pos aJ] at A;rw [if_pos ab,ph]; exact aA _ _ A
                 · rw [eI (by simp; omega)] at A;have a6:(us.take<|o+n*i.size).length=o+n*i.size:=by simp; omega
                   rw [a6] at A;rw [if_neg ab];by_cases bK:j < o+(n+m)*i.size
                   · rw [eW ab] at A;rw [if_pos ab,show q.sh+j - (q.sh+o+n*i.size)=j - (o+n*i.size) from by omega]; exact A
                   · rw [eI ab,iX] at A;rw [if_neg ab,ph];refine aA j u ?_;rw [← A]; congr 1; omega
               · intro a ha;rcases fl.1 ha with ha | ha
                 · exact aB a<|uv ha
                 · rcases fl.1 ha with ha | ha
                   · exact aI a ha
                   · exact aB a<|uu ha
               · obtain ⟨bt,x2,bu⟩:=aC.1 hex;refine ⟨bt,?_,bu⟩;simp only [bB,bW,gS,ej]; omega
               · have :=aL s E;simp only [ej]; omega
         · cases ha
     · cases ha
   · cases ha
 · cases ha
end
end Go.Hb
namespace Go.Hb
def xF (P:an) (G:Nat) (t:ak) (b o n c i:Nat) (h:Hp):Option (AV×Hp):=match dh P t with
 | some e=>cond (aQ i n && (aZ G b && av b bZ)) (match h.t.get b with
   | some (.cells l A fz ex)=>match cO P A with
     | some C=>cond (aQ e C && (aQ o (c*e) && aZ (o+n*e) l.length)) (match cQ ⟨h.t.del b,h.nx⟩ (.cells [] A fz .a) with
       | some E=>some (.sl h.nx 0 0 0 false,E)
       | none=>none) none
     | none=>none
   | _=>none) none
 | none=>none
def wH (P:an) (t:ak) (n i j:Nat) (h:Hp):Option (AV×Hp):=match dh P t with
 | some _=>cond (aQ i n && (aQ j n && av h.nx bZ)) (some (.sl h.nx 0 0 0 false,⟨h.t,h.nx+1⟩)) none
 | none=>none
def uZ (P:an) (G:Nat) (t:ak) (x:AV) (h:Hp):Option (AV×Hp):=match x with
 | .eu=>cond (jN P t) (some (.bY [],h)) none
 | .sl b o n c q=>match o5 P t with
   | some (e,s,_,zs)=>match n with
     | 0=>some (.bY [],h)
     | _=>match h.t.get b with
       | some (.cells l A fz ex)=>cond ((aZ (o+n*s) l.length && aZ fz o) && (aZ G b && av b bZ)) (some (.bY [],⟨h.t.set b (.cells (l.take o++(kp zs n++l.drop (o+n*s))) A fz ex),h.nx⟩)) none
       | _=>none
   | none=>none
 | _=>none
def kX (x:AV):List (AV×AV)→List (AV×AV)
 | []=> []
 | p::l=>cond (fK p.1 x) l (p::kX x l)
def vi (P:an) (G:Nat) (t:ak) (b:Nat) (k:AV) (h:Hp):Option (AV×Hp):=match h.t.get b with
 | some (.map l)=>match P.underlying t with
   | some (.map kt e)=>match m7 P kt k with
     | some A=>cond ((aZ G b && av b bZ) && (dz A k && eS A l)) (some (.bY [],⟨h.t.set b (.map<|kX k l),h.nx⟩)) none
     | none=>none
   | _=>none
 | _=>none
def xT (P:an) (G:Nat) (A:ak) (x y:AV) (h:Hp):Option (AV×Hp):=match x,y with
 | .ptr _ _,.int .i64 0=>some (.str [],h)
 | .gG,.int .i64 0=>some (.str [],h)
 | .ptr b 0,.int .i64 (.ofNat n)=>match h.t.get b with
   | some (.cells l e fz ex)=>match ex with
     | .a=>none
     | _=>cond ((ptrTo P A e && (aZ n l.length && (av 0 n && av n 1000000000))) && (aZ G b && av b bZ)) (match nw (l.take n) with
       | some m=>some (.str m,⟨h.t.set b (.cells l e (max fz n) .z),h.nx⟩)
       | none=>none) none
   | _=>none
 | _,_=>none
def sU (P:an) (G:Nat) (o:Op) (xs:List AV) (h:Hp):Option (AV×Hp):=match o with
 | .call ⟨.builtin .append,_,⟨[t,tx]⟩⟩=>match xs with
   | [s,x]=>uL P G t tx s x h
   | _=>none
 | .call ⟨.builtin .clear,_,⟨[t]⟩⟩=>match xs with
   | [x]=>uZ P G t x h
   | _=>none
 | .call ⟨.builtin .delete,_,⟨[t,_]⟩⟩=>match xs with
   | [.map b,k]=>vi P G t b k h
   | _=>none
 | .call ⟨.builtin .unsafeSliceData,_,_⟩=>match xs with
   | [.eu]=>some (.gG,h)
   | [.sl b o n c x]=>cond (av 0 n) (some (.ptr b o,h)) none
   | _=>none
 | .call ⟨.builtin .unsafeString,_,⟨[pt,_]⟩⟩=>match xs with
   | [x,y]=>xT P G pt x y h
   | _=>none
 | .slice t _ (some _) none none=>match xs with
   | [.sl b o n c false,.int _ (.ofNat i)]=>xF P G t b o n c i h
   | _=>none
 | .slice t _ (some _) (some _) none=>match xs with
   | [.sl b o n c false,.int _ (.ofNat i),.int _ (.ofNat j)]=>wH P t n i j h
   | _=>none
 | _=>none
inductive AD | mark (D:Nat) | fn (f:Nat) (args:List AV)
inductive EX | bF | ret | ext (id:Nat)
inductive Tk
 | cd (rd:Option Nat) (n:Nat) (c:bz) (fr:Tr AV) (D:List AD) (h:Hp)
 | lp (rd:Option Nat) (n:Nat) (c:bz) (fr:Tr AV) (D:List AD) (h:Hp)
 | cl (f:Nat) (args:List AV) (h:Hp)
 | yl (l:Nat) (args:List AV) (h:Hp)
 | df (f:Nat) (args:List AV) (h:Hp)
inductive Rs | no | cd (e:EX) (fr:Tr AV) (D:List AD) (h:Hp) | rv (v:AV) (h:Hp)
inductive Ro | no | v (x:AV) (h:Hp) | d (a:AD)
abbrev Xt:=Nat→Option (List AV→Hp→Option (AV×Hp))
def fA (n:Nat) (fr:Tr AV) (d:Option Nat) (v:AV):Option (Tr AV):=match d with
 | none=>some fr
 | some d=>cond (av d n && av d bZ) (some<|fr.set d v) none
def rM (X:Xt) (ih:Tk→Rs) (f:AV) (args:List AV) (h:Hp):Ro:=match f with
 | .fn f a c=>match X f with
   | some e=>match e (a++(args++c)) h with
     | some (v,h)=> .v v h
     | none=> .no
   | none=>match ih (.cl f (a++(args++c)) h) with
     | .rv v h=> .v v h
     | _=> .no
 | .gn l=>match ih (.yl l args h) with
   | .rv v h=> .v v h
   | _=> .no
 | _=> .no
def qx (P:an) (G:Nat) (X:Xt) (ih:Tk→Rs) (o:Op) (xs:List AV) (h:Hp):Ro:=match ng P o xs with
 | some v=> .v v h
 | none=>match jq P o xs h with
   | some v=> .v v h
   | none=>match o with
     | .call ⟨.value _,_,_⟩=>match xs with
       | f::args=>rM X ih f args h
       | []=> .no
     | .defer ⟨.value _,_,_⟩=>match xs with
       | .fn f a c::args=> .d<|.fn f<|a++(args++c)
       | _=> .no
     | _=>match oO P G o xs h with
       | some (v,h)=> .v v h
       | none=>match sU P G o xs h with
         | some (v,h')=>cond (aZ h.nx h'.nx) (.v v h') .no
         | none=> .no
inductive Gd | y | n | no
def jM (n:Nat) (ops:List ar) (fr:Tr AV) (g:Option (Nat×Bool)):Gd:=match g with
 | none=> .y
 | some (j,want)=>match ops[j]? with
   | some o=>match o.dst with
     | some t=>cond (av t n) (match c7 fr t with
       | .bool b=>cond (b==want) .y .n
       | .bY []=> .n
       | _=> .no) .no
     | none=> .no
   | none=> .no
def jU (P:an) (G:Nat) (X:Xt) (ih:Tk→Rs) (rd:Option Nat) (n:Nat) (ops:List ar):List ar→Tr AV→List AD→Hp→Rs
 | [],fr,D,h=> .cd .bF fr D h
 | o::l,fr,D,h=>match jM n ops fr o.guard with
   | .y=>match ko G n fr (fN o.op) with
     | some xs=>match qx P G X ih o.op xs h with
       | .v v h=>match fA n fr o.dst v with
         | some fr=>jU P G X ih rd n ops l fr D h
         | none=> .no
       | .d a=>match rd with
         | none=>match fA n fr o.dst (.bY []) with
           | some fr=>jU P G X ih rd n ops l fr (a::D) h
           | none=> .no
         | some _=> .no
       | .no=> .no
     | none=> .no
   | .n=>match fA n fr o.dst (.bY []) with
     | some fr=>jU P G X ih rd n ops l fr D h
     | none=> .no
   | .no=> .no
def iL:Nat→List AV→Tr AV→Tr AV
 | _,[],fr=>fr
 | i,v::l,fr=>iL (i+1) l<|fr.set i v
def nq (n:Nat):List Nat→List AV→Tr AV→Option (Tr AV)
 | [],[],fr=>some fr
 | p::ps,v::vs,fr=>match fA n fr (some p) v with
   | some fr=>nq n ps vs fr
   | none=>none
 | _,_,_=>none
def iR (P:an) (n:Nat) (fr:Tr AV) (h:Hp):List ResultVar→Option (List AV)
 | []=>some []
 | .tmp t::l=>match iR P n fr h l with
   | some vs=>cond (av t n) (some (c7 fr t::vs)) none
   | none=>none
 | .cell a t::l=>match iR P n fr h l with
   | some vs=>cond (av a n) (match sw P t (c7 fr a) h with
     | some v=>some (v::vs)
     | none=>none) none
   | none=>none
def ni:List AV→AV
 | [v]=>v
 | vs=> .bY vs
def jR (G:Nat) (ih:Tk→Rs):List AD→Hp→Option Hp
 | [],h=>some h
 | .mark d::l,h=>match h.t.get d with
   | some (.kR true)=>cond (aZ G d && av d bZ) (jR G ih l ⟨h.t.set d (.kR false),h.nx⟩) none
   | _=>none
 | .fn f args::l,h=>match ih (.df f args h) with
   | .rv _ h=>jR G ih l h
   | _=>none
def z8:EX→Option bz
 | .bF=>none
 | .ret=>some .ret
 | .ext i=>some<|.exit i
def om (G:Nat) (ih:Tk→Rs) (rd:Option Nat) (n:Nat) (fr:Tr AV) (D:List AD) (l:Nat) (h:Hp):Rs:=match h.t.get l with
 | some (.loop st A m C ps aE body d)=>match st with
   | .busy=> .no
   | _=>cond (aZ G l && av l bZ) (match A with
     | none=> .cd .bF fr D ⟨h.t.set l (.loop .exhausted A m C ps aE body d),h.nx⟩
     | some c=>ih (.cd rd n c fr D ⟨h.t.set l (.loop .exhausted A m C ps aE body d),h.nx⟩)) .no
 | _=> .no
def oW (ih:Tk→Rs) (G:Nat) (rd:Option Nat) (n:Nat) (g:aO) (ps:List Nat) (aE body:bz) (fr:Tr AV) (D:List AD) (h:Hp):Rs:=match kn G n fr g with
 | some (.fn f a c)=>match rd with
   | none=>match cQ h (.kR true) with
     | some A=>match cQ A (.loop .ready none n fr ps aE body h.nx) with
       | some C=>match ih (.cl f (a++(.gn A.nx::c)) C) with
         | .rv _ E=>om G ih rd n fr (.mark h.nx::D) A.nx E
         | _=> .no
       | none=> .no
     | none=> .no
   | some I=>match h.t.get I with
     | some (.loop _ _ _ _ _ _ _ d)=>match cQ h (.loop .ready none n fr ps aE body d) with
       | some C=>match ih (.cl f (a++(.gn h.nx::c)) C) with
         | .rv _ E=>om G ih rd n fr D h.nx E
         | _=> .no
       | none=> .no
     | _=> .no
 | _=> .no
def qR (G:Nat) (ih:Tk→Rs) (l:Nat) (args:List AV) (h:Hp):Rs:=match h.t.get l with
 | some (.loop .ready J n fr ps aE body d)=>match nq n ps args fr with
   | some fr=>match ih (.cd (some l) n aE fr [] h) with
     | .cd .bF fr [] h=>match h.t.get l with
       | some (.loop .ready L C A M E I d1)=>cond (aZ G l && av l bZ) (match ih (.cd (some l) n body fr [] ⟨h.t.set l (.loop .busy L C A M E I d1),h.nx⟩) with
         | .cd e fr [] h=>match h.t.get l with
           | some (.loop .busy J C A ps aE body d)=>match e with
             | .bF=> .rv (.bool true) ⟨h.t.set l (.loop .ready none C A ps aE body d),h.nx⟩
             | e=> .rv (.bool false) ⟨h.t.set l (.loop .done (z8 e) C A ps aE body d),h.nx⟩
           | _=> .no
         | _=> .no) .no
       | _=> .no
     | _=> .no
   | none=> .no
 | _=> .no
mutual
def fX:AV→AV→Bool
 | .bool a,.bool b=>a==b
 | .int k a,.int k' b=>cond (aQ (dD k)<|dD k') (decide (a=b)) false
 | .str l,.str m=>ij l m
 | .ptr b o,.ptr b' o'=>aQ b b' && aQ o o'
 | .gG,.gG=>true
 | .sl b o n c x,.sl b' o' n' c' x'=>(aQ b b' && aQ o o') && (aQ n n' && (aQ c c' && (x==x')))
 | .eu,.eu=>true
 | .map b,.map b'=>aQ b b'
 | .ki,.ki=>true
 | .fn f a c,.fn f' a' c'=>aQ f f' && (kT a a' && kT c c')
 | .gn l,.gn l'=>aQ l l'
 | .iP,.iP=>true
 | .im t v,.im t' v'=>aQ t t' && fX v v'
 | .eb,.eb=>true
 | .agg l,.agg m=>kT l m
 | .bY l,.bY m=>kT l m
 | _,_=>false
def kT:List AV→List AV→Bool
 | [],[]=>true
 | a::l,b::m=>cond (fX a b) (kT l m) false
 | _,_=>false
end
def o6:List aO→List Nat
 | []=> []
 | .tmp t::l=>t::o6 l
 | _::l=>o6 l
def vI (ops:List ar) (g:Option (Nat×Bool)):List Nat:=match g with
 | none=> []
 | some (j,_)=>match ops[j]? with
   | some q=>match q.dst with
     | some t=> [t]
     | none=> []
   | none=> []
def oU (ops:List ar) (o:ar):List Nat:=vI ops o.guard++o6 (fN o.op)
def qo (t:Nat):List Nat→Bool
 | []=>false
 | u::l=>cond (aQ t u) true<|qo t l
def sL (d:Option Nat) (l:List Nat):Bool:=match d with
 | some t=>qo t l
 | none=>false
def mb (l:List Nat) (i:Nat):Nat:=lf l i 0
def l9 (acc:List Nat):List bM→Nat
 | []=>0
 | e::l=>cond (dB .any e && av e.on acc.length) (Nat.lor (Nat.lor (Nat.pow 2 e.on)<|mb acc e.on)<|l9 acc l)<|l9 acc l
def ie:List ar→List Nat→List Nat
 | [],acc=>acc
 | o::l,acc=>ie l<|acc++ [l9 acc o.after.toList]
def jD (A:List Nat) (i j:Nat):Bool:=ru (mb A i) j
def pU (i:Nat):List bM→Bool
 | []=>true
 | e::l=>cond (dB .any e && !(av e.on i)) false<|pU i l
def zU (a b:Option Nat):Bool:=match a,b with
 | some a,some b=>aQ a b
 | _,_=>false
def rO (ops:List ar) (E:List Nat) (i:Nat) (A:ar):Nat→List ar→Bool
 | _,[]=>true
 | j,C::l=>cond (av j i) ((!(zU A.dst C.dst) && (jD E i j || (!(sL C.dst<|oU ops A) && !(sL A.dst<|oU ops C)))) && rO ops E i A (j+1) l) true
def n9 (ops:List ar) (A:List Nat):Nat→List ar→Bool
 | _,[]=>true
 | i,C::l=>(pU i C.after.toList && rO ops A i C 0 ops) && n9 ops A (i+1) l
inductive Cs | s | p | l | a | c
structure Rec where
 k:Cs
 xs:List AV
 v:AV
 hb:Hp
 ha:Hp
def rG (P:an) (e:ak):Option (List AV):=match zeroOf P e with
 | some (some A)=>match kj (jm 4) A with
   | some l=>cond (dS l) (some l) none
   | none=>none
 | _=>none
def early (A:List Nat) (i:Nat) (last:Option Nat):Bool:=match last with
 | some c=> !(jD A i c)
 | none=>false
def wW (P:an) (G:Nat) (X:Xt) (ih:Tk→Rs) (fr:Bool) (o:Op) (xs:List AV) (h:Hp):Option Rec:=match ng P o xs with
 | some v=>some ⟨.p,xs,v,h,h⟩
 | none=>match jq P o xs h with
   | some v=>some ⟨.l,xs,v,h,h⟩
   | none=>match fr,o with
     | true,.alloc e=>match rG P e with
       | some l=>match cQ h (.cells l e 0 .x) with
         | some A=>some ⟨.a,xs,.ptr h.nx 0,h,A⟩
         | none=>none
       | none=>none
     | _,_=>match qx P G X ih o xs h with
       | .v v A=>some ⟨.c,xs,v,h,A⟩
       | _=>none
def Jg (i:Nat) (last:Option Nat):Cs→Option Nat
 | .c=>some i
 | _=>last
def ll (P:an) (G:Nat) (X:Xt) (ih:Tk→Rs) (n:Nat) (ops:List ar) (A:List Nat):Nat→Option Nat→List ar→Tr AV→Hp→Option (List Rec×Tr AV×Hp)
 | _,_,[],fr,h=>some ([],fr,h)
 | i,last,o::l,fr,h=>match jM n ops fr o.guard with
   | .y=>match ko G n fr (fN o.op) with
     | some xs=>match wW P G X ih (early A i last) o.op xs h with
       | some r=>match fA n fr o.dst r.v with
         | some fr=>match ll P G X ih n ops A (i+1) (Jg i last r.k) l fr r.ha with
           | some (rs,fr,h)=>some (r::rs,fr,h)
           | none=>none
         | none=>none
       | none=>none
     | none=>none
   | .n=>match fA n fr o.dst (.bY []) with
     | some fr=>match ll P G X ih n ops A (i+1) last l fr h with
       | some (rs,fr,h')=>some (⟨.s,[],.bY [],h,h⟩::rs,fr,h')
       | none=>none
     | none=>none
   | .no=>none
def vn (a:Option AV) (v:AV):Bool:=match a with
 | some a=>fX a v
 | none=>false
def qt (P:an) (A:List Nat) (i:Nat) (o:Op) (xs:List AV) (v:AV):Nat→List Rec→Bool
 | _,[]=>true
 | j,q::l=>cond (match q.k with
   | .c=>cond (av j i) (jD A i j || vn (jq P o xs q.hb) v) (jD A j i || vn (jq P o xs q.ha) v)
   | .a=> !(av j i)
   | _=>true) (qt P A i o xs v (j+1) l) false
def qq (A:List Nat) (i:Nat):Nat→List Rec→Bool
 | _,[]=>true
 | j,q::l=>cond (match q.k with
   | .c=>cond (av j i) (jD A i j) true
   | .a=>cond (av j i) (jD A i j) true
   | _=>true) (qq A i (j+1) l) false
def lh (P:an) (A:List Nat) (rs:List Rec):Nat→List ar→List Rec→Bool
 | _,[],[]=>true
 | i,o::l,q::m=>cond (match q.k with
   | .l=>qt P A i o.op q.xs q.v 0 rs
   | .c=>qq A i 0 rs
   | _=>true) (lh P A rs (i+1) l m) false
 | _,_,_=>false
def rV (P:an) (G:Nat) (X:Xt) (ih:Tk→Rs) (n:Nat) (ops:List ar) (fr:Tr AV) (D:List AD) (h:Hp):Rs:=match ie ops [] with
 | A=>cond (n9 ops A 0 ops) (match ll P G X ih n ops A 0 none ops fr h with
   | some (rs,fr,h)=>cond (lh P A rs 0 ops rs) (.cd .bF fr D h) .no
   | none=> .no) .no
def fi (P:an) (G:Nat) (X:Xt) (ih:Tk→Rs):Tk→Rs
 | .cd rd n c fr D h=>match c with
   | .skip => .cd .bF fr D h
   | .region _ ⟨ops⟩ draw=>cond draw (rV P G X ih n ops fr D h)<|jU P G X ih rd n ops ops fr D h
   | .seq a b=>match ih (.cd rd n a fr D h) with
     | .cd .bF fr D h=>ih<|.cd rd n b fr D h
     | r=>r
   | .cond x a b=>match kn G n fr x with
     | some (.bool true)=>ih<|.cd rd n a fr D h
     | some (.bool false)=>ih<|.cd rd n b fr D h
     | _=> .no
   | .block id c=>match ih (.cd rd n c fr D h) with
     | .cd (.ext j) fr D h=>cond (aQ j id) (.cd .bF fr D h)<|.cd (.ext j) fr D h
     | r=>r
   | .loop c=>ih<|.lp rd n c fr D h
   | .rangeFunc g ⟨ps⟩ aE body=>oW ih G rd n g ps aE body fr D h
   | .exit id=> .cd (.ext id) fr D h
   | .ret=> .cd .ret fr D h
   | _=> .no
 | .lp rd n c fr D h=>match ih (.cd rd n c fr D h) with
   | .cd .bF fr D h=>ih<|.lp rd n c fr D h
   | r=>r
 | .cl f args h=>match P.funcs[f]? with
   | some fn=>match fn.body with
     | some c=>cond (aZ args.length fn.ntmps && av fn.ntmps bZ) (match ih (.cd none fn.ntmps c (iL 0 args .nil) [] h) with
       | .cd (.ext _) _ _ _=> .no
       | .cd _ fr D h=>match jR G ih D h with
         | some h=>match iR P fn.ntmps fr h fn.results.toList with
           | some vs=> .rv (ni vs) h
           | none=> .no
         | none=> .no
       | _=> .no) .no
     | none=> .no
   | none=> .no
 | .yl l args h=>qR G ih l args h
 | .df f args h=>match P.funcs[f]? with
   | some fn=>match fn.body with
     | some c=>cond (aZ args.length fn.ntmps && av fn.ntmps bZ) (match (match c with
       | .seq (.region _ ⟨⟨some d,.call ⟨.builtin .recover,⟨[]⟩,⟨[]⟩⟩,ty,pos,af,none⟩::rest⟩ false) y=>match fA fn.ntmps (iL 0 args .nil) (some d) .eb with
         | some fr=>match jU P G X ih none fn.ntmps (⟨some d,.call ⟨.builtin .recover,⟨[]⟩,⟨[]⟩⟩,ty,pos,af,none⟩::rest) rest fr [] h with
           | .cd .bF fr [] h=>ih<|.cd none fn.ntmps y fr [] h
           | _=> .no
         | none=> .no
       | c=>ih (.cd none fn.ntmps c (iL 0 args .nil) [] h)) with
       | .cd (.ext _) _ _ _=> .no
       | .cd _ fr [] h=>match iR P fn.ntmps fr h fn.results.toList with
         | some vs=> .rv (ni vs) h
         | none=> .no
       | _=> .no) .no
     | none=> .no
   | none=> .no
def ik (P:an) (G:Nat) (X:Xt):Nat→Tk→Rs
 | 0,_=> .no
 | n+1,t=>fi P G X (ik P G X n) t
def p8 (c:Nat):List UInt8→Nat→Int
 | [],_=> -1
 | b::l,i=>cond (aQ b.toNat c) (kJ i)<|p8 c l<|i+1
def yd (xs:List AV) (h:Hp):Option (AV×Hp):=match xs with
 | [.str l,.int .u8 (.ofNat c)]=>cond (av c 256) (match eT .i64 (p8 c l 0) with
   | some v=>some (v,h)
   | none=>none) none
 | _=>none
def yc (xs:List AV) (h:Hp):Option (AV×Hp):=match xs with
 | [x]=>some (x,h)
 | _=>none
end Go.Hb
namespace Go.Hb
section
variable {P:an} {G:Nat} {r:Rn} {T:Nat} {h:Hp} {w:ah} {N:Fm} {σ:Nat→ag} {dst:Option Nat} {ty:ak} {pos :String} {af:Array bM} {g:Option (Nat×Bool)} {x y z:aO}
theorem HR.Ca (hr:HR P G r T h w) {b o:Nat} {l news:List AV} {e fz:Nat} {ex:Ck} {q:Loc} {Nw:List ag} (hb:h.t.get b=some (.cells l e fz ex)) (ak:aZ G b=true) (al:av b bZ=true) (O:r b=some q) (E:ax r news=some Nw) (aj:dS news=true) (hle:o+news.length≤l.length) (aw:fz≤o):
 ∃ c fr,w.heap[q.aq]? =some (.cells c e fr)∧fr.2≤q.sh+o∧q.sh+o+Nw.length≤c.size∧(∀ u∈Nw,u.oneCell'=true)∧
   St P G T r h w r ⟨h.t.set b (.cells (l.take o++(news++l.drop (o+news.length))) e fz ex),h.nx⟩ (w.setRow q.aq (c.toList.take (q.sh+o)++Nw++c.toList.drop (q.sh+o+Nw.length)).toArray):=by
 obtain ⟨q',V,c,fr,us,Z,I,aA,aa,ao,ac,ad,ap⟩:=hr.live b _ hb;rw [O] at V; cases V;have ay:=cZ E;have az:=cZ I;have M:=oM E aj;obtain ⟨L,C⟩:∃ L,c.toList.take (q.sh+o)++Nw++c.toList.drop (q.sh+o+Nw.length)=L:=⟨_,rfl⟩
 have J:=xl c.toList Nw (q.sh+o)<|by have :=nG (xs:=c); omega
 rw [C] at J;have au:L.length=c.size:=by rw [← C]; simp; omega
 refine ⟨c,fr,Z,ab,ab,M,?_⟩;rw [C];refine hr.lj hb al O (bH ak) ?_ ⟨U,U,by simp,fun k _ am=>setRow_other w q.aq k _ am⟩;rw [setRow_heap w q.aq _ _ e _ Z];refine ⟨L.toArray,fr,_,U,ff (jd o I) (ff E<|jI (o+news.length) I),?_,fun j a A=> ?_,ao,?_,⟨fun hex=> ?_,ad.2⟩,fun s an=> ?_⟩
 · simp only [bB,bW,gS,ej]; omega
 · rw [lD,J];have ae:(us.take o).length=o:=by simp; omega
   by_cases m1:j < o
   · rw [eW ab,gr,if_pos m1] at A;rw [if_pos ab,ph]; exact aa _ _ A
   · rw [eI ab,ae] at A;rw [if_neg ab];by_cases aB:j < o+Nw.length
     · rw [eW ab] at A;rw [if_pos ab,show q.sh+j - (q.sh+o)=j - o from by omega]; exact A
     · rw [eI ab,iX] at A;rw [if_neg ab,ph];refine aa j a ?_;rw [← A]; congr 1; omega
 · intro a ha;rcases fl.1 ha with ha | ha
   · exact ac a<|uv ha
   · rcases fl.1 ha with ha | ha
     · exact M a ha
     · exact ac a<|uu ha
 · obtain ⟨ah,ar,ai⟩:=ad.1 hex;refine ⟨ah,?_,ai⟩;simp only [bB,bW,gS,ej]; omega
 · have :=ap s an;simp only [ej]; omega
theorem J2 (hr:HR P G r T h w) {t b o n c i j:Nat} {L:Hp} {v:AV} {k an:bu} (hn:wH P t n i j h=some (v,L)) (hT:L.nx≤T) (ak:den r (.sl b o n c false)=some (ev N σ x)) (al:ev N σ y= .int k (kJ i)) (am:ev N σ z= .int an (kJ j)):YM P G r T N σ ⟨dst,.slice t x (some y) (some z) none,ty,pos,af,g⟩ h w v L:=by
 unfold wH at hn;split at hn
 · rename_i e he;replace hn:=aU hn; obtain ⟨M,hn⟩:=hn;simp only [bf] at M;obtain rfl :=bQ M.1;obtain rfl :=bQ M.2.1;cases hn;simp only at hT;obtain ⟨q,au,ar,hu⟩:=rU ak;have aj:=tv (dst:=dst) (ty:=ty) (pos :=pos) (af:=af) (g:=g) (w:=w) he hu al am ⟨fD _,Int.le_refl _,by simp; omega⟩;obtain ⟨ad,ae⟩:∃ ad:Nat,dc (some ⟨q.aq,q.sh+o,none⟩) (q.room - c) j e=some ⟨q.aq,ad,none⟩:=by
    unfold dc; split
    · exact ⟨_,U⟩
    · exact ⟨_,by rw [dJ,dO]⟩
   have hle:=Rn.qf (i:=h.nx) ⟨q.aq,ad,q.room - c - j⟩<|hr.new h.nx (aT _) ab;refine ⟨r.ext h.nx ⟨q.aq,ad,q.room - c - j⟩,_,w,?_,.inl aj,hle,⟨fun j J C=> ?_,fun j k Z aa aw ao C E I A he=> ?_,fun k E ah=> ?_,hr.fu.le hle,bS hr.base<|lI _⟩,lI _,Md.refl _ _,fun g ap k E ag=> ?_,fun k E=>Rn.jL _ _<|by simp only at E; omega⟩
   · rw [od (Rn.gE _ _ _) (by simp)];simp [ae]
   · obtain ⟨q',I,A⟩:=hr.live j J C;exact ⟨q',hle _ _ I,A.le hle⟩
   · obtain ⟨q',O,_⟩:=hr.live j Z C;obtain ⟨av,V,_⟩:=hr.live k aa E;rw [hle _ _ O] at I; cases I;rw [hle _ _ V] at A; cases A;exact hr.inj j k Z aa _ _ C E O V he
   · simp only at E; rw [Rn.jL _ _ ab]; exact hr.new k ab ah
   · obtain ⟨j,J,q',ac,C,ai,rfl⟩:=ag;obtain ⟨ao,A,_⟩:=hr.live j J C;have :=hle _ _ A;rw [ai] at this; cases this;exact ⟨j,J,_,ac,C,A,U⟩
 · cases hn
theorem HR.G0 (hr:HR P G r T h w) {b:Nat} (hb:av b bZ=true):St P G T r h w r ⟨h.t.del b,h.nx⟩ w:=
 ⟨Rn.le_refl r,hr.del hb,aT _,Md.refl _ _,fun g _ k _ E=>by
  obtain ⟨j,J,q',C,A,I,rfl⟩:=E;rw [Tr.oz _ _ _ hb] at A;split at A
  · cases A
  · exact ⟨j,J,q',C,A,I,U⟩,fun _ _=>rfl⟩
theorem HR.JQ (hr:HR P G r T h w) {b:Nat} {o:AO} {q q':Loc} {E:Hp} {ob:AO} (hb:h.t.get b=some ob) (L:av b bZ=true) (O:r b=some q) (Z:aZ G b=true) (J:q'.aq=q.aq) (hn:Hb.cQ ⟨h.t.del b,h.nx⟩ o=some E) (hT:E.nx≤T) (ae:∀ r',r.le r'→OR P r' q' o w.heap[q.aq]?):
 ∃ r',r' h.nx=some q'∧St P G T r h w r' E w:=by
 have U:=hr.del L;have ah:=hr.G0 L;unfold Hb.cQ at hn;replace hn:=aU hn; obtain ⟨M,hn⟩:=hn;cases hn;simp only at hT M;have hle:=Rn.qf (i:=h.nx) q'<|hr.new h.nx (aT _) ab;have V:∀ g,g≤G→Fr g r h q.aq:=fun g A=>⟨b,_,q,bS A (bH Z),hb,O,rfl⟩
 refine ⟨r.ext h.nx q',Rn.gE _ _ _,hle,U.put hle M (Rn.gE _ _ _) (by rw [J]; exact ae _ hle) (fun _ _ _=>rfl) (fun j aj ak ai A ag he=> ?_) (lI _) (fun k C ad=> ?_),lI _,Md.refl _ _,fun g A k C aa=> ?_,fun k C=>Rn.jL _ _<|by simp only at C; omega⟩
 · rw [Tr.oz _ _ _ L] at A;split at A
   · cases A
   · rename_i ac;exact ac<|hr.inj j b _ _ _ _ A hb ag O<|by rw [he,J]
 · simp only at C; rw [Rn.jL _ _ ab]; exact hr.new k ab ad
 · rcases Fr.set M (Rn.gE _ _ _) hle U aa with I | I
   · rw [I,J]; exact V g A
   · exact ah.dR g A k C I
theorem Mo (hr:HR P G r T h w) {t b o n c i:Nat} {C:Hp} {v:AV} {k:bu} (hn:xF P G t b o n c i h=some (v,C)) (hT:C.nx≤T) (aj:den r (.sl b o n c false)=some (ev N σ x)) (ak:ev N σ y= .int k (kJ i)):YM P G r T N σ ⟨dst,.slice t x (some y) none none,ty,pos,af,g⟩ h w v C:=by
 unfold xF at hn;split at hn
 · rename_i e he;replace hn:=aU hn; obtain ⟨E,hn⟩:=hn;simp only [bf] at E;obtain rfl :=bQ E.1;obtain ⟨_,O,V⟩:=E;split at hn
   · rename_i l aC fz ex hb;split at hn
     · rename_i an I;replace hn:=aU hn; obtain ⟨A,hn⟩:=hn;simp only [bf] at A;obtain rfl :=bQ A.1;have d1:=bQ A.2.1;have d2:=bH A.2.2;split at hn
       · rename_i ao ae;cases hn;obtain ⟨q,J,ar,hu⟩:=rU aj;obtain ⟨q',L,cc,fr,us,al,au,av,aw,ay,az,aA,am⟩:=hr.live b _ hb;rw [J] at L; cases L;have aB:=am e I;have ai:=tw (dst:=dst) (ty:=ty) (pos :=pos) (af:=af) (g:=g) (w:=w) he hu ak ⟨fD _,Int.le_refl _⟩;have ah:(c+i+(q.room - c - i))*e=q.room*e:=by congr 1; omega
         rw [mw,mw] at ah;obtain ⟨ad,Z,ap,aa⟩:∃ ad:Nat,dc (some ⟨q.aq,q.sh+o,none⟩) (q.room - c) i e=some ⟨q.aq,ad,none⟩∧q.sh≤ad∧ad+(q.room - c - i)*e≤cc.size:=by
          unfold dc; split
          · rename_i h0;refine ⟨_,U,ab,?_⟩;rw [show q.room - c - i=0 from by omega,pH]; omega
          · exact ⟨q.sh+o+i*e,by rw [dJ,dO],ab,ab⟩
         obtain ⟨r',ag,bD⟩:=hr.JQ (q':=⟨q.aq,ad,q.room - c - i⟩) hb V J O rfl ae hT fun r' hle=>by
          refine ⟨cc,fr,[],al,by simp [ax],by simp only [fk,j2]; omega,fun j u ac=>by simp at ac,by simp only; omega,fun u hu=>by simp at hu,⟨(fun h=>by cases h),fun h=>absurd U h⟩,fun s M=> ?_⟩;rw [I] at M; cases M;exact aa
         refine ⟨r',_,w,?_,.inl ai,bD⟩;rw [od ag (by simp)];simp [Z]
       · cases hn
     · cases hn
   · cases hn
 · cases hn
theorem F7 (hr:HR P G r T h w) {t:ak} {a v:AV} {I:Hp} (hn:uZ P G t a h=some (v,I)) (O:den r a=some (ev N σ x)):YM P G r T N σ ⟨dst,.call ⟨.builtin .clear,#[x],#[t]⟩,ty,pos,af,g⟩ h w v I:=by
 have E:∀ {u:ag} {w':ah},(ua #[t] ty #[ev N σ x]).run P w= .ok u w'→(execOp (ev N σ) ⟨dst,.call ⟨.builtin .clear,#[x],#[t]⟩,ty,pos,af,g⟩).run P w= .ok (.value u) w':=by
  intro u w' h;simp [execOp,resolve,invoke,builtin,h]
 unfold uZ at hn;split at hn
 · replace hn:=aU hn; obtain ⟨A,hn⟩:=hn;cases hn;obtain ⟨e,he⟩:=qa A;have hu:=ig O;exact ⟨r,undef,w,iH r,.inl (E<|by rw [hu]; simp [ua,bh he]; rfl),St.refl hr⟩
 · rename_i b o n c q;split at hn
   · rename_i e s ar ap ad;obtain ⟨i,zv,hu,hi,ae,rfl,rfl,am,aw,aj,al,ax⟩:=tu (r:=r) ad;obtain ⟨V,cap,ac,au,U,_⟩:=iJ O;split at hn
     · cases hn;exact ⟨r,undef,w,iH r,.inl (E<|by rw [U]; simp [ua,bh hu]; rfl),St.refl hr⟩
     · rename_i aa;split at hn
       · rename_i l Z fz ex hb;replace hn:=aU hn; obtain ⟨A,hn⟩:=hn;simp only [bf] at A;obtain ⟨⟨C,c2⟩,c3,c4⟩:=A;have C:=bH C;have c2:=bH c2;cases hn;have J:=td aj n;have hlen:=cZ J;have L:(kp ap n).length=n*i.size:=by
          rw [← hlen]; simp [List.length_flatten,am]
         obtain ⟨cc,fr,an,ay,az,ao,bD⟩:=hr.Ca (o:=o) hb c3 c4 ac J (wX al n) (by rw [L]; exact C) c2;have M:=run_storeCells_atF P V.aq (V.sh+o) Z fr _ 0 cc w an ab ab ao;simp only [j2] at M;rw [L] at bD;refine ⟨r,undef,_,iH r,.inl (E ?_),bD⟩;rw [U];have ai:(Ds zv.cells n).toList=(eB n zv.cells.toList).flatten:=by
          have :=wV zv.cells ab n;have :=congrArg Array.toList this;simpa [Ds] using this
         have av:n≠0:=fun h=>aa<|by rw [h]
         obtain ⟨m,rfl⟩:∃ m,n=m+1:=⟨n - 1,ab⟩
         simp [ua,bh hu,zeroValue,di hi,ae,ai,M];rfl
       · cases hn
   · cases hn
 · cases hn
theorem A9 {x:AV} {kx:ag} {C:KK} (I:dz C x=true) (E:den r x=some kx):∀ {l:List (AV×AV)} {es:List MapEntry} {j:Nat} {A:MapEntry},fM r l es→eS C l=true→
 es[j]? =some A→A.key=kx→(es.map fun e=>e.key).Nodup→fM r (kX x l) (es.eraseIdx j)
 | [],[],j,A,_,_,hj,_,_=>by simp at hj
 | [],_::_,_,_,hm,_,_,_,_=>hm.elim
 | _::_,[],_,_,hm,_,_,_,_=>hm.elim
 | q::l,e::es,0,A,hm,hk,hj,hk',_=>by
   simp only [eS] at hk;cases h1:dz C q.1
   · rw [h1] at hk; cases hk
   · simp only [fS,bp] at hj;subst hj;simp only [kX,(kY h1 I hm.1 E).2 hk',cond_true];exact hm.2.2
 | q::l,e::es,j+1,A,hm,hk,hj,hk',hn=>by
   simp only [eS] at hk;cases h1:dz C q.1
   · rw [h1] at hk; cases hk
   · rw [h1] at hk;simp only [gR] at hj;simp only [dq,pD] at hn;have he:fK q.1 x=false :=by
      cases hq:fK q.1 x
      · rfl
      · have :=(kY h1 I hm.1 E).1 hq;exact absurd (gu.2 ⟨A,jy hj,hk'.trans this.symm⟩) hn.1
     simp only [kX,he,cond_false];exact ⟨hm.1,hm.2.1,A9 I E hm.2.2 hk hj hk' hn.2⟩
theorem AG {x:AV} {kx:ag} {A:KK} (E:dz A x=true) (C:den r x=some kx):∀ {l:List (AV×AV)} {es:List MapEntry},fM r l es→eS A l=true→(∀ e∈es,e.key≠kx)→kX x l=l
 | [],_,_,_,_=>rfl
 | q::l,[],hm,_,_=>hm.elim
 | q::l,e::es,hm,hk,hn=>by
   simp only [eS] at hk;cases h1:dz A q.1
   · rw [h1] at hk; cases hk
   · rw [h1] at hk;have he:fK q.1 x=false :=by
      cases hq:fK q.1 x
      · rfl
      · exact absurd ((kY h1 E hm.1 C).1 hq)<|hn e iB
     simp only [kX,he,cond_false,AG E C hm.2.2 hk (fun e he=>hn e<|iY _ he)]
theorem GY (hr:HR P G r T h w) {t I:ak} {b:Nat} {k v:AV} {J:Hp} (hp:vi P G t b k h=some (v,J)) (an:den r (.map b)=some (ev N σ x)) (E:den r k=some (ev N σ y)):YM P G r T N σ ⟨dst,.call ⟨.builtin .delete,#[x,y],#[t,I]⟩,ty,pos,af,g⟩ h w v J:=by
 have Z:∀ {u:ag} {w':ah},(pq #[t,I] ty #[ev N σ x,ev N σ y]).run P w= .ok u w'→(execOp (ev N σ) ⟨dst,.call ⟨.builtin .delete,#[x,y],#[t,I]⟩,ty,pos,af,g⟩).run P w= .ok (.value u) w':=by
  intro u w' h;simp [execOp,resolve,invoke,builtin,h]
 unfold vi at hp;split at hp
 · rename_i l hb;split at hp
   · rename_i kt e aa;split at hp
     · rename_i ao ai;replace hp:=aU hp; obtain ⟨L,hp⟩:=hp;simp only [bf] at L;obtain ⟨⟨ac,ad⟩,hka,hkl⟩:=L;cases hp;obtain ⟨q,es,c,U,hw,hm,hn⟩:=hr.map hb;obtain ⟨q',V,hu⟩:=mK an;rw [U] at V; cases V;have A:=vT ai;have hi:=su hka E;have ae:∀ e∈es.toList,oB ao e.key:=r8 rfl (sK hm hkl);have aj:=(bJ.1 hw).1;have st:∀ (es':Array MapEntry),fM r (kX k l) es'.toList→(es'.toList.map fun e=>e.key).Nodup→St P G T r h w r ⟨h.t.set b (.map<|kX k l),h.nx⟩ {w with heap:=w.heap.setIfInBounds q.aq<|.map es' c} :=fun es' g1 g2=>
        hr.lj hb ad U (bH ac) ⟨es',c,by simp only; rw [ml aj],g1,g2⟩ ⟨rfl,rfl,by simp,fun i _ al=>by simp only; rw [ly (fun e=>al e.symm)]⟩
       rcases A.find w (ev N σ y) es.toList hi ae with ⟨C,am⟩ | ⟨j,ap,C,O,ab⟩
       · refine ⟨r,undef,_,iH r,.inl (Z ?_),st es (by rw [AG hka E hm hkl am]; exact hm) hn⟩;rw [hu];simp [pq,bh aa,run_getObj_map hw,A.check _ w _ hi,C,setObj,jY,hw];rfl
       · have ar:=(cB.1 O).1;have M:(es.eraseIdxIfInBounds j).toList=es.toList.eraseIdx j:=by simp
         refine ⟨r,undef,_,iH r,.inl (Z ?_),st (es.eraseIdxIfInBounds j) (by rw [M]; exact A9 hka E hm hkl O ab hn) (by
          rw [M];exact List.Nodup.sublist (yt _<|List.eraseIdx_sublist _ _) hn)⟩
         rw [hu];simp [pq,bh aa,run_getObj_map hw,A.check _ w _ hi,C,setObj,jY,hw];rfl
     · cases hp
   · cases hp
 · cases hp
theorem MQ (hr:HR P G r T h w) {A it:ak} {a b v:AV} {J:Hp} (hp:xT P G A a b h=some (v,J)) (ac:den r a=some (ev N σ x)) (ad:den r b=some (ev N σ y)):YM P G r T N σ ⟨dst,.call ⟨.builtin .unsafeString,#[x,y],#[A,it]⟩,ty,pos,af,g⟩ h w v J:=by
 have Z:∀ {u:ag} {w':ah},(Builtin.unsafeString_ #[A,it] ty #[ev N σ x,ev N σ y]).run P w= .ok u w'→(execOp (ev N σ) ⟨dst,.call ⟨.builtin .unsafeString,#[x,y],#[A,it]⟩,ty,pos,af,g⟩).run P w= .ok (.value u) w':=by
  intro u w' h;simp [execOp,resolve,invoke,builtin,h]
 have an:den r (.str [])=some (.string .empty):=rfl;unfold xT at hp;split at hp
 · cases hp;obtain ⟨q,V,hu⟩:=iI ac;have E:=cG ad;exact ⟨r,_,w,an,.inl (Z<|by rw [hu,E]; exact DN w A it ty _),St.refl hr⟩
 · cases hp;have hu:=og ac;have E:=cG ad;exact ⟨r,_,w,an,.inl (Z<|by rw [hu,E]; exact DN w A it ty _),St.refl hr⟩
 · rename_i I n _;split at hp
   · rename_i l e fz ex hb;have key:ex≠.a→cond ((ptrTo P A e && (aZ n l.length && (av 0 n && av n 1000000000))) && (aZ G I && av I bZ)) (match nw (l.take n) with
      | some m=>some (AV.str m,(⟨h.t.set I (.cells l e (max fz n) .z),h.nx⟩:Hp))
      | none=>none) none=some (v,J)→YM P G r T N σ ⟨dst,.call ⟨.builtin .unsafeString,#[x,y],#[A,it]⟩,ty,pos,af,g⟩ h w v J:=by
      intro hex hp;replace hp:=aU hp; obtain ⟨am,hp⟩:=hp;simp only [bf] at am;obtain ⟨⟨C,aj,c2,c3⟩,hG,hbm⟩:=am;have aj:=bH aj;have c2:=cj.1 c2;have c3:=cj.1 c3;split at hp
      · rename_i m hm;cases hp;obtain ⟨q,V,cc,fr,us,ae,ai,aE,ar,aF,aG,aH,aI⟩:=hr.live I _ hb;have aa:=aH.2 hex;obtain ⟨q',ap,hu⟩:=iI ac;rw [V] at ap; cases ap;have E:=cG ad;rw [aa] at hu;have ay:=jd n ai;have al:=xM hm ay;have aJ:=cZ ai;have M:m.length=n:=by
         have :=congrArg lE al;simp [uJ] at this;omega
        unfold ptrTo at C;split at C
        · rename_i L az;simp only [bf,beq_iff_eq] at C;obtain ⟨rfl,aw⟩:=C;have aD:w.shape? q.aq=some (L,cc.size):=by simp [World.shape?,ae]
          have O:m≠[]:=fun h=>by rw [h] at M; simp at M; omega
          have ax:=Lib.run_unsafeString_row (P:=P) w A it ty L az aw q.aq cc.size aD m O ab ab (fun j u aA=>by
           have au:us[j]? =some (.int .u8 u.toNat):=by
            have :(us.take n)[j]? =some (.int .u8 u.toNat):=by rw [al]; simp [U8,aA]
            rw [gr] at this;split at this
            · exact this
            · cases this
           rw [dO,hZ,dg ae,cr];have :=ar j _ au;rwa [aa,cr] at this)
          have ao:lA w ⟨q.aq,0,none⟩ m.length= {w with heap:=w.heap.modify q.aq fun
           | .cells c elem (lo,hi)=> .cells c elem (if lo==hi then (0,0 +m.length) else (min lo 0,max hi (0 +m.length)))
           | o=>o} :=by
           unfold lA;rw [if_neg ab];rfl
          obtain ⟨lo,hi⟩:=fr;have aC:(lA w ⟨q.aq,0,none⟩ m.length).heap[q.aq]? =some (.cells cc L (if lo==hi then (0,0 +m.length) else (min lo 0,max hi (0 +m.length)))):=by
           rw [ao];simp only [tU,if_true,ae];rfl
          refine ⟨r,.string ⟨m.toArray⟩,lA w ⟨q.aq,0,none⟩ m.length,U,.inl (Z ?_),hr.lj hb hbm V (bH hG) ?_ ?_⟩
          · rw [hu,E,← M]; exact ax
          · rw [aC];refine ⟨cc,_,us,U,ai,aE,ar,?_,aG,⟨(fun h=>by cases h),fun _=>aa⟩,aI⟩;simp only at aF;split <;> simp only <;> omega
          · rw [ao];exact ⟨U,U,by simp,fun k _ aB=>by simp only [tU]; rw [if_neg (fun e=>aB e.symm)]⟩
        · cases C
      · cases hp
     split at hp
     · cases hp
     · rename_i O;exact key O hp
   · cases hp
 · cases hp
theorem Ke (hr:HR P G r T h w) {o:Op} {xs:List AV} {v:AV} {L:Hp} (A:sU P G o xs h=some (v,L)) (hT:L.nx≤T) (I:ax r xs=some ((fN o).map<|ev N σ)):YM P G r T N σ ⟨dst,o,ty,pos,af,g⟩ h w v L:=by
 have two:∀ {a b:AV} {l:List aO},ax r [a,b]=some (l.map<|ev N σ)→∃ x y,l= [x,y]∧den r a=some (ev N σ x)∧den r b=some (ev N σ y):=by
  intro a b l h;have :=cZ h;simp at this;obtain ⟨x,y,rfl⟩:∃ x y,l= [x,y]:=by
   match l,this with
   | [x,y],_=>exact ⟨x,y,rfl⟩
  exact ⟨x,y,U,ib h⟩
 have one:∀ {a:AV} {l:List aO},ax r [a]=some (l.map<|ev N σ)→∃ x,l= [x]∧den r a=some (ev N σ x):=by
  intro a l h;have :=cZ h;simp at this;obtain ⟨x,rfl⟩:=re.1 this;exact ⟨x,U,eD h⟩
 unfold sU at A;split at A
 · rename_i C t ae;split at A
   · obtain ⟨C⟩:=C;obtain ⟨x,y,rfl,E,J⟩:=two I;exact Fg hr A hT E J
   · cases A
 · rename_i C t;split at A
   · obtain ⟨C⟩:=C;obtain ⟨x,rfl,E⟩:=one I;exact F7 hr A E
   · cases A
 · rename_i C t kt;split at A
   · obtain ⟨C⟩:=C;obtain ⟨x,y,rfl,E,J⟩:=two I;exact GY hr A E J
   · cases A
 · rename_i C ad;obtain ⟨C⟩:=C;split at A
   · cases A;obtain ⟨x,rfl,E⟩:=one I;exact ⟨r,_,w,U,.inl (xS (v:= .nilFunc) (ig E)<|.inl U),St.refl hr⟩
   · replace A:=aU A; obtain ⟨V,A⟩:=A;have V:=cj.1 V;cases A;obtain ⟨x,rfl,E⟩:=one I;obtain ⟨q,cap,aa,hn,hu,_⟩:=iJ E;exact ⟨r,_,w,by simp only [den,aa],.inl (xS (v:= .nilFunc) hu<|.inr ab),St.refl hr⟩
   · cases A
 · rename_i C ac it;split at A
   · obtain ⟨C⟩:=C;obtain ⟨x,y,rfl,E,J⟩:=two I;exact MQ hr A E J
   · cases A
 · split at A
   · obtain ⟨M,O⟩:=ib I;exact Mo hr A hT M<|cG O
   · cases A
 · split at A
   · obtain ⟨M,O,Z⟩:=lR I;exact J2 hr A hT M (cG O)<|cG Z
   · cases A
 · cases A
end
end Go.Hb
namespace Go.Hb
def jK:EX→ba
 | .bF=> .normal
 | .ret=> .ret
 | .ext i=> .exit i
def jJ (r:Rn):List AD→List Deferred→Prop
 | [],[]=>True
 | .mark d::l,x::m=>(∃ q,r d=some q∧x= {target:= .collected q.aq,args:= #[]})∧jJ r l m
 | .fn f args::l,x::m=>(∃ (a:List ag) (cap A:Array ag),ax r args=some a∧x= {target:= .fn (.func f) cap,args:=A}∧A++cap=a.toArray)∧jJ r l m
 | _,_=>False
def qD (r:Rn):Option Nat→Option Nat→Prop
 | none,none=>True
 | some l,some k=> ∃ q,r l=some q∧q.aq=k
 | _,_=>False
theorem mJ {r s:Rn} (h:r.le s):∀ {D:List AD} {m:List Deferred},jJ r D m→jJ s D m
 | [],[],_=>trivial
 | [],_::_,h'=>h'.elim
 | .mark d::l,[],h'=>h'.elim
 | .fn f args::l,[],h'=>h'.elim
 | .mark d::l,x::m,⟨⟨q,h1,h2⟩,h3⟩=>⟨⟨q,h _ _ h1,h2⟩,mJ h h3⟩
 | .fn f args::l,x::m,⟨⟨a,cap,as_,h1,h2⟩,h3⟩=>⟨⟨a,cap,as_,ic h h1,h2⟩,mJ h h3⟩
theorem BQ {r s:Rn} (h:r.le s) {a b:Option Nat} (hr:qD r a b):qD s a b:=by
 cases a <;> cases b
 · trivial
 · exact hr.elim
 · exact hr.elim
 · obtain ⟨q,A,C⟩:=hr; exact ⟨q,h _ _ A,C⟩
theorem dX.le {r s:Rn} (h:r.le s) {n:Nat} {fr:Tr AV} {σ:Nat→ag} (A:dX r n fr σ):dX s n fr σ:=fun i hi=>kQ h<|A i hi
def dt (P:an) (G:Nat) (rd:Option Nat) (n:Nat) (W:Option Nat→(ba→Act→ah→Prop)→Act→ah→Prop) (fr:Tr AV) (D:List AD) (h:Hp) (e:EX) (I:Tr AV) (E:List AD) (A:Hp):Prop :=
 h.nx≤A.nx∧∀ (T:Nat) (r:Rn) (w:ah) (σ:Nat→ag) (Dl:List Deferred) (rr:Option Nat) (Q:ba→Act→ah→Prop),A.nx≤T→HR P G r T h w→dX r n fr σ→jJ r D Dl→qD r rd rr→
  (∀ (r':Rn) (w':ah) (σ':Nat→ag) (C:List Deferred),St P G T r h w r' A w'→dX r' n I σ'→jJ r' E C→Q (jK e) (act ⟨n,C,[],rr⟩ σ') w')→W rr Q (act ⟨n,Dl,[],rr⟩ σ) w
def yK (P:an) (G:Nat) (f:Nat) (args:List AV) (h:Hp) (v:AV) (A:Hp):Prop :=
 h.nx≤A.nx∧∀ (T:Nat) (r:Rn) (w:ah) (L:List ag),A.nx≤T→HR P G r T h w→ax r args=some L→aR P f L.toArray w fun u w'=> ∃ r',den r' v=some u∧St P G T r h w r' A w'
def uI (P:an) (G:Nat) (l:Nat) (args:List AV) (h:Hp) (v:AV) (A:Hp):Prop :=
 h.nx≤A.nx∧∀ (T:Nat) (r:Rn) (w:ah) (L:List ag) (q:Loc),A.nx≤T→HR P G r T h w→ax r args=some L→r l=some q→YieldAt eA 0 P q.aq L.toArray w fun e w'=> ∃ u r',e= .returned u∧den r' v=some u∧St P G T r h w r' A w'
def EU (P:an) (G:Nat) (f:Nat) (args:List AV) (h A:Hp):Prop :=
 h.nx≤A.nx∧∀ (T:Nat) (r:Rn) (w:ah) (L:List ag),A.nx≤T→HR P G r T h w→ax r args=some L→CallsDIn eA 0 P f L.toArray .returning w fun e C w'=> ∃ v,e= .returned v∧C= .returning∧∃ r',St P G T r h w r' A w'
def tK (P:an) (c:bz) (rr:Option Nat) (Q:ba→Act→ah→Prop) (a:Act) (w:ah):Prop :=
 ∀ (b:Frame) (k:List Item) (cs:List Frame),b.roundOf=(fe rr).round→(fe rr).fn b.fn→(fe rr).room (cs.length+1 +0)→
   ∃ e A w',Q e A w'∧ArrivesIn (Machine.fenced P<|fe rr) P (lone (b.atR a (.code c:: .inLoop c::k)) cs w) b k cs e A w'
def lN (P:an) (G:Nat):Tk→Rs→Prop
 | .cd rd n c fr D h,.cd e fr' D' h'=>dt P G rd n (fun rr Q a w=>c.wpIn (fe rr) 0 P Q a w) fr D h e fr' D' h'
 | .lp rd n c fr D h,.cd e fr' D' h'=>dt P G rd n (tK P c) fr D h e fr' D' h'
 | .cl f args h,.rv v h'=>yK P G f args h v h'
 | .yl l args h,.rv v h'=>uI P G l args h v h'
 | .df f args h,.rv v h'=>EU P G f args h h'
 | _,.no=>True
 | _,_=>False
def Good (P:an) (G:Nat) (ih:Tk→Rs):Prop := ∀ t,lN P G t (ih t)
def iF (P:an) (G:Nat) (X:Xt):Prop := ∀ f e,X f=some e→∀ xs h v A,e xs h=some (v,A)→h.nx≤A.nx∧∀ (T:Nat) (r:Rn) (w:ah) (us:List ag),A.nx≤T→HR P G r T h w→ax r xs=some us→
 ∃ r' u w',den r' v=some u∧(callFunc f us.toArray).run P w= .ok (.value u) w'∧St P G T r h w r' A w'
def fW (P:an):Prop := ∀ f fn c,P.funcs[f]? =some fn→fn.body=some c→eL P f
section
variable {P:an} {G:Nat} {r:Rn} {T:Nat} {h:Hp} {w:ah} {N:Fm} {σ:Nat→ag} {dst:Option Nat} {ty:ak} {pos :String} {af:Array bM} {g:Option (Nat×Bool)} {x y z:aO} {K:Act→ah→Prop} {Q:ba→Act→ah→Prop}
theorem tJ {o:ar} (hn:∀ c,o.op≠.defer c) {u:ag} {w':ah} (hr:(execOp (ev N σ) o).run P w= .ok (.value u) w'∨(execOp (ev N σ) o).run P w= .ok .skip w'∧u=undef) (A:K ((act N σ).put o.dst u) w'):o.wpIn (fe N.r) 0 P (act N σ) w K Q:=by
 refine ⟨fun f _=>ka _ f,?_⟩;rw [mO,q4 _ _ _ hn,de];rcases hr with hr | ⟨hr,rfl⟩
 · rw [hr]; exact A
 · rw [hr]; exact A
theorem zh {f:Nat} {fo:aO} {first cap:Array ag} {args:Array aO} {A:Array ak} (C:ev N σ fo= .func (.func f) first cap):(execOp (ev N σ) ⟨dst,.call ⟨.value fo,args,A⟩,ty,pos,af,g⟩).run P w=(callFunc f<|first++args.map (ev N σ)++cap).run P w:=by
 simp only [execOp,resolve,C,kD,gq,jw,fR,invoke]
end
end Go.Hb
namespace Go.Hb
section
variable {P:an} {G:Nat} {h:Hp}
theorem kh {o:AO} {A:Hp} (hn:cQ h o=some A):A.nx=h.nx+1:=by
 unfold cQ at hn;replace hn:=aU hn; obtain ⟨_,hn⟩:=hn;cases hn; rfl
theorem BN {t:ak} {b:Nat} {k v:AV} {A:Hp} (hp:oS P t b k v h=some A):A.nx=h.nx:=by
 unfold oS at hp;split at hp
 · split at hp
   · split at hp
     · replace hp:=aU hp; obtain ⟨_,hp⟩:=hp; cases hp; rfl
     · cases hp
   · cases hp
 · cases hp
theorem L6 {t b o:Nat} {v:AV} {C:Hp} (A:qJ P G t b o v h=some C):C.nx=h.nx:=by
 unfold qJ at A;split at A
 · split at A
   · replace A:=aU A; obtain ⟨_,A⟩:=A; cases A; rfl
   · cases A
 · cases A
theorem Kc {o:Op} {xs:List AV} {v:AV} {C:Hp} (A:oO P G o xs h=some (v,C)):h.nx≤C.nx:=by
 unfold oO at A;split at A
 · split at A
   · split at A
     · replace A:=aU A; obtain ⟨_,A⟩:=A;split at A
       · rename_i hn; cases A; have :=kh hn; omega
       · cases A
     · cases A
   · cases A
 · split at A
   · replace A:=aU A; obtain ⟨_,A⟩:=A;split at A
     · rename_i hn; cases A; have :=kh hn; omega
     · cases A
   · cases A
 · split at A
   · rename_i hn; cases A; have :=kh hn; omega
   · cases A
 · split at A
   · replace A:=aU A; obtain ⟨_,A⟩:=A;split at A
     · replace A:=aU A; obtain ⟨_,A⟩:=A;split at A
       · rename_i hn; cases A; have :=kh hn; omega
       · cases A
     · cases A
   · cases A
 · split at A
   · split at A
     · replace A:=aU A; obtain ⟨_,A⟩:=A;split at A
       · rename_i hn; cases A; have :=kh hn; omega
       · cases A
     · cases A
   · cases A
 · split at A
   · split at A
     · rename_i E; cases A; have :=L6 E; omega
     · cases A
   · cases A
 · split at A
   · replace A:=aU A; obtain ⟨_,A⟩:=A;split at A
     · rename_i hp; cases A; have :=BN hp; omega
     · cases A
   · cases A
 · split at A
   · replace A:=aU A; obtain ⟨_,A⟩:=A;split at A
     · rename_i hp; cases A; have :=BN hp; omega
     · cases A
   · cases A
 · cases A
end
section
variable {P:an} {G:Nat} {X:Xt} {ih:Tk→Rs} {n:Nat}
def j6 (P:an) (G:Nat) (o:Op) (xs:List AV) (h:Hp) (v:AV) (A:Hp):Prop :=
 h.nx≤A.nx∧∀ (T:Nat) (r:Rn) (w:ah) (N:Fm) (σ:Nat→ag) (dst:Option Nat) (ty:ak) (pos :String) (af:Array bM) (g:Option (Nat×Bool)) (K:Act→ah→Prop) (Q:ba→Act→ah→Prop),A.nx≤T→HR P G r T h w→ax r xs=some ((fN o).map<|ev N σ)→
  (∀ (r':Rn) (u:ag) (w':ah),den r' v=some u→St P G T r h w r' A w'→K ((act N σ).put dst u) w')→(Oper.mk dst o ty pos af g).wpIn (fe N.r) 0 P (act N σ) w K Q
theorem j6.run {o:Op} {xs:List AV} {h A:Hp} {v:AV} (hn:∀ c,o≠.defer c) (O:h.nx≤A.nx)
 (hr:∀ (T:Nat) (r:Rn) (w:ah) (N:Fm) (σ:Nat→ag) (dst:Option Nat) (ty:ak) (pos :String) (af:Array bM) (g:Option (Nat×Bool)),A.nx≤T→HR P G r T h w→ax r xs=some ((fN o).map<|ev N σ)→YM P G r T N σ ⟨dst,o,ty,pos,af,g⟩ h w v A):j6 P G o xs h v A:=
 ⟨O,fun T r w N σ dst ty pos af g K Q hT L J M=>by
  obtain ⟨r',u,w',C,E,I⟩:=hr T r w N σ dst ty pos af g hT L J;exact tJ hn E (M r' u w' C I)⟩
theorem FP (am:Good P G ih) (au:iF P G X) (ar:fW P) (ax:∀ f args h v L,ih (.cl f args h)= .rv v L→∃ fn c,P.funcs[f]? =some fn∧fn.body=some c) {fo:aO} {I:List aO} {ad:Array ak} {f:AV} {args:List AV} {h L:Hp} {v:AV} (C:rM X ih f args h= .v v L):
 j6 P G (.call ⟨.value fo,⟨I⟩,ad⟩) (f::args) h v L:=by
 have ah:∀ c,Op.call ⟨.value fo,⟨I⟩,ad⟩≠.defer c:=fun c e=>by cases e
 unfold rM at C;split at C
 · rename_i f a c;split at C
   · rename_i e he;split at C
     · rename_i v1 ac ai;cases C;obtain ⟨ab,E⟩:=au f e he _ _ _ _ ai;refine j6.run ah ab fun T r w N σ dst ty pos af g hT aa V=> ?_;obtain ⟨u,us,A,Z,U⟩:=dP V;simp only [fN,dq,iA] at A;obtain ⟨A,rfl⟩:=A;obtain ⟨J,c',ha,ae,rfl⟩:=lT Z;obtain ⟨r',u,w',M,O,ap⟩:=E T r w _ hT aa<|ff ha<|ff U ae;refine ⟨r',u,w',M,.inl ?_,ap⟩;rw [zh A];have :J.toArray++(⟨I⟩:Array aO).map (ev N σ)++c'.toArray=(J++(I.map (ev N σ)++c')).toArray:=by simp
       rw [this]; exact O
     · cases C
   · split at C
     · rename_i v1 ac ao;cases C;have E:=am<|.cl f (a++(args++c)) h;rw [ao] at E;obtain ⟨ab,E⟩:=E;obtain ⟨fn,cd,ay,av⟩:=ax _ _ _ _ _ ao;have aw:=ar f fn cd ay av;refine ⟨ab,fun T r w N σ dst ty pos af g K Q hT aa V ag=> ?_⟩;obtain ⟨u,us,A,Z,U⟩:=dP V;simp only [fN,dq,iA] at A;obtain ⟨A,rfl⟩:=A;obtain ⟨J,c',ha,ae,rfl⟩:=lT Z;have aA:=E T r w _ hT aa<|ff ha<|ff U ae;refine ⟨fun f _=>ka _ f,?_⟩;rw [mO,q4 _ _ _ ah,de,zh A];have :J.toArray++(⟨I⟩:Array aO).map (ev N σ)++c'.toArray=(J++(I.map (ev N σ)++c')).toArray:=by simp
       rw [this,aw];simp only [Oper.uponIn_enter];refine ⟨fun h0=>(by rw [mN] at h0; cases h0),CallsIn.mono (sc aA) ?_⟩;rintro e w' ⟨u,rfl,r',M,O⟩;exact ag r' u w' M O
     · cases C
 · rename_i l;split at C
   · rename_i v1 ac aC;cases C;have E:=am<|.yl l args h;rw [aC] at E;obtain ⟨ab,E⟩:=E;refine ⟨ab,fun T r w N σ dst ty pos af g K Q hT aa V ag=> ?_⟩;obtain ⟨u,us,A,Z,U⟩:=dP V;simp only [fN,dq,iA] at A;obtain ⟨A,rfl⟩:=A;obtain ⟨q,az,rfl⟩:=vj Z;obtain ⟨fn,tmps,aj,al,aB,an⟩:=E T r w _ q hT aa U az;refine ⟨fun f _=>ka _ f,?_⟩;rw [mO,q4 _ _ _ ah,de];have ai:(execOp (ev N σ) ⟨dst,.call ⟨.value fo,⟨I⟩,ad⟩,ty,pos,af,g⟩).run P w= .ok (.round q.aq fn tmps aj al) w:=by
      have hm:(⟨I⟩:Array aO).map (ev N σ)=(I.map<|ev N σ).toArray:=by simp
      simp only [execOp,resolve,A,kD,gq,jw,fR,invoke];simp [aB]
     rw [ai];simp only [pB];refine ⟨fun h0=>(by rw [mN] at h0; cases h0),?_⟩;have ac:RoundIn (fe N.r) (0 - 1) P q.aq fn tmps aj al w fun e w'=> ∃ u r',e= .returned u∧den r' v=some u∧St P G T r h w r' L w':=by
      cases hr:N.r with
      | none=>exact an
      | some k=>exact an
     refine RoundIn.mono ac ?_;rintro e w' ⟨u,r',rfl,M,O⟩;exact ag r' u w' M O
   · cases C
 · cases C
theorem BC (Z:Good P G ih) (aa:iF P G X) (V:fW P) (ab:∀ f args h v L,ih (.cl f args h)= .rv v L→∃ fn c,P.funcs[f]? =some fn∧fn.body=some c) {o:Op} {xs:List AV} {h L:Hp} {v:AV} (A:qx P G X ih o xs h= .v v L):j6 P G o xs h v L:=by
 unfold qx at A;split at A
 · rename_i v1 hp;cases A;have E:∀ c,o≠.defer c:=fun c e=>by subst e; simp [ng] at hp
   refine j6.run E (aT _) fun T r w N σ dst ty pos af g hT C I=> ?_;obtain ⟨u,J,M⟩:=BB (dst:=dst) (ty:=ty) (pos :=pos) (af:=af) (g:=g) hp I;exact ⟨r,u,w,J,.inl (M w),St.refl C⟩
 · split at A
   · rename_i v1 U;cases A;have E:∀ c,o≠.defer c:=fun c e=>by subst e; simp [jq] at U
     refine j6.run E (aT _) fun T r w N σ dst ty pos af g hT C I=> ?_;obtain ⟨u,J,M⟩:=BA (dst:=dst) (ty:=ty) (pos :=pos) (af:=af) (g:=g) C U I;exact ⟨r,u,w,J,.inl M,St.refl C⟩
   · split at A
     · rename_i fo O ac;split at A
       · obtain ⟨O⟩:=O;exact FP Z aa V ab A
       · cases A
     · split at A <;> cases A
     · rename_i ad E;split at A
       · rename_i v1 J hm;cases A;have E:∀ c,o≠.defer c:=fun c e=>by subst e; simp [oO] at hm
         exact j6.run E (Kc hm) fun T r w N σ dst ty pos af g hT C I=>Kd C hm hT I
       · split at A
         · rename_i v1 J hm;cases hle:aZ h.nx J.nx
           · rw [hle] at A; cases A
           rw [hle] at A;cases A;have E:∀ c,o≠.defer c:=fun c e=>by subst e; simp [sU] at hm
           exact j6.run E (bH hle) fun T r w N σ dst ty pos af g hT C I=>Ke C hm hT I
         · cases A
end
end Go.Hb
namespace Go.Hb
section
variable {P:an} {G:Nat} {X:Xt} {ih:Tk→Rs} {n:Nat} {r:Rn}
theorem o3 {fr C:Tr AV} {d:Option Nat} {v:AV} {u:ag} {σ:Nat→ag} (A:fA n fr d v=some C) (I:dX r n fr σ) (J:den r v=some u):dX r n C (cz σ d u):=by
 cases d with
 | none=>simp only [fA,bp] at A; subst A; exact I
 | some d=>
   simp only [fA] at A;replace A:=aU A; obtain ⟨E,A⟩:=A;simp only [bf] at E;cases A;intro i hi;simp only [cz,aY,c7,Tr.lW _ _ _ _ E.2];by_cases e:i=d
   · subst e;rw [if_pos rfl,show aQ i i=true from by simp]; exact J
   · rw [if_neg e,show aQ i d=false from by
      cases hb:aQ i d
      · rfl
      · exact absurd (bQ hb) e]
     exact I i hi
theorem vH {ops:List ar} {fr:Tr AV} {o:ar} {N:Fm} {σ:Nat→ag} (A:jM N.n ops fr o.guard= .y) (E:dX r N.n fr σ):kG o (yielded ops.toArray (act N σ).tmps)=true :=by
 unfold jM at A;split at A
 · exact fj _ (by assumption) _
 · rename_i j want I;split at A
   · rename_i O J;split at A
     · rename_i t L;cases hb:av t N.n
       · rw [hb] at A; cases A
       · rw [hb] at A;simp only [cond_true] at A;split at A
         · rename_i b M;cases hbw:(b==want)
           · rw [hbw] at A; cases A
           · have C:=E t<|cj.1 hb;rw [M] at C;rw [mj I (by simp [dL,J,L]) hb (je C),hbw]
         · cases A
         · cases A
     · cases A
   · cases A
theorem Au {ops:List ar} {fr:Tr AV} {o:ar} {N:Fm} {σ:Nat→ag} (A:jM N.n ops fr o.guard= .n) (I:dX r N.n fr σ):kG o (yielded ops.toArray (act N σ).tmps)=false :=by
 unfold jM at A;split at A
 · cases A
 · rename_i j want J;split at A
   · rename_i O L;split at A
     · rename_i t M;cases hb:av t N.n
       · rw [hb] at A; cases A
       · rw [hb] at A;simp only [cond_true] at A;split at A
         · rename_i b E;cases hbw:(b==want)
           · have C:=I t<|cj.1 hb;rw [E] at C;rw [mj J (by simp [dL,L,M]) hb (je C),hbw]
           · rw [hbw] at A; cases A
         · rename_i E;have C:=I t<|cj.1 hb;rw [E] at C;rw [iH] at C;exact xY J (by simp [dL,L,M]) hb (eX C).symm
         · cases A
     · cases A
   · cases A
theorem qy (ad:Good P G ih) (ae:iF P G X) (ac:fW P) (ag:∀ f args h v O,ih (.cl f args h)= .rv v O→∃ fn c,P.funcs[f]? =some fn∧fn.body=some c) {rd:Option Nat} {ops:List ar} :∀ {l:List ar} {fr ab:Tr AV} {D aa:List AD} {h O:Hp},
 jU P G X ih rd n ops l fr D h= .cd .bF ab aa O→dt P G rd n (fun rr Q a w=>wpListIn (fe rr) 0 P ops.toArray Q l a w) fr D h .bF ab aa O
 | [],fr,ab,D,aa,h,O,he=>by
   simp only [jU,Rs.cd.injEq,true_and] at he;obtain ⟨rfl,rfl,rfl⟩:=he;exact ⟨aT _,fun T r w σ Dl rr Q hT E C J M L=>L r w σ Dl (St.refl E) C J⟩
 | o::l,fr,ab,D,aa,h,O,he=>by
   simp only [jU] at he;split at he
   · rename_i ai;split at he
     · rename_i xs an;split at he
       · rename_i v aG A;split at he
         · rename_i av V;obtain ⟨aE,s1⟩:=BC ad ae ac ag A;obtain ⟨Z,s2⟩:=qy ad ae ac ag he;refine ⟨bS aE Z,fun T r w σ Dl rr Q hT E C J M L=> ?_⟩;show wpListIn _ _ _ _ _ _ _ _;unfold wpListIn;rw [if_pos (vH (N:=⟨n,Dl,[],rr⟩) ai C)];obtain ⟨d,op,ty,pos,af,g⟩:=o;refine s1 T r w ⟨n,Dl,[],rr⟩ σ d ty pos af g _ Q (bS Z hT) E (sS E.fu C an) fun r' u w' hu bD=> ?_;rw [eC];exact s2 T r' w' _ Dl rr Q hT bD.hr (o3 V (C.le bD.le) hu) (mJ bD.le J) (BQ bD.le M) fun ao ap aq aj am al ak=>L ao ap aq aj (bD.trans am) al ak
         · cases he
       · rename_i a A;split at he
         · split at he
           · rename_i av V;obtain ⟨Z,s2⟩:=qy ad ae ac ag he;refine ⟨Z,fun T r w σ Dl rr Q hT E C J M L=> ?_⟩;have aB:rr=none:=by
              cases rr with
              | none=>rfl
              | some k=>exact M.elim
             subst aB;show wpListIn _ _ _ _ _ _ _ _;unfold wpListIn;rw [if_pos (vH (N:=⟨n,Dl,[],none⟩) ai C)];obtain ⟨d,op,ty,pos,af,g⟩:=o;simp only at A an V;have aD:=sS (N:=⟨n,Dl,[],none⟩) E.fu C an;unfold qx at A;split at A
             · cases A
             · split at A
               · cases A
               · split at A
                 · rename_i fo I au;split at A
                   · unfold rM at A;split at A
                     · split at A
                       · split at A <;> cases A
                       · split at A <;> cases A
                     · split at A <;> cases A
                     · cases A
                   · cases A
                 · rename_i fo I au _ _;split at A
                   · rename_i f aF c' args _ _;cases A;obtain ⟨I⟩:=I;obtain ⟨u,us,ah,az,ax⟩:=dP aD;simp only [fN,dq,iA] at ah;obtain ⟨ah,rfl⟩:=ah;obtain ⟨a2,c2,ha,ay,rfl⟩:=lT az;refine ⟨fun f _=>trivial,?_⟩;have aC:(execOp (ev ⟨n,Dl,[],none⟩ σ) ⟨d,.defer ⟨.value fo,⟨I⟩,au⟩,ty,pos,af,g⟩).run P w= .ok (.defer {target:= .fn (.func f) c2.toArray,args:=a2.toArray++(⟨I⟩:Array aO).map (ev ⟨n,Dl,[],none⟩ σ)}) w:=by
                      simp [execOp,resolve,ah,kD]
                     show pB _ _ _ _ _ _ _ (jY P (Oper.semAt (fe none).round _ _) w);rw [mO,Oper.semAt_none,de,aC];simp only [Oper.uponIn_defer];have aA:({(act ⟨n,Dl,[],none⟩ σ) with defers:= {target:=Target.fn (.func f) c2.toArray,args:=a2.toArray++(⟨I⟩:Array aO).map (ev ⟨n,Dl,[],none⟩ σ)} ::(act ⟨n,Dl,[],none⟩ σ).defers} :Act)=act ⟨n,{target:= .fn (.func f) c2.toArray,args:=a2.toArray++(⟨I⟩:Array aO).map (ev ⟨n,Dl,[],none⟩ σ)} ::Dl,[],none⟩ σ:=rfl;rw [aA,eC];refine s2 T r w _ _ none Q hT E (o3 V C<|iH r) ⟨⟨_,_,_,ff ha (ff ax ay),U,by simp⟩,J⟩ M fun ao ap aq aj am al ak=>L ao ap aq aj am al ak
                   · cases A
                 · split at A
                   · cases A
                   · split at A
                     · rename_i aw _;cases hle:aZ h.nx aw.nx
                       · rw [hle] at A; cases A
                       · rw [hle] at A; cases A
                     · cases A
           · cases he
         · cases he
       · cases he
     · cases he
   · rename_i ai;split at he
     · rename_i av V;obtain ⟨Z,s2⟩:=qy ad ae ac ag he;refine ⟨Z,fun T r w σ Dl rr Q hT E C J M L=> ?_⟩;show wpListIn _ _ _ _ _ _ _ _;unfold wpListIn;rw [if_neg (by rw [Au (N:=⟨n,Dl,[],rr⟩) ai C]; simp)];refine ⟨fun f _=>ka _ f,?_⟩;rw [eC];exact s2 T r w _ Dl rr Q hT E (o3 V C<|iH r) J M L
     · cases he
   · cases he
end
end Go.Hb
namespace Go.Hb
section
variable {P:an} {G:Nat} {X:Xt} {ih:Tk→Rs} {n:Nat} {r:Rn} {T:Nat} {h:Hp} {w:ah}
theorem HR.loop (hr:HR P G r T h w) {l:Nat} {st:LoopState} {E:Option bz} {fr:Tr AV} {ps:List Nat} {aE body:bz} {D:Nat} (O:h.t.get l=some (.loop st E n fr ps aE body D)):
 ∃ q fn A C,r l=some q∧w.heap[q.aq]? =some (.loop {state:=st,pending:=E,fn:=fn,tmps:=A,params:=ps.toArray,assign:=aE,body:=body,defers:=C})∧(∃ x,r D=some x∧x.aq=C)∧A.size=n∧∀ i,i < n→den r (c7 fr i)=A[i]? :=by
 obtain ⟨q,U,fn,A,C,I,J,L,M⟩:=hr.live l _ O;exact ⟨q,fn,A,C,U,I,J,L,M⟩
theorem HR.xm (hr:HR P G r T h w) {l:Nat} {q:Loc} {st st':LoopState} {E pe':Option bz} {fr:Tr AV} {ps:List Nat} {aE body:bz} {D fn C:Nat} {A:Array ag} (O:h.t.get l=some (.loop st E n fr ps aE body D)) (J:aZ G l=true) (hb:av l bZ=true) (Z:r l=some q)
 (hw:w.heap[q.aq]? =some (.loop {state:=st,pending:=E,fn:=fn,tmps:=A,params:=ps.toArray,assign:=aE,body:=body,defers:=C})) (I:∃ x,r D=some x∧x.aq=C) (aa:A.size=n) (L:∀ i,i < n→den r (c7 fr i)=A[i]?):
 St P G T r h w r ⟨h.t.set l (.loop st' pe' n fr ps aE body D),h.nx⟩ (w.putObj q.aq<|.loop {state:=st',pending:=pe',fn:=fn,tmps:=A,params:=ps.toArray,assign:=aE,body:=body,defers:=C}):=by
 have V:=(bJ.1 hw).1;refine hr.lj O hb Z (bH J) ?_ ⟨U,U,by simp [DU],fun k _ M=>jZ M⟩;rw [nS V];exact ⟨fn,A,C,U,I,aa,L⟩
theorem Cd {σ:Nat→ag} :∀ {ps:List Nat} {args:List AV} {L:List ag} {fr A:Tr AV},nq n ps args fr=some A→dX r n fr σ→ax r args=some L→L.length=ps.length∧dX r n A ((ps.zip L).foldl (fun s p=>aY s p.1 p.2) σ)
 | [],[],L,fr,A,hs,hf,hd=>by
   simp only [nq,bp] at hs;subst hs;rw [j9 hd]; exact ⟨rfl,hf⟩
 | [],_::_,_,_,_,hs,_,_=>by simp [nq] at hs
 | _::_,[],_,_,_,hs,_,_=>by simp [nq] at hs
 | p::ps,v::vs,L,fr,A,hs,hf,hd=>by
   simp only [nq] at hs;split at hs
   · rename_i U E;obtain ⟨u,us,rfl,I,J⟩:=dP hd;have C:=o3 E hf I;simp only [cz] at C;obtain ⟨M,O⟩:=Cd hs C J;exact ⟨by simp [M],O⟩
   · cases hs
theorem E0 (N:Fm) (l:List (Tmp×ag)) (σ:Nat→ag):l.foldl (fun t p=>t.setIfInBounds p.1 p.2) (act N σ).tmps=(act N<|l.foldl (fun s p=>aY s p.1 p.2) σ).tmps:=uK N l σ
theorem EZ {A:Array ag} {N:Fm} (C:A.size=N.n):A=(act N fun i=>A.getD i undef).tmps:=by
 apply Array.ext_getElem?;intro i;rw [ja];by_cases hi:i < N.n
 · rw [if_pos hi,iW,nF ab]; rfl
 · rw [if_neg hi,Array.getElem?_eq_none ab]
theorem Gh {c:Bool} {p:Rs} {v:AV} {h:Hp} (A:cond c p .no= .rv v h):c=true∧p= .rv v h:=by
 cases c
 · cases A
 · exact ⟨U,A⟩
theorem Nx (al:Good P G ih) {l:Nat} {args:List AV} {I:Hp} {v:AV} (A:qR G ih l args h= .rv v I):uI P G l args h v I:=by
 unfold qR at A;split at A
 · rename_i bm n fr ps aE body d aT;split at A
   · rename_i aD aW;split at A
     · rename_i aF ak aJ;have s1:=al<|.cd (some l) n aE aD [] h;rw [aJ] at s1;obtain ⟨a4,s1⟩:=s1;split at A
       · rename_i ax m1 aC a5 aA aB d1 am;replace A:=Gh A; obtain ⟨E,A⟩:=A;simp only [bf] at E;split at A
         · rename_i e bh J aK;have s2:=al<|.cd (some l) n body aF [] ⟨ak.t.set l (.loop .busy ax m1 aC a5 aA aB d1),ak.nx⟩;rw [aK] at s2;obtain ⟨aw,s2⟩:=s2;simp only at aw;split at A
           · rename_i bn av aj ay ae ah d2 an;have key:∀ (jump:Option bz) (st:LoopState),jump=z8 e→st=(if jump.isNone then .ready else .done)→v= .bool jump.isNone→I=⟨J.t.set l (.loop st jump av aj ay ae ah d2),J.nx⟩→uI P G l args h v I:=by
              intro jump st aa bD a3 aS;subst a3 aS;refine ⟨bS a4 aw,fun T r w L q hT hr aL ac=> ?_⟩;simp only at hT;obtain ⟨q',fn,C,bq,ao,hw,bi,aZ,aP⟩:=hr.loop aT;rw [ac] at ao; cases ao;have aX:=Cd (σ:=fun i=>C.getD i undef) aW (fun i hi=>by
               show den r (c7 fr i)=some (C.getD i undef);rw [aP i hi,iW,nF ab]; rfl) aL
              obtain ⟨hlen,aN⟩:=aX;have aV:=run_yield (P:=P) (args:=L.toArray) hw<|by simpa using hlen
              refine ⟨_,_,_,_,aV,roundIn_of_wpIn (F:=eA) trivial ?_⟩;have a2:((ps.toArray.zip L.toArray).foldl (fun tmps (p:Tmp×ag)=>tmps.setIfInBounds p.1 p.2) C)=(act ⟨n,[],[],some q.aq⟩<|(ps.zip L).foldl (fun s p=>aY s p.1 p.2) fun i=>C.getD i undef).tmps:=by
               rw [← tS,Array.toList_zip];simp only [];rw [← E0 ⟨n,[],[],some q.aq⟩];rw [← EZ (N:=⟨n,[],[],some q.aq⟩) aZ]
              have ai:({tmps:=((ps.toArray.zip L.toArray).foldl (fun tmps (p:Tmp×ag)=>tmps.setIfInBounds p.1 p.2) C),defers:= []} :Act)=act ⟨n,[],[],some q.aq⟩ ((ps.zip L).foldl (fun s p=>aY s p.1 p.2) fun i=>C.getD i undef):=by rw [a2]; rfl
              simp only at ai ⊢;rw [ai];refine s1 T r w _ [] (some q.aq) _ ab hr aN trivial ⟨q,ac,U⟩ fun a6 bw bb ad O aO aM=> ?_;have aI:ad= []:=by cases ad; rfl; exact aM.elim
              subst aI;obtain ⟨bo,bd,bu,br,M,ar,aG,a0,aQ⟩:=O.hr.loop am;have :=O.le _ _ ac;rw [M] at this; cases this;have az:=O.hr.xm (st':= .busy) (pe':=ax) am E.1 E.2 M ar aG a0 aQ;refine ⟨_,run_beginRound ar U,?_⟩;refine s2 T a6 _ bb [] (some q.aq) _ ab az.hr aO trivial ⟨q,M,U⟩ fun a7 ba bx bc V bl bj=> ?_;obtain ⟨bp,bg,bv,bt,ap,au,aH,a1,aR⟩:=V.hr.loop an;have :=V.le _ _ M;rw [ap] at this; cases this;have a8:=V.hr.xm (st':=st) (pe':=jump) an E.1 E.2 ap au aH a1 aR;have Z:=run_endRound (P:=P) jump au;simp only at Z;rw [← bD] at Z;have a9:=St.trans (St.trans (St.trans O az) V) a8;have fin:∃ v w',(Instr.endRound q.aq jump).run P ba= .ok v w'∧∃ u r',(Ending.returned v)= .returned u∧den r' (.bool jump.isNone)=some u∧St P G T r h w r' ⟨J.t.set l (.loop st jump av aj ay ae ah d2),J.nx⟩ w':=
               ⟨_,_,Z,_,a7,rfl,rfl,a9⟩
              cases e with
              | bF=>subst aa; exact fin
              | ret=>subst aa; exact fin
              | ext i=>subst aa; exact fin
             split at A
             · cases A;exact key none .ready U U U U
             · rename_i aU;cases A;cases e with
               | bF=>exact absurd rfl aU
               | ret=>exact key (some .ret) .done rfl rfl rfl rfl
               | ext i=>exact key (some<|.exit i) .done rfl rfl rfl rfl
           · cases A
         · cases A
       · cases A
     · cases A
   · cases A
 · cases A
end
end Go.Hb
namespace Go.Hb
section
variable {P:an} {G:Nat} {X:Xt} {ih:Tk→Rs} {n:Nat} {r:Rn} {T:Nat} {h:Hp} {w:ah}
theorem Gg {c:Bool} {p:Rs} {e:EX} {fr:Tr AV} {D:List AD} {h:Hp} (A:cond c p .no= .cd e fr D h):c=true∧p= .cd e fr D h:=by
 cases c
 · cases A
 · exact ⟨U,A⟩
theorem zP (ak:Good P G ih) {rd:Option Nat} {fr L:Tr AV} {D J:List AD} {l:Nat} {A:Hp} {e:EX} (he:om G ih rd n fr D l h= .cd e L J A):h.nx≤A.nx∧
 ∀ (T:Nat) (r:Rn) (w:ah) (σ:Nat→ag) (Dl:List Deferred) (rr:Option Nat) (Q:ba→Act→ah→Prop) (q:Loc) (u:ag),A.nx≤T→HR P G r T h w→r l=some q→dX r n fr σ→jJ r D Dl→qD r rd rr→
   (∀ (r':Rn) (w':ah) (σ':Nat→ag) (I:List Deferred),St P G T r h w r' A w'→dX r' n L σ'→jJ r' J I→Q (jK e) (act ⟨n,I,[],rr⟩ σ') w')→rangePost (fe rr) 0 P q.aq Q (act ⟨n,Dl,[],rr⟩ σ) (.returned u) w:=by
 unfold om at he;split at he
 · rename_i st C m M ps aE body d ac;have key:cond (aZ G l && av l bZ) (match C with
    | none=>Rs.cd .bF fr D ⟨h.t.set l (.loop .exhausted C m M ps aE body d),h.nx⟩
    | some c=>ih (.cd rd n c fr D ⟨h.t.set l (.loop .exhausted C m M ps aE body d),h.nx⟩)) .no= .cd e L J A→st≠.busy→h.nx≤A.nx∧
   ∀ (T:Nat) (r:Rn) (w:ah) (σ:Nat→ag) (Dl:List Deferred) (rr:Option Nat) (Q:ba→Act→ah→Prop) (q:Loc) (u:ag),A.nx≤T→HR P G r T h w→r l=some q→dX r n fr σ→jJ r D Dl→qD r rd rr→
     (∀ (r':Rn) (w':ah) (σ':Nat→ag) (I:List Deferred),St P G T r h w r' A w'→dX r' n L σ'→jJ r' J I→Q (jK e) (act ⟨n,I,[],rr⟩ σ') w')→rangePost (fe rr) 0 P q.aq Q (act ⟨n,Dl,[],rr⟩ σ) (.returned u) w:=by
     intro he bD;obtain ⟨U,he⟩:=Gg he;simp only [bf] at U;have run:∀ (r:Rn) (w:ah) (T:Nat) (q:Loc),HR P G r T h w→r l=some q→∃ w',(Instr.endLoop q.aq).run P w= .ok C w'∧St P G T r h w r ⟨h.t.set l (.loop .exhausted C m M ps aE body d),h.nx⟩ w':=by
      intro r w T q hr E;obtain ⟨q',fn,aA,az,ad,hw,aj,ap,an⟩:=hr.loop ac;rw [E] at ad; cases ad;exact ⟨_,run_endLoop (P:=P) hw bD,hr.xm (st':= .exhausted) (pe':=C) ac U.1 U.2 E hw aj ap an⟩
     cases C with
     | none=>
       cases he;refine ⟨aT _,fun T r w σ Dl rr Q q u hT hr E Z V ae aa=> ?_⟩;obtain ⟨w',ab,O⟩:=run r w T q hr E;exact ⟨none,w',ab,aa r w' σ Dl O Z V⟩
     | some c=>
       simp only at he;have s1:=ak<|.cd rd n c fr D ⟨h.t.set l (.loop .exhausted (some c) m M ps aE body d),h.nx⟩;rw [he] at s1;obtain ⟨ar,s1⟩:=s1;refine ⟨ar,fun T r w σ Dl rr Q q u hT hr E Z V ae aa=> ?_⟩;obtain ⟨w',ab,O⟩:=run r w T q hr E;exact ⟨some c,w',ab,s1 T r w' σ Dl rr Q hT O.hr Z V ae fun au ax ay ai aw am al=>aa au ax ay ai (O.trans aw) am al⟩
   split at he
   · cases he
   · rename_i ao;exact key he ao
 · cases he
theorem KL (ad:Good P G ih) (aL:fW P) (aM:∀ f args h v ac,ih (.cl f args h)= .rv v ac→∃ fn c,P.funcs[f]? =some fn∧fn.body=some c) {rd:Option Nat} {g:aO} {ps:List Nat} {aE body:bz} {fr aJ:Tr AV} {D aI:List AD} {ac:Hp} {e:EX} (he:oW ih G rd n g ps aE body fr D h= .cd e aJ aI ac):
 dt P G rd n (fun rr Q a w=>(Code.rangeFunc g ⟨ps⟩ aE body).wpIn (fe rr) 0 P Q a w) fr D h e aJ aI ac:=by
 unfold oW at he;split at he
 · rename_i f a c aN;split at he
   · split at he
     · rename_i aK aP;split at he
       · rename_i ak V;split at he
         · rename_i v aW O;have s1:=ad<|.cl f (a++(.gn aK.nx::c)) ak;rw [O] at s1;obtain ⟨m1,s1⟩:=s1;obtain ⟨a6,s2⟩:=zP ad he;have bd:=kh aP;have a5:=kh V;obtain ⟨aj,ai,ax,an⟩:=aM _ _ _ _ _ O;have ao:=aL f aj ai ax an;refine ⟨ab,fun T r w σ Dl rr Q hT hr L ar ae ay=> ?_⟩;have a0:rr=none:=by
            cases rr with
            | none=>rfl
            | some k=>exact ae.elim
           subst a0;refine wpIn_rangeFunc ?_;intro fn _;have J:=qw (N:=⟨n,Dl,[],none⟩) hr.fu L aN;obtain ⟨A,c',ha,ap,J⟩:=lT J;obtain ⟨bj,aQ,aB⟩:=hr.cQ aP ab 0 (w':=w.alloc<|.deferred<|some []) rfl rfl rfl fun r' _ _=>rfl;have a1:(w.alloc<|.deferred<|some []).heap.size=w.heap.size+1:=World.size_alloc _ _;obtain ⟨aa,M,E⟩:=aB.hr.cQ V ab 0 (w':=(w.alloc<|.deferred<|some []).alloc<|.loop {state:= .ready,pending:=none,fn:=fn,tmps:=(act ⟨n,Dl,[],none⟩ σ).tmps,params:=⟨ps⟩,assign:=aE,body:=body,defers:=w.heap.size}) rfl rfl rfl fun r' hle _=>by
            refine ⟨fn,(act ⟨n,Dl,[],none⟩ σ).tmps,w.heap.size,U,⟨_,hle _ _ aQ,U⟩,by simp [act],fun i hi=> ?_⟩;rw [ja,if_pos hi];exact kQ hle<|kQ aB.le<|L i hi
           have aC:=aB.trans E;rw [a1] at M;have al:=ff (ic aC.le ha)<|dK (show den aa (.gn aK.nx)=some (.func (.yield<|w.heap.size+1) #[] #[]) from by simp only [den,M])<|ic aC.le ap;have az:=s1 T aa _ _ ab E.hr al;refine ⟨w.heap.size+1,[{target:= .collected w.heap.size,args:= #[]}],((w.alloc<|.deferred<|some []).alloc<|.loop {state:= .ready,pending:=none,fn:=fn,tmps:=(act ⟨n,Dl,[],none⟩ σ).tmps,params:=⟨ps⟩,assign:=aE,body:=body,defers:=w.heap.size}),{target:= .fn (.func f) c'.toArray,args:=A.toArray++ #[.func (.yield<|w.heap.size+1) #[] #[]]},((w.alloc<|.deferred<|some []).alloc<|.loop {state:= .ready,pending:=none,fn:=fn,tmps:=(act ⟨n,Dl,[],none⟩ σ).tmps,params:=⟨ps⟩,assign:=aE,body:=body,defers:=w.heap.size}),f,(A++(.func (.yield<|w.heap.size+1) #[] #[]::c')).toArray,_,?_,?_,fun _ _=>trivial,?_,fun h0=>(by cases h0),callsIn_wide.2<|gO az ?_⟩
           · exact run_enterLoop_outer _ _ _ _ _
           · have av:(act ⟨n,Dl,[],none⟩ σ).eval g= .func (.func f) A.toArray c'.toArray:=by rw [de]; exact J
             simp only [resolve,av];simp [go_sem]
           · have am:A.toArray++ #[.func (.yield<|w.heap.size+1) #[] #[]]++c'.toArray=(A++(.func (.yield<|w.heap.size+1) #[] #[]::c')).toArray:=by simp
             have :=ao (A++(.func (.yield<|w.heap.size+1) #[] #[]::c')).toArray<|(w.alloc<|.deferred<|some []).alloc<|.loop {state:= .ready,pending:=none,fn:=fn,tmps:=(act ⟨n,Dl,[],none⟩ σ).tmps,params:=⟨ps⟩,assign:=aE,body:=body,defers:=w.heap.size};simp only [invoke,am];exact this
           · rintro aU aF ⟨u,rfl,ag,_,I⟩;have ky:=aC.trans I;have hm:ag h.nx=some ⟨w.heap.size,0,0⟩:=I.le _ _<|E.le _ _ aQ;exact s2 T ag aF σ ({target:= .collected w.heap.size,args:= #[]} ::Dl) none Q ⟨w.heap.size+1,0,0⟩ u hT I.hr (I.le _ _ M) (L.le ky.le) ⟨⟨_,hm,U⟩,mJ ky.le ar⟩ trivial fun aA aG aH ah aD aw au=>ay aA aG aH ah (ky.trans aD) aw au
         · cases he
       · cases he
     · cases he
   · rename_i bf;split at he
     · rename_i bl bg m0 ba bh a7 a8 d aY;split at he
       · rename_i ak V;split at he
         · rename_i v aW O;have s1:=ad<|.cl f (a++(.gn h.nx::c)) ak;rw [O] at s1;obtain ⟨m1,s1⟩:=s1;obtain ⟨a6,s2⟩:=zP ad he;have a5:=kh V;obtain ⟨aj,ai,ax,an⟩:=aM _ _ _ _ _ O;have ao:=aL f aj ai ax an;refine ⟨ab,fun T r w σ Dl rr Q hT hr L ar ae ay=> ?_⟩;obtain ⟨aT,rfl⟩:∃ aT,rr=some aT:=by
            cases rr with
            | none=>exact ae.elim
            | some k=>exact ⟨k,rfl⟩
           obtain ⟨C,aR,aZ⟩:=ae;obtain ⟨bi,a9,bm,Z,aS,a2,aX,bc,bb⟩:=hr.loop aY;rw [aR] at aS; cases aS;subst aZ;refine wpIn_rangeFunc ?_;intro fn _;have J:=qw (N:=⟨n,Dl,[],some C.aq⟩) hr.fu L aN;obtain ⟨A,c',ha,ap,J⟩:=lT J;obtain ⟨aa,M,E⟩:=hr.cQ V ab 0 (w':=w.alloc<|.loop {state:= .ready,pending:=none,fn:=fn,tmps:=(act ⟨n,Dl,[],some C.aq⟩ σ).tmps,params:=⟨ps⟩,assign:=aE,body:=body,defers:=Z}) rfl rfl rfl fun r' hle _=>by
            obtain ⟨x,a3,a4⟩:=aX;refine ⟨fn,(act ⟨n,Dl,[],some C.aq⟩ σ).tmps,Z,U,⟨x,hle _ _ a3,a4⟩,by simp [act],fun i hi=> ?_⟩;rw [ja,if_pos hi];exact kQ hle<|L i hi
           have al:=ff (ic E.le ha)<|dK (show den aa (.gn h.nx)=some (.func (.yield w.heap.size) #[] #[]) from by simp only [den,M])<|ic E.le ap;have az:=s1 T aa _ _ ab E.hr al;refine ⟨w.heap.size,[],(w.alloc<|.loop {state:= .ready,pending:=none,fn:=fn,tmps:=(act ⟨n,Dl,[],some C.aq⟩ σ).tmps,params:=⟨ps⟩,assign:=aE,body:=body,defers:=Z}),{target:= .fn (.func f) c'.toArray,args:=A.toArray++ #[.func (.yield w.heap.size) #[] #[]]},(w.alloc<|.loop {state:= .ready,pending:=none,fn:=fn,tmps:=(act ⟨n,Dl,[],some C.aq⟩ σ).tmps,params:=⟨ps⟩,assign:=aE,body:=body,defers:=Z}),f,(A++(.func (.yield w.heap.size) #[] #[]::c')).toArray,_,?_,?_,fun aV _=>ka _ aV,?_,fun h0=>(by cases h0),sc<|gO az ?_⟩
           · exact run_enterLoop_inner a2 _ _ _ _ _
           · have av:(act ⟨n,Dl,[],some C.aq⟩ σ).eval g= .func (.func f) A.toArray c'.toArray:=by rw [de]; exact J
             simp only [resolve,av];simp [go_sem]
           · have am:A.toArray++ #[.func (.yield w.heap.size) #[] #[]]++c'.toArray=(A++(.func (.yield w.heap.size) #[] #[]::c')).toArray:=by simp
             have :=ao (A++(.func (.yield w.heap.size) #[] #[]::c')).toArray<|w.alloc<|.loop {state:= .ready,pending:=none,fn:=fn,tmps:=(act ⟨n,Dl,[],some C.aq⟩ σ).tmps,params:=⟨ps⟩,assign:=aE,body:=body,defers:=Z};simp only [invoke,am];exact this
           · rintro aU aF ⟨u,rfl,ag,_,I⟩;have ky:=E.trans I;exact s2 T ag aF σ _ (some C.aq) Q ⟨w.heap.size,0,0⟩ u hT I.hr (I.le _ _ M) (L.le ky.le) (mJ ky.le ar) ⟨C,ky.le _ _ aR,U⟩ fun aA aG aH ah aD aw au=>ay aA aG aH ah (ky.trans aD) aw au
         · cases he
       · cases he
     · cases he
 · cases he
theorem wZ {N:Fm} {σ:Nat→ag} (hr:HR P G r T h w) {fr:Tr AV} (J:dX r N.n fr σ):∀ {l:List ResultVar} {vs:List AV},iR P N.n fr h l=some vs→∃ us,ax r vs=some us∧(l.mapM<|nk (act N σ).tmps).run P w= .ok us w
 | [],vs,A=>by
   simp only [iR,bp] at A;subst A;exact ⟨[],by simp [ax],by simp⟩
 | .tmp t::l,vs,A=>by
   simp only [iR] at A;split at A
   · rename_i ad E;replace A:=aU A; obtain ⟨C,A⟩:=A;cases A;obtain ⟨us,L,M⟩:=wZ hr J E;have O:=J t<|cj.1 C;have V:=kq (P:=P) (w:=w)<|tk (P:=P) (N:=N) (σ:=σ) (w:=w) (t:=t);have I:ev N σ (.tmp t)=σ t:=by simp only [ev,C,cond_true]
     rw [I] at V;exact ⟨σ t::us,dK O L,by simp [Eh,V,M]⟩
   · cases A
 | .cell a t::l,vs,A=>by
   simp only [iR] at A;split at A
   · rename_i ad E;replace A:=aU A; obtain ⟨C,A⟩:=A;split at A
     · rename_i v il;cases A;obtain ⟨us,L,M⟩:=wZ hr J E;have O:=J a<|cj.1 C;have I:ev N σ (.tmp a)=σ a:=by simp only [ev,C,cond_true]
       obtain ⟨b,off,u,Z,hu,aa⟩:=AT hr il O;have ab:lM P N σ w (.cell a t) u:=by
        rcases aa with ⟨ha,U⟩ | ⟨m,cs,ha,rfl,E,U⟩
        · exact jr (I.trans Z) ha U
        · exact nj (I.trans Z) ha E U
       have ac:=kq ab;exact ⟨u::us,dK hu L,by simp [Eh,ac,M]⟩
     · cases A
   · cases A
theorem xd {N:Fm} {σ:Nat→ag} {fn:Func} (hr:HR P G r T h w) {fr:Tr AV} (J:dX r N.n fr σ) {vs:List AV} (O:iR P N.n fr h fn.results.toList=some vs):∃ u,den r (ni vs)=some u∧(results fn (act N σ).tmps).run P w= .ok u w:=by
 obtain ⟨us,A,I⟩:=wZ hr J O;have V:(results fn (act N σ).tmps)=(do let vs ← fn.results.mapM (nk (act N σ).tmps); pure (if h:vs.size=1 then vs[0] else .tuple vs)):=rfl;have E:=cZ A;have C:(fn.results.mapM<|nk (act N σ).tmps).run P w= .ok us.toArray w:=by
  have :fn.results=fn.results.toList.toArray:=by simp
  rw [this,List.mapM_toArray];simp [I]
 rw [V];unfold ni;split
 · obtain ⟨u,rfl⟩:=re.1 (show us.length=1 from E);exact ⟨u,eD A,by simp [C]⟩
 · rename_i M;refine ⟨.tuple us.toArray,by simp only [den,A],?_⟩;have L:us.length≠1:=fun e=>by
    rw [E] at e;obtain ⟨v,rfl⟩:=re.1 e;exact M v U
   simp [C,L]
end
end Go.Hb
namespace Go.Hb
section
variable {P:an} {G:Nat} {X:Xt} {ih:Tk→Rs} {n:Nat} {r:Rn} {T:Nat} {h:Hp} {w:ah}
theorem Ap:∀ (l:List AV) (k:Nat) (fr:Tr AV) (i:Nat),k+l.length≤1048574→(iL k l fr).get i=if k≤i∧i < k+l.length then l[i - k]? else fr.get i
 | [],k,fr,i,_=>by rw [iL,if_neg (fun h=>by have :=h.1; have :=h.2; simp only [fk] at this; omega)]
 | v::l,k,fr,i,h=>by
   simp only [bA] at h;rw [iL,Ap l (k+1) _ i ab,Tr.lW _ _ _ _ (cj.2 (show k < 1048574 by omega))];by_cases C:k+1≤i∧i < k+1 +l.length
   · rw [if_pos C,if_pos (by simp only [bA]; omega)];obtain ⟨m,hm⟩:∃ m,i - k=m+1:=⟨i - k - 1,ab⟩
     rw [hm,gR,show i - (k+1)=m from by omega]
   · rw [if_neg C];by_cases A:i=k
     · rw [if_pos A,if_pos (by simp only [bA]; omega),A]; simp
     · rw [if_neg A,if_neg (by simp only [bA]; omega)]
theorem vB {args:List AV} {L:List ag} (C:ax r args=some L) (hb:aZ args.length n=true) (hn:av n bZ=true):dX r n (iL 0 args .nil) (dk L):=by
 have hb:=bH hb;have hn:n < 1048574:=cj.1 hn;have J:=cZ C;intro i hi;simp only [c7,Ap args 0 .nil i ab,dk,pG,true_and,cr,Nat.sub_zero];by_cases A:i < args.length
 · rw [if_pos A,bR A];obtain ⟨u,E,I⟩:=oa C<|bR A;simp only [I,cn,E,gV]
 · rw [if_neg A,Tr.get_nil];simp only [iH,cn];rw [nU ab]; rfl
theorem zf {f:FuncId} {args:Array ag} {u:FrameMode} {R A:Ending→FrameMode→ah→Prop} (C:CallsDIn eA 0 P f args u w R) (hr:∀ e u w,R e u w→A e u w):CallsDIn eA 0 P f args u w A:=
 ⟨C.1,fun c cs hu E=>let ⟨e,u',w',fr,h1,h2⟩:=C.2 c cs hu E; ⟨e,u',w',fr,hr _ _ _ h1,h2⟩⟩
theorem FQ {f:FuncId} {fn:Func} {id N d:Nat} {ty:ak} {pos :String} {af:Array bM} {rest:List ar} {y:bz} {args:List ag} {R:ah→Prop}
 (I:P.funcs[f]? =some fn) (hb:fn.body=some (.seq (.region id ⟨⟨some d,.call ⟨.builtin .recover,⟨[]⟩,⟨[]⟩⟩,ty,pos,af,none⟩::rest⟩ false) y)) (ac:fn.ntmps=N) (hn:aZ args.length N=true)
 (h:wpListIn (fe none) 0 P (⟨some d,.call ⟨.builtin .recover,⟨[]⟩,⟨[]⟩⟩,ty,pos,af,none⟩::rest).toArray (Exit.then (y.wpIn (fe none) 0 P fun e a w=>(e= .normal∨e= .ret)∧a.defers= []∧∃ v,(results fn a.tmps).run P w= .ok v w∧R w) fun _ _ _=>False) rest (act ⟨N,[],[],none⟩<|aY (dk args) d .nilIface) w):
 CallsDIn eA 0 P f args.toArray .returning w fun e au w'=> ∃ v,e= .returned v∧au= .returning∧R w':=by
 subst ac;refine ⟨trivial,fun A cs hu _=> ?_⟩
 let b:Frame:= {(default:Frame) with fn:=f,kind:= .deferred}
 have ad:Frame.enter P f args.toArray .deferred=b.at (act ⟨fn.ntmps,[],[],none⟩<|dk args) [.code (.seq (.region id ⟨⟨some d,.call ⟨.builtin .recover,⟨[]⟩,⟨[]⟩⟩,ty,pos,af,none⟩::rest⟩ false) y)]:=by
  rw [← nr fn args [] hn];simp [Frame.enter,Frame.at,I,hb,b]
 have ap:lH (⟨⟨some d,.call ⟨.builtin .recover,⟨[]⟩,⟨[]⟩⟩,ty,pos,af,none⟩::rest⟩:Array ar).size=0::(mu 1 rest.length):=by
  rw [ej,bA,List.range_eq_range',List.range'_succ]
 have aj:=wpOpsIn_eq_wpListIn (F:=fe none) (n:=0) (P:=P) (ops:=(⟨some d,.call ⟨.builtin .recover,⟨[]⟩,⟨[]⟩⟩,ty,pos,af,none⟩::rest).toArray) (Q:=Exit.then (y.wpIn (fe none) 0 P fun e a w=>(e= .normal∨e= .ret)∧a.defers= []∧∃ v,(results fn a.tmps).run P w= .ok v w∧R w) fun _ _ _=>False) rest 1 fun j=>by simp [EA]
 rw [← aj] at h;obtain ⟨e,av,w',V,C⟩:=wp_opsIn _ _ _ h b [.code y] (A::cs) rfl trivial (room_wide _);have C:=(arrivesIn_iff (b:=b) (fun _ _=>stepsIn_wide) rfl).1 C;have an:step P (lone (b.at (act ⟨fn.ntmps,[],[],none⟩<|dk args) (.inRegion (⟨some d,.call ⟨.builtin .recover,⟨[]⟩,⟨[]⟩⟩,ty,pos,af,none⟩::rest).toArray (0::mu 1 rest.length)::[.code y])) (A::cs) w)=
  .next (lone (b.at (act ⟨fn.ntmps,[],[],none⟩<|aY (dk args) d .nilIface) (.inRegion (⟨some d,.call ⟨.builtin .recover,⟨[]⟩,⟨[]⟩⟩,ty,pos,af,none⟩::rest).toArray (mu 1 rest.length)::[.code y])) (A::cs) w):=by
  have ai:=stepG_op (P:=P) (b:=b) (a:=act ⟨fn.ntmps,[],[],none⟩<|dk args) (k:= [.code y]) (cs:=A::cs) (w:=w) (ops:=(⟨some d,.call ⟨.builtin .recover,⟨[]⟩,⟨[]⟩⟩,ty,pos,af,none⟩::rest).toArray) (i:=0) (rest:=mu 1 rest.length) (o:=⟨some d,.call ⟨.builtin .recover,⟨[]⟩,⟨[]⟩⟩,ty,pos,af,none⟩) rfl (fj _ rfl _);have aq:(execOp (act ⟨fn.ntmps,[],[],none⟩<|dk args).eval ⟨some d,.call ⟨.builtin .recover,⟨[]⟩,⟨[]⟩⟩,ty,pos,af,none⟩).run P w= .ok .recover w:=by
   rw [de];simp [execOp,resolve,invoke,builtin]
  have aa:=tryRecover_deferred (fr:=b.at (act ⟨fn.ntmps,[],[],none⟩<|dk args) (.inRegion (⟨some d,.call ⟨.builtin .recover,⟨[]⟩,⟨[]⟩⟩,ty,pos,af,none⟩::rest).toArray (0::mu 1 rest.length)::[.code y])) rfl (A::cs);have al:recoverD (A::cs)=none:=by simp [recoverD,hu]
  have ae:(b.at (act ⟨fn.ntmps,[],[],none⟩<|dk args) (.inRegion (⟨some d,.call ⟨.builtin .recover,⟨[]⟩,⟨[]⟩⟩,ty,pos,af,none⟩::rest).toArray (0::mu 1 rest.length)::[.code y])).finish .nilIface=b.at (act ⟨fn.ntmps,[],[],none⟩<|aY (dk args) d .nilIface) (.inRegion (⟨some d,.call ⟨.builtin .recover,⟨[]⟩,⟨[]⟩⟩,ty,pos,af,none⟩::rest).toArray (mu 1 rest.length)::[.code y]):=by
   rw [Frame.finish_at];have :=eC ⟨fn.ntmps,[],[],none⟩ (dk args) (some d) .nilIface;simp only [cz] at this;rw [← this]; rfl
  refine step_lone_go ?_;rw [ai,← ae];simp only [Frame.at] at aa ⊢;simp [stepG.apply,aq,aa,al]
 have L:Steps P (lone (Frame.enter P f args.toArray .deferred) (A::cs) w) (lone (b.at (act ⟨fn.ntmps,[],[],none⟩<|aY (dk args) d .nilIface) (.inRegion (⟨some d,.call ⟨.builtin .recover,⟨[]⟩,⟨[]⟩⟩,ty,pos,af,none⟩::rest).toArray (mu 1 rest.length)::[.code y])) (A::cs) w):=by
  rw [ad];refine .head step_seq<|.head step_region ?_;rw [ap];exact .one an
 cases e with
 | normal=>
   obtain ⟨aw,a2,ab,am,E⟩:=V b [] (A::cs) rfl trivial (room_wide _);have E:=(arrivesIn_iff (b:=b) (fun _ _=>stepsIn_wide) rfl).1 E;obtain ⟨lY,M,v,Z,J⟩:=am;have O:({A with mode:= .returning} :Frame)=A:=by rw [← hu]
   rcases lY with rfl | rfl
   · refine ⟨.returned v,.returning,ab,{b.at a2 [] with mode:= .returning},⟨v,U,U,J⟩,?_,U,U,U,M,fn,I,Z⟩;rw [O];exact stepsIn_wide.2<|Steps.trans L<|Steps.trans C<|Steps.trans E<|.one step_end
   · obtain ⟨todo,ao⟩:=E;refine ⟨.returned v,.returning,ab,{b.at a2 todo with mode:= .returning},⟨v,U,U,J⟩,?_,U,U,U,M,fn,I,Z⟩;rw [O];exact stepsIn_wide.2<|Steps.trans L<|Steps.trans C ao
 | _=>exact V.elim
theorem wo (O:Good P G ih) (M:fW P) (Z:∀ f args h v C,ih (.df f args h)= .rv v C→∃ fn c,P.funcs[f]? =some fn∧fn.body=some c):∀ {D:List AD} {h C:Hp},jR G ih D h=some C→h.nx≤C.nx∧∀ (T:Nat) (r:Rn) (w:ah) (Dl:List Deferred) (fn:Func) (tmps:Array ag) (R:Ending→ah→Prop),
 C.nx≤T→HR P G r T h w→jJ r D Dl→(∀ (r':Rn) (w':ah),St P G T r h w r' C w'→∃ v,(results fn tmps).run P w'= .ok v w'∧R (.returned v) w')→LeavesInM eA 0 P fn tmps R Dl .returning w
 | [],h,C,he=>by
   simp only [jR,bp] at he;subst he;refine ⟨aT _,fun T r w Dl fn tmps R hT hr A E=> ?_⟩;have :Dl= []:=by cases Dl; rfl; exact A.elim
   subst this;exact E r w<|St.refl hr
 | .mark d::D,h,C,he=>by
   simp only [jR] at he;split at he
   · rename_i ab;replace he:=aU he; obtain ⟨V,he⟩:=he;simp only [bf] at V;obtain ⟨J,s1⟩:=wo O M Z he;refine ⟨J,fun T r w Dl fn tmps R hT hr A E=> ?_⟩;cases Dl with
     | nil=>exact A.elim
     | cons x Dl=>
       obtain ⟨⟨q,ac,rfl⟩,A⟩:=A;obtain ⟨q',ad,I⟩:=hr.live d _ ab;rw [ac] at ad; cases ad;have I:w.heap[q.aq]? =some (.deferred<|some []):=I;have an:=(bJ.1 I).1;have st:St P G T r h w r ⟨h.t.set d (.kR false),h.nx⟩ (w.putObj q.aq<|.deferred none):=
        hr.lj ab V.2 ac (bH V.1) (by rw [nS an]; rfl) ⟨rfl,rfl,by simp [DU],fun k _ E=>jZ E⟩
       exact ⟨DC,.inl ⟨q.aq,_,U,run_takeDeferred I,s1 T r _ Dl fn tmps R hT st.hr A fun r' w' st'=>E r' w'<|st.trans st'⟩⟩
   · cases he
 | .fn f args::D,h,C,he=>by
   simp only [jR] at he;split at he
   · rename_i v aw aa;have L:=O<|.df f args h;rw [aa] at L;obtain ⟨ao,L⟩:=L;obtain ⟨ai,ae,am,aj⟩:=Z _ _ _ _ _ aa;have ak:=M f ai ae am aj;obtain ⟨J,s1⟩:=wo O M Z he;refine ⟨bS ao J,fun T r w Dl fn tmps R hT hr A E=> ?_⟩;cases Dl with
     | nil=>exact A.elim
     | cons x Dl=>
       obtain ⟨⟨a,cap,av,ha,rfl,al⟩,A⟩:=A;refine ⟨DC,.inr ⟨fun h0=>(by cases h0),.func f,cap,f,a.toArray,U,?_,fun _ _=>trivial,zf (L T r w a (bS J hT) hr ha) ?_⟩⟩
       · simp only [invoke,al];exact ak a.toArray w
       · rintro e ax w' ⟨v,rfl,rfl,r',st⟩;exact s1 T r' w' Dl fn tmps R hT st.hr (mJ st.le A) fun ap au ar=>E ap au<|st.trans ar
   · cases he
def uD (P:an) (G:Nat) (X:Xt) (ih:Tk→Rs):Prop := ∀ (rd:Option Nat) (n id:Nat) (ops:List ar) (fr:Tr AV) (D:List AD) (h:Hp),match rV P G X ih n ops fr D h with
 | .cd e C A E=>dt P G rd n (fun rr Q a w=>(Dv id ⟨ops⟩ true).wpIn (fe rr) 0 P Q a w) fr D h e C A E
 | .no=>True
 | _=>False
theorem dt.bind {rd:Option Nat} {W W' I:Option Nat→(ba→Act→ah→Prop)→Act→ah→Prop} {fr M O:Tr AV} {D C E:List AD} {h V Z:Hp} {J L:EX} (s1:dt P G rd n W fr D h J M C V) (s2:dt P G rd n W' M C V L O E Z)
 (ae:∀ rr Q a w,W rr (fun e a w=>e=jK J∧W' rr Q a w) a w→I rr Q a w):dt P G rd n I fr D h L O E Z:=by
 obtain ⟨ao,s1⟩:=s1;obtain ⟨ab,s2⟩:=s2;refine ⟨bS ao ab,fun T r w σ Dl rr Q hT hr ak ag aa an=>ae rr Q _ w ?_⟩;exact s1 T r w σ Dl rr _ (bS ab hT) hr ak ag aa fun ap au aw ac A al ai=>⟨U,s2 T ap au aw ac rr Q hT A.hr al ai (BQ A.le aa) fun aq av ax ad ar am aj=>an aq av ax ad (A.trans ar) am aj⟩
theorem dt.map {rd:Option Nat} {W W':Option Nat→(ba→Act→ah→Prop)→Act→ah→Prop} {fr I:Tr AV} {D A:List AD} {h J:Hp} {C E:EX} (s1:dt P G rd n W fr D h C I A J)
 (M:∀ rr Q a w,W rr (fun e a w=>e=jK C∧Q (jK E) a w) a w→W' rr Q a w):dt P G rd n W' fr D h E I A J:=by
 obtain ⟨ad,s1⟩:=s1;exact ⟨ad,fun T r w σ Dl rr Q hT hr Z O ac ab=>M rr Q _ w<|s1 T r w σ Dl rr _ hT hr Z O ac fun ae ai aj L ag aa V=>⟨U,ab ae ai aj L ag aa V⟩⟩
theorem Mg (Z:Good P G ih) (ag:fW P) (aj:∀ f args h v ae,ih (.df f args h)= .rv v ae→∃ fn c,P.funcs[f]? =some fn∧fn.body=some c) (f:Nat) (args:List AV) (h:Hp):lN P G (.cl f args h) (fi P G X ih<|.cl f args h):=by
 show lN P G (.cl f args h) (match P.funcs[f]? with
  | some fn=>match fn.body with
    | some c=>cond (aZ args.length fn.ntmps && av fn.ntmps bZ) (match ih (.cd none fn.ntmps c (iL 0 args .nil) [] h) with
      | .cd (.ext _) _ _ _=> .no
      | .cd _ fr D h=>match jR G ih D h with
        | some h=>match iR P fn.ntmps fr h fn.results.toList with
          | some vs=> .rv (ni vs) h
          | none=> .no
        | none=> .no
      | _=> .no) .no
    | none=> .no
  | none=> .no)
 split
 · rename_i fn am;split
   · rename_i c ah;cases hc:(aZ args.length fn.ntmps && av fn.ntmps bZ)
     · trivial
     · simp only [cond_true];simp only [bf] at hc;have key:∀ (e:EX) (fr:Tr AV) (D:List AD) (C A:Hp) (vs:List AV),(e= .bF∨e= .ret)→ih (.cd none fn.ntmps c (iL 0 args .nil) [] h)= .cd e fr D C→jR G ih D C=some A→iR P fn.ntmps fr A fn.results.toList=some vs→lN P G (.cl f args h) (.rv (ni vs) A):=by
        intro e fr D C A vs ak M E I;have O:=Z<|.cd none fn.ntmps c (iL 0 args .nil) [] h;rw [M] at O;obtain ⟨ao,O⟩:=O;obtain ⟨ab,s1⟩:=wo Z ag aj E;refine ⟨bS ao ab,fun T r w L hT hr aa=> ?_⟩;have hlen:=cZ aa;refine callsIn_wide.1<|callsIn_of_wp_marks (F:=eA) (n:=0) am ah trivial ?_;rw [nr fn L [] (by rw [hlen]; exact hc.1)];refine O T r w (dk L) [] none _ (bS ab hT) hr (vB aa hc.1 hc.2) trivial trivial fun ap ad ar J ac al ai=> ?_;have fin:LeavesInM eA 0 P fn (act ⟨fn.ntmps,J,[],none⟩ ar).tmps (fun e w'=> ∃ v,e= .returned v∧∃ r',den r' (ni vs)=some v∧St P G T r h w r' A w') J .returning ad:=by
         refine s1 T ap ad J fn _ _ hT ac.hr ai fun aq au V=> ?_;obtain ⟨u,hu,an⟩:=xd (N:=⟨fn.ntmps,J,[],none⟩) V.hr (al.le V.le) I;exact ⟨u,an,u,U,aq,hu,ac.trans V⟩
        rcases ak with rfl | rfl <;> exact fin
       cases M:ih (.cd none fn.ntmps c (iL 0 args .nil) [] h) with
       | no=>trivial
       | rv v C=>trivial
       | cd e fr D C=>
         cases e with
         | ext i=>trivial
         | bF=>
           simp only;cases E:jR G ih D C with
           | none=>trivial
           | some A=>
             simp only;cases I:iR P fn.ntmps fr A fn.results.toList with
             | none=>trivial
             | some vs=>exact key .bF fr D C A vs (.inl rfl) M E I
         | ret=>
           simp only;cases E:jR G ih D C with
           | none=>trivial
           | some A=>
             simp only;cases I:iR P fn.ntmps fr A fn.results.toList with
             | none=>trivial
             | some vs=>exact key .ret fr D C A vs (.inr rfl) M E I
   · trivial
 · trivial
end
end Go.Hb
namespace Go.Hb
section
variable {P:an} {G:Nat} {X:Xt} {ih:Tk→Rs} {n:Nat} {r:Rn} {T:Nat} {h:Hp} {w:ah}
theorem Mh (ac:Good P G ih) (ap:iF P G X) (ao:fW P) (ar:∀ f args h v J,ih (.cl f args h)= .rv v J→∃ fn c,P.funcs[f]? =some fn∧fn.body=some c) (f:Nat) (args:List AV) (h:Hp):lN P G (.df f args h) (fi P G X ih<|.df f args h):=by
 cases hs:fi P G X ih (.df f args h) with
 | no=>trivial
 | cd e fr D Z=>
   exfalso;simp only [fi] at hs;split at hs;rename_i fn ah;split at hs;rename_i c ad;cases hc:(aZ args.length fn.ntmps && av fn.ntmps bZ);rw [hc] at hs; cases hs;rw [hc] at hs;simp only [cond_true] at hs;split at hs;cases hs;split at hs <;> cases hs;cases hs;cases hs;cases hs
 | rv v J=>
   simp only [fi] at hs;split at hs;rename_i fn ah;split at hs;rename_i c ad;cases hc:(aZ args.length fn.ntmps && av fn.ntmps bZ);rw [hc] at hs; cases hs;rw [hc] at hs;simp only [cond_true] at hs;simp only [bf] at hc;split at hs;cases hs;rename_i e aH Z ai A;split at hs;rename_i vs aj;cases hs;split at A;rename_i id d ty pos af rest y;split at A;rename_i aG az;split at A;rename_i am aa ay;obtain ⟨aA,s1⟩:=qy ac ap ao ar ay;have s2:=ac<|.cd none fn.ntmps y am [] aa;rw [A] at s2;obtain ⟨O,s2⟩:=s2;refine ⟨bS aA O,fun T r w L hT hr I=> ?_⟩;have hlen:=cZ I;refine FQ (R:=fun w'=> ∃ r',St P G T r h w r' J w') ah ad U (by rw [hlen]; exact hc.1) ?_;have aw:=o3 az (vB I hc.1 hc.2) (show den r .eb=some .nilIface from rfl);refine s1 T r w (aY (dk L) d .nilIface) [] none _ (bS O hT) hr aw trivial trivial fun aB aC aE al ak ax au=> ?_;refine s2 T aB aC aE al none _ hT ak.hr ax au trivial fun V aD aF E C ag ae=> ?_;have ab:E= []:=by cases E; rfl; exact ae.elim
   subst ab;obtain ⟨u,hu,M⟩:=xd (N:=⟨fn.ntmps,[],[],none⟩) C.hr ag aj;have he:jK e= .normal∨jK e= .ret:=by
    cases e with
    | bF=>exact .inl rfl
    | ret=>exact .inr rfl
    | ext i=>exact (ai i rfl).elim
   exact ⟨he,U,u,M,V,ak.trans C⟩;cases A;cases A;have s2:=ac<|.cd none fn.ntmps c (iL 0 args .nil) [] h;rw [A] at s2;obtain ⟨O,s2⟩:=s2;refine ⟨O,fun T r w L hT hr I=> ?_⟩;have hlen:=cZ I;have aq:=callsDIn_of_wp (F:=eA) (n:=0) (u:= .returning) (w:=w) (args:=L.toArray) (R:=fun e w'=> ∃ v,e= .returned v∧∃ r',St P G T r h w r' J w') ah ad trivial (by
    rw [nr fn L [] (by rw [hlen]; exact hc.1)];refine s2 T r w (dk L) [] none _ hT hr (vB I hc.1 hc.2) trivial trivial fun V aD aF E C ag ae=> ?_;have ab:E= []:=by cases E; rfl; exact ae.elim
    subst ab;obtain ⟨u,hu,M⟩:=xd (N:=⟨fn.ntmps,[],[],none⟩) C.hr ag aj;cases e with
    | bF=>exact ⟨rfl,u,M,u,rfl,V,C⟩
    | ret=>exact ⟨rfl,u,M,u,rfl,V,C⟩
    | ext i=>exact (ai i rfl).elim)
   exact zf aq fun e aI w' ⟨Z,v,aa,an⟩=>⟨v,aa,Z,an⟩
   cases hs;cases hs;cases hs;cases hs
theorem x7 {c:bz} {rr:Option Nat} {Q:ba→Act→ah→Prop} {a:Act} {w:ah} (Z:c.wpIn (fe rr) 0 P (Exit.then (tK P c rr Q) Q) a w):tK P c rr Q a w:=by
 intro b k cs J hb hr;obtain ⟨e,E,I,C,A⟩:=Z b (.inLoop c::k) cs J hb hr;cases e with
 | normal=>
   obtain ⟨O,L,ab,aa,V⟩:=C b k cs J hb hr;exact ⟨O,L,ab,aa,.of_steps (StepsIn.trans A<|.one (fenced_calm hb hr U) stepR_inLoop) V⟩
 | exit id=>exact ⟨.exit id,E,I,C,.pass (x:= .inLoop c) rfl (fun _ _=> .inl<|by simp) A⟩
 | goto l=>exact ⟨.goto l,E,I,C,.pass (x:= .inLoop c) rfl (fun _ _=> .inl<|by simp) A⟩
 | ret=>exact ⟨.ret,E,I,C,.pass (x:= .inLoop c) rfl (fun _ _=> .inl<|by simp) A⟩
 | panic M=>exact ⟨.panic M,E,I,C,.pass (x:= .inLoop c) rfl (fun _ _=> .inl<|by simp) A⟩
 | outgrown=>exact ⟨.outgrown,E,I,C,.pass (x:= .inLoop c) rfl (fun _ _=> .inl<|by simp) A⟩
theorem Nd {c:bz} {rr:Option Nat} {Q:ba→Act→ah→Prop} {a:Act} {w:ah} (h:tK P c rr Q a w):(Code.loop c).wpIn (fe rr) 0 P Q a w:=by
 intro b k cs I hb hr;obtain ⟨e,A,w',E,C⟩:=h b k cs I hb hr;exact ⟨e,A,w',E,.of_steps (.one (fenced_calm hb hr U) stepR_loop) C⟩
theorem Good.mI (C:Good P G ih) {rd:Option Nat} {c:bz} {fr:Tr AV} {D:List AD} {h A:Hp} {v:AV} (E:ih (.cd rd n c fr D h)= .rv v A):False:=by
 have :=C (.cd rd n c fr D h); rw [E] at this; exact this
theorem Good.A5 (C:Good P G ih) {rd:Option Nat} {c:bz} {fr:Tr AV} {D:List AD} {h A:Hp} {v:AV} (E:ih (.lp rd n c fr D h)= .rv v A):False:=by
 have :=C (.lp rd n c fr D h); rw [E] at this; exact this
theorem Mi (A:Good P G ih) (rd:Option Nat) (n:Nat) (c:bz) (fr:Tr AV) (D:List AD) (h:Hp):lN P G (.lp rd n c fr D h) (fi P G X ih<|.lp rd n c fr D h):=by
 simp only [fi];cases hi:ih (.cd rd n c fr D h) with
 | no=>trivial
 | rv v C=>exact (A.mI hi).elim
 | cd e I E C=>
   have s1:=A<|.cd rd n c fr D h;rw [hi] at s1;cases e with
   | bF=>
     simp only;have s2:=A<|.lp rd n c I E C;cases hj:ih (.lp rd n c I E C) with
     | no=>trivial
     | rv v J=>exact (A.A5 hj).elim
     | cd M O L J=>
       rw [hj] at s2;exact dt.bind s1 s2 fun rr Q a w hw=>x7 (wpIn_mono hw fun e a w he=>by
        obtain ⟨rfl,he⟩:=he; exact he)
   | ret=>exact dt.map s1 fun rr Q a w hw=>x7<|wpIn_mono hw fun e a w he=>by obtain ⟨rfl,he⟩:=he; exact he
   | ext i=>exact dt.map s1 fun rr Q a w hw=>x7<|wpIn_mono hw fun e a w he=>by obtain ⟨rfl,he⟩:=he; exact he
theorem dt.here {rd:Option Nat} {W:Option Nat→(ba→Act→ah→Prop)→Act→ah→Prop} {fr:Tr AV} {D:List AD} {h:Hp} {e:EX} (A:∀ rr Q a w,Q (jK e) a w→W rr Q a w):dt P G rd n W fr D h e fr D h:=
 ⟨aT _,fun T r w σ Dl rr Q hT hr E C J I=>A rr Q _ w<|I r w σ Dl (St.refl hr) E C⟩
theorem sV {rd:Option Nat} {ops:List ar} :∀ {l:List ar} {fr:Tr AV} {D:List AD} {h:Hp},(∃ C A E,jU P G X ih rd n ops l fr D h= .cd .bF C A E)∨jU P G X ih rd n ops l fr D h= .no
 | [],fr,D,h=> .inl ⟨fr,D,h,rfl⟩
 | o::l,fr,D,h=>by
   simp only [jU];split
   · split
     · split
       · split
         · exact sV
         · exact .inr U
       · split
         · split
           · exact sV
           · exact .inr U
         · exact .inr U
       · exact .inr U
     · exact .inr U
   · split
     · exact sV
     · exact .inr U
   · exact .inr U
theorem KM (I:Good P G ih) {rd:Option Nat} {g:aO} {ps:List Nat} {aE body:bz} {fr:Tr AV} {D:List AD} {h E:Hp} {v:AV} (A:oW ih G rd n g ps aE body fr D h= .rv v E):False:=by
 have C:∀ {fr:Tr AV} {D:List AD} {l:Nat} {h:Hp},om G ih rd n fr D l h= .rv v E→False:=by
  intro fr D l h A;unfold om at A;split at A
  · split at A
    · cases A
    · rename_i L m J ps aE body d _ _;cases hc:(aZ G l && av l bZ)
      · rw [hc] at A; cases A
      · rw [hc] at A;simp only [cond_true] at A;split at A
        · cases A
        · exact I.mI A
  · cases A
 unfold oW at A;split at A
 · split at A
   · split at A
     · split at A
       · split at A
         · exact C A
         · cases A
       · cases A
     · cases A
   · split at A
     · split at A
       · split at A
         · exact C A
         · cases A
       · cases A
     · cases A
 · cases A
theorem Mf (A:Good P G ih) (ag:iF P G X) (ab:fW P) (ae:uD P G X ih) (ac:∀ f args h v aa,ih (.cl f args h)= .rv v aa→∃ fn c,P.funcs[f]? =some fn∧fn.body=some c) (rd:Option Nat) (n:Nat) (c:bz) (fr:Tr AV) (D:List AD) (h:Hp):lN P G (.cd rd n c fr D h) (fi P G X ih<|.cd rd n c fr D h):=by
 cases c with
 | skip =>exact dt.here fun rr Q a w V=>wpIn_skip V
 | region id ops draw=>
   obtain ⟨ops⟩:=ops;simp only [fi];cases draw with
   | true =>
     simp only [cond_true];have :=ae rd n id ops fr D h;split at this
     · rename_i he; rw [he]; exact this
     · rename_i he; rw [he]; trivial
     · exact this.elim
   | false =>
     simp only [cond_false];rcases sV (P:=P) (G:=G) (X:=X) (ih:=ih) (n:=n) (rd:=rd) (ops:=ops) (l:=ops) (fr:=fr) (D:=D) (h:=h) with ⟨al,ai,aa,he⟩ | he
     · rw [he];obtain ⟨U,s1⟩:=qy A ag ab ac he;exact ⟨U,fun T r w σ Dl rr Q hT hr E L O M=>wpIn_region_lit<|s1 T r w σ Dl rr Q hT hr E L O M⟩
     · rw [he]; trivial
 | seq a b=>
   simp only [fi];cases hi:ih (.cd rd n a fr D h) with
   | no=>trivial
   | rv v C=>exact (A.mI hi).elim
   | cd e J I C=>
     have s1:=A<|.cd rd n a fr D h;rw [hi] at s1;cases e with
     | bF=>
       simp only;have s2:=A<|.cd rd n b J I C;cases hj:ih (.cd rd n b J I C) with
       | no=>trivial
       | rv v ad=>exact (A.mI hj).elim
       | cd ak am aj ad=>
         rw [hj] at s2;exact dt.bind s1 s2 fun rr Q a w hw=>wpIn_seq<|wpIn_mono hw fun e a w he=>by obtain ⟨rfl,he⟩:=he; exact he
     | ret=>exact dt.map s1 fun rr Q a w hw=>wpIn_seq<|wpIn_mono hw fun e a w he=>by obtain ⟨rfl,he⟩:=he; exact he
     | ext i=>exact dt.map s1 fun rr Q a w hw=>wpIn_seq<|wpIn_mono hw fun e a w he=>by obtain ⟨rfl,he⟩:=he; exact he
 | cond x a b=>
   simp only [fi];split
   · rename_i Z;have s1:=A<|.cd rd n a fr D h;cases hi:ih (.cd rd n a fr D h) with
     | no=>trivial
     | rv v C=>exact (A.mI hi).elim
     | cd e J I C=>
       rw [hi] at s1;obtain ⟨U,s1⟩:=s1;exact ⟨U,fun T r w σ Dl rr Q hT hr E L O M=>wpIn_cond_true (by rw [de]; exact je<|qw (N:=⟨n,Dl,[],rr⟩) hr.fu E Z)<|s1 T r w σ Dl rr Q hT hr E L O M⟩
   · rename_i Z;have s1:=A<|.cd rd n b fr D h;cases hi:ih (.cd rd n b fr D h) with
     | no=>trivial
     | rv v C=>exact (A.mI hi).elim
     | cd e J I C=>
       rw [hi] at s1;obtain ⟨U,s1⟩:=s1;exact ⟨U,fun T r w σ Dl rr Q hT hr E L O M=>wpIn_cond_false (by rw [de]; exact je<|qw (N:=⟨n,Dl,[],rr⟩) hr.fu E Z)<|s1 T r w σ Dl rr Q hT hr E L O M⟩
   · trivial
 | block id c=>
   simp only [fi];cases hi:ih (.cd rd n c fr D h) with
   | no=>trivial
   | rv v C=>exact (A.mI hi).elim
   | cd e J I C=>
     have s1:=A<|.cd rd n c fr D h;rw [hi] at s1;cases e with
     | bF=>exact dt.map s1 fun rr Q a w hw=>wpIn_block<|wpIn_mono hw fun e a w he=>by obtain ⟨rfl,he⟩:=he; exact he
     | ret=>exact dt.map s1 fun rr Q a w hw=>wpIn_block<|wpIn_mono hw fun e a w he=>by obtain ⟨rfl,he⟩:=he; exact he
     | ext j=>
       simp only;cases hj:aQ j id
       · have ah:j≠id:=fun e=>by subst e; simp at hj
         exact dt.map s1 fun rr Q a w hw=>wpIn_block (wpIn_mono hw fun e a w he=>by
          obtain ⟨rfl,he⟩:=he;simp only [jK,DB,if_neg ah]; exact he)
       · obtain rfl :=bQ hj;exact dt.map s1 fun rr Q a w hw=>wpIn_block (wpIn_mono hw fun e a w he=>by
          obtain ⟨rfl,he⟩:=he;simp only [jK,DB,if_true]; exact he)
 | loop c=>
   simp only [fi];cases hi:ih (.lp rd n c fr D h) with
   | no=>trivial
   | rv v C=>exact (A.A5 hi).elim
   | cd e J I C=>
     have s1:=A<|.lp rd n c fr D h;rw [hi] at s1;obtain ⟨U,s1⟩:=s1;exact ⟨U,fun T r w σ Dl rr Q hT hr E L O M=>Nd<|s1 T r w σ Dl rr Q hT hr E L O M⟩
 | rangeFunc g ps aE body=>
   obtain ⟨ps⟩:=ps;simp only [fi];cases hi:oW ih G rd n g ps aE body fr D h with
   | no=>trivial
   | rv v C=>exact (KM A hi).elim
   | cd e J I C=>exact KL A ab ac hi
 | exit id=>exact dt.here fun rr Q a w V=>wpIn_exit V
 | ret=>exact dt.here fun rr Q a w V=>wpIn_ret V
 | scope c=>trivial
 | label l=>trivial
 | goto l=>trivial
 | refuse s=>trivial
theorem Mj (C:Good P G ih) (l:Nat) (args:List AV) (h:Hp):lN P G (.yl l args h) (fi P G X ih<|.yl l args h):=by
 simp only [fi];cases hi:qR G ih l args h with
 | no=>trivial
 | rv v A=>exact Nx C hi
 | cd e fr D A=>
   exfalso;unfold qR at hi;split at hi
   · split at hi
     · split at hi
       · split at hi
         · rename_i M L J O E I d1 _;cases hc:(aZ G l && av l bZ)
           · rw [hc] at hi; cases hi
           · rw [hc] at hi;simp only [cond_true] at hi;split at hi
             · split at hi
               · split at hi <;> cases hi
               · cases hi
             · cases hi
         · cases hi
       · cases hi
     · cases hi
   · cases hi
theorem HI:∀ (k:Nat),(∀ f args h v C,ik P G X k (.cl f args h)= .rv v C→∃ fn c,P.funcs[f]? =some fn∧fn.body=some c)∧(∀ f args h v C,ik P G X k (.df f args h)= .rv v C→∃ fn c,P.funcs[f]? =some fn∧fn.body=some c)
 | 0=>⟨fun f args h v C A=>(by cases A),fun f args h v C A=>by cases A⟩
 | k+1=>by
   constructor
   · intro f args h v C A;simp only [ik,fi] at A;split at A
     · rename_i fn E;split at A
       · rename_i c hb; exact ⟨fn,c,E,hb⟩
       · cases A
     · cases A
   · intro f args h v C A;simp only [ik,fi] at A;split at A
     · rename_i fn E;split at A
       · rename_i c hb; exact ⟨fn,c,E,hb⟩
       · cases A
     · cases A
theorem z7 (E:iF P G X) (C:fW P) (J:∀ ih,Good P G ih→(∀ f args h v L,ih (.cl f args h)= .rv v L→∃ fn c,P.funcs[f]? =some fn∧fn.body=some c)→uD P G X ih):∀ k,Good P G (ik P G X k)
 | 0=>fun t=>by cases t <;> trivial
 | k+1=>fun t=>by
   have A:=z7 E C J k;obtain ⟨I,M⟩:=HI (P:=P) (G:=G) (X:=X) k;cases t with
   | cd rd n c fr D h=>exact Mf A E C (J _ A I) I rd n c fr D h
   | lp rd n c fr D h=>exact Mi A rd n c fr D h
   | cl f args h=>exact Mg A C M f args h
   | yl l args h=>exact Mj A l args h
   | df f args h=>exact Mh A E C I f args h
end
end Go.Hb
namespace Go.Hb
mutual
theorem vm:∀ {a b:AV},fX a b=true→a=b
 | .bool a,.bool b,h=>by simp only [fX,beq_iff_eq] at h; rw [h]
 | .int k a,.int k' b,h=>by
   simp only [fX] at h;cases hk:aQ (dD k) (dD k')
   · rw [hk] at h; cases h
   · rw [hk] at h;simp only [cond_true,decide_eq_true_iff] at h;rw [mW hk,h]
 | .str l,.str m,h=>by simp only [fX,oo,decide_eq_true_iff] at h; rw [h]
 | .ptr b o,.ptr b' o',h=>by
   simp only [fX,bf] at h;rw [bQ h.1,bQ h.2]
 | .gG,.gG,_=>rfl
 | .sl b o n c x,.sl b' o' n' c' x',h=>by
   simp only [fX,bf,beq_iff_eq] at h;obtain ⟨⟨A,C⟩,h3,h4,h5⟩:=h;rw [bQ A,bQ C,bQ h3,bQ h4,h5]
 | .eu,.eu,_=>rfl
 | .map b,.map b',h=>by simp only [fX] at h; rw [bQ h]
 | .ki,.ki,_=>rfl
 | .fn f a c,.fn f' a' c',h=>by
   simp only [fX,bf] at h;rw [bQ h.1,pW h.2.1,pW h.2.2]
 | .gn l,.gn l',h=>by simp only [fX] at h; rw [bQ h]
 | .iP,.iP,_=>rfl
 | .im t v,.im t' v',h=>by
   simp only [fX,bf] at h;rw [bQ h.1,vm h.2]
 | .eb,.eb,_=>rfl
 | .agg l,.agg m,h=>by simp only [fX] at h; rw [pW h]
 | .bY l,.bY m,h=>by simp only [fX] at h; rw [pW h]
theorem pW:∀ {a b:List AV},kT a b=true→a=b
 | [],[],_=>rfl
 | a::l,b::m,h=>by
   simp only [kT] at h;cases hk:fX a b
   · rw [hk] at h; cases h
   · rw [hk] at h; rw [vm hk,pW h]
 | [],_::_,h=>by simp [kT] at h
 | _::_,[],h=>by simp [kT] at h
end
theorem u7 {c p:Bool} (h:cond c p false =true):c=true∧p=true :=by
 cases c
 · cases h
 · exact ⟨U,h⟩
theorem wz {t:Nat} :∀ {l:List Nat},qo t l=true↔t∈l
 | []=>by simp [qo]
 | u::l=>by
   simp only [qo,dr];cases hb:aQ t u
   · have :t≠u:=fun e=>by subst e; simp at hb
     simp only [cond_false,wz,this,false_or]
   · have :=bQ hb;simp [this]
theorem zO {i:Nat} :∀ {l:List bM},pU i l=true→∀ e∈l,dB .any e=true→e.on < i
 | [],_,e,he,_=>by cases he
 | x::l,h,e,he,hb=>by
   simp only [pU] at h;cases hx:(dB .any x && !(av x.on i))
   · rw [hx] at h;rcases dr.1 he with rfl | he
     · rw [hb] at hx;simp only [Bool.true_and,Bool.not_eq_false'] at hx;exact cj.1 hx
     · exact zO h e he hb
   · rw [hx] at h; cases h
def nX (ops:List ar) (X:Nat→Prop):Prop := ∀ i o,X i→ops[i]? =some o→∀ e∈o.after.toList,dB .any e=true→X e.on
theorem wL {l:List Nat} {i:Nat} :mb l i=(l[i]?).getD 0:=by
 unfold mb
 induction l generalizing i with
 | nil=>simp [lf]
 | cons a l ih=>
   cases i with
   | zero=>simp [lf]
   | succ i=>simp [lf,ih]
theorem wx {acc:List Nat} {j:Nat} :∀ {l:List bM},ru (l9 acc l) j=true→∃ e∈l,dB .any e=true∧e.on < acc.length∧(j=e.on∨ru (mb acc e.on) j=true)
 | [],h=>by simp [l9] at h
 | e::l,h=>by
   simp only [l9] at h;cases hb:(dB .any e && av e.on acc.length)
   · rw [hb] at h;obtain ⟨C,E,I⟩:=wx h;exact ⟨C,iY _ E,I⟩
   · rw [hb] at h;simp only [bf] at hb;simp only [cond_true] at h;have A:((2 ^ e.on ||| mb acc e.on) ||| l9 acc l).testBit j=true :=h;simp only [Nat.testBit_or,nH,Nat.testBit_two_pow,decide_eq_true_iff] at A;rcases A with (A | A) | A
     · exact ⟨e,iB,hb.1,cj.1 hb.2,.inl A.symm⟩
     · exact ⟨e,iB,hb.1,cj.1 hb.2,.inr A⟩
     · obtain ⟨C,E,I⟩:=wx A;exact ⟨C,iY _ E,I⟩
theorem zH {ops:List ar} {X:Nat→Prop} (C:nX ops X):∀ (l:List ar) (acc:List Nat),(∀ k,l[k]? =ops[acc.length+k]?)→(∀ i j,i < acc.length→ru (mb acc i) j=true→j < i∧(X i→X j))→
 ∀ i j,ru (mb (ie l acc) i) j=true→j < i∧(X i→X j)
 | [],acc,_,ha,i,j,h=>by
   simp only [ie] at h;rcases dW i acc.length with hi | hi
   · exact ha i j hi h
   · rw [wL,nU hi] at h; simp at h
 | o::l,acc,hl,ha,i,j,h=>by
   simp only [ie] at h;refine zH C l (acc++ [l9 acc o.after.toList]) (fun k=> ?_) (fun i j hi hb=> ?_) i j h
   · have :=hl<|k+1;simp only [gR] at this;rw [this]; congr 1; simp; omega
   · rw [wL] at hb;rcases dW i acc.length with A | A
     · rw [eW A,← wL] at hb; exact ha i j A hb
     · have :i=acc.length:=by simp at hi; omega
       subst this;rw [eI (aT _)] at hb;simp only [Nat.sub_self,fS,gV] at hb;obtain ⟨e,he,J,L,E⟩:=wx hb;have M:ops[acc.length]? =some o:=by
        have :=hl 0;simpa using this.symm
       rcases E with rfl | E
       · exact ⟨L,fun I=>C _ _ I M e he J⟩
       · obtain ⟨U,O⟩:=ha _ _ L E;exact ⟨ab,fun I=>O<|C _ _ I M e he J⟩
theorem pP {ops:List ar} {X:Nat→Prop} (A:nX ops X) {i j:Nat} (h:jD (ie ops []) i j=true):j < i∧(X i→X j):=
 zH A ops [] (fun k=>by simp) (fun i j hi=>by simp at hi) i j h
structure uH (ops:List ar) (dp:List Nat) (i j:Nat) (oi oj:ar):Prop where
 ne:∀ t,oi.dst=some t→oj.dst≠some t
 ap:jD dp i j=true∨((∀ t,oj.dst=some t→t∉oU ops oi)∧∀ t,oi.dst=some t→t∉oU ops oj)
theorem zm {ops:List ar} {J:List Nat} {i:Nat} {L:ar} :∀ {l:List ar} {b:Nat},rO ops J i L b l=true→∀ k E,l[k]? =some E→b+k < i→uH ops J i (b+k) L E
 | [],b,_,k,E,hk,_=>by simp at hk
 | o::l,b,h,k,E,hk,hlt=>by
   simp only [rO] at h;rw [cj.2 (show b < i by omega)] at h;simp only [cond_true,bf,kC,nH] at h;cases k with
   | zero=>
     simp only [fS,bp] at hk;subst hk;refine ⟨fun t A C=> ?_,?_⟩
     · have :=h.1.1;rw [A,C] at this;simp [zU] at this
     · rcases h.1.2 with A | ⟨A,C⟩
       · exact .inl A
       · refine .inr ⟨fun t I hm=> ?_,fun t I hm=> ?_⟩
         · rw [I] at A; simp only [sL] at A; rw [wz.2 hm] at A; cases A
         · rw [I] at C; simp only [sL] at C; rw [wz.2 hm] at C; cases C
   | succ k=>
     simp only [gR] at hk;have :=zm h.2 k E hk ab;rwa [show b+1 +k=b+(k+1) from by omega] at this
theorem uY {ops:List ar} {E:List Nat} :∀ {l:List ar} {b:Nat},n9 ops E b l=true→∀ k A,l[k]? =some A→pU (b+k) A.after.toList=true∧∀ j C,ops[j]? =some C→j < b+k→uH ops E (b+k) j A C
 | [],b,_,k,A,hk=>by simp at hk
 | o::l,b,h,k,A,hk=>by
   simp only [n9,bf] at h;cases k with
   | zero=>
     simp only [fS,bp] at hk;subst hk;refine ⟨h.1.1,fun j C I J=> ?_⟩;have :=zm h.1.2 j C I ab;rwa [cr] at this
   | succ k=>
     simp only [gR] at hk;have :=uY h.2 k A hk;rwa [show b+1 +k=b+(k+1) from by omega] at this
theorem zW {a:Option AV} {v:AV} (h:vn a v=true):a=some v:=by
 cases a with
 | none=>cases h
 | some a=>rw [vm h]
theorem Bw {P:an} {E:List Nat} {i:Nat} {o:Op} {xs:List AV} {v:AV} :∀ {l:List Rec} {b:Nat},qt P E i o xs v b l=true→∀ k q,l[k]? =some q→
 (q.k= .c→(b+k < i→jD E i (b+k)=true∨jq P o xs q.hb=some v)∧(¬b+k < i→jD E (b+k) i=true∨jq P o xs q.ha=some v))∧(q.k= .a→¬b+k < i)
 | [],b,_,k,q,hk=>by simp at hk
 | x::l,b,h,k,q,hk=>by
   simp only [qt] at h;obtain ⟨A,I⟩:=u7 h;cases k with
   | succ k=>
     simp only [gR] at hk;have :=Bw I k q hk;rwa [show b+1 +k=b+(k+1) from by omega] at this
   | zero=>
     simp only [fS,bp] at hk;subst hk;rw [j2];refine ⟨fun J=> ?_,fun ha C=> ?_⟩
     · rw [J] at A;simp only at A;refine ⟨fun C=> ?_,fun C=> ?_⟩
       · rw [cj.2 C] at A;simp only [cond_true,nH] at A;exact A.imp id zW
       · have :av b i=false :=by cases hb:av b i; rfl; exact absurd (cj.1 hb) C
         rw [this] at A;simp only [cond_false,nH] at A;exact A.imp id zW
     · rw [ha,cj.2 C] at A; cases A
theorem Bv {E:List Nat} {i:Nat} :∀ {l:List Rec} {b:Nat},qq E i b l=true→∀ k q,l[k]? =some q→(q.k= .c∨q.k= .a)→b+k < i→jD E i (b+k)=true
 | [],b,_,k,q,hk,_,_=>by simp at hk
 | x::l,b,h,k,q,hk,A,I=>by
   simp only [qq] at h;obtain ⟨C,J⟩:=u7 h;cases k with
   | succ k=>
     simp only [gR] at hk;have :=Bv J k q hk A ab;rwa [show b+1 +k=b+(k+1) from by omega] at this
   | zero=>
     simp only [fS,bp] at hk;subst hk;rw [j2] at I ⊢;rcases A with A | A <;> (rw [A] at C; simp only at C; rw [cj.2 I] at C; exact C)
theorem Bx {P:an} {I:List Nat} {rs:List Rec} :∀ {l:List ar} {m:List Rec} {b:Nat},lh P I rs b l m=true→l.length=m.length∧∀ k o q,l[k]? =some o→m[k]? =some q→(q.k= .l→qt P I (b+k) o.op q.xs q.v 0 rs=true)∧(q.k= .c→qq I (b+k) 0 rs=true)
 | [],[],b,_=>⟨rfl,fun k o q A=>by simp at A⟩
 | [],_::_,b,h=>by simp [lh] at h
 | _::_,[],b,h=>by simp [lh] at h
 | o::l,q::m,b,h=>by
   simp only [lh] at h;obtain ⟨C,L⟩:=u7 h;obtain ⟨M,O⟩:=Bx L;refine ⟨by simp [M],fun k U q' A E=> ?_⟩;cases k with
   | succ k=>
     simp only [gR] at A E;have :=O k U q' A E;rwa [show b+1 +k=b+(k+1) from by omega] at this
   | zero=>
     simp only [fS,bp] at A E;subst A; subst E;rw [j2];exact ⟨fun J=>by rw [J] at C; exact C,fun J=>by rw [J] at C; exact C⟩
end Go.Hb
namespace Go.Hb
section
variable {P:an} {G:Nat} {X:Xt} {ih:Tk→Rs} {n:Nat}
inductive Cl (P:an) (G:Nat) (o:Op) (q:Rec):Prop
 | p:q.k= .p→ng P o q.xs=some q.v→q.ha=q.hb→Cl P G o q
 | l:q.k= .l→jq P o q.xs q.hb=some q.v→q.ha=q.hb→Cl P G o q
 | a (e:ak) (l:List AV):q.k= .a→o= .alloc e→rG P e=some l→cQ q.hb (.cells l e 0 .x)=some q.ha→q.v= .ptr q.hb.nx 0→Cl P G o q
 | c:q.k= .c→j6 P G o q.xs q.hb q.v q.ha→Cl P G o q
structure n5 (P:an) (G n:Nat) (ops:List ar) (o:ar) (q:Rec) (fr fr':Tr AV) (h h':Hp):Prop where
 hb:q.hb=h
 ha:q.ha=h'
 set :fA n fr o.dst q.v=some fr'
 run:(jM n ops fr o.guard= .y∧ko G n fr (fN o.op)=some q.xs∧Cl P G o.op q)∨(jM n ops fr o.guard= .n∧q.k= .s∧q.v= .bY []∧q.ha=q.hb)
theorem KE (L:Good P G ih) (M:iF P G X) (J:fW P) (O:∀ f args h v C,ih (.cl f args h)= .rv v C→∃ fn c,P.funcs[f]? =some fn∧fn.body=some c) {I:Bool} {o:Op} {xs:List AV} {h:Hp} {q:Rec} (A:wW P G X ih I o xs h=some q):q.xs=xs∧q.hb=h∧Cl P G o q:=by
 unfold wW at A;split at A
 · rename_i v hp; cases A; exact ⟨rfl,rfl,.p rfl hp rfl⟩
 · split at A
   · rename_i v E; cases A; exact ⟨rfl,rfl,.l rfl E rfl⟩
   · split at A
     · rename_i e _ _;split at A
       · rename_i l E;split at A
         · rename_i C hn; cases A; exact ⟨rfl,rfl,.a e l rfl rfl E hn rfl⟩
         · cases A
       · cases A
     · split at A
       · rename_i v C U; cases A; exact ⟨rfl,rfl,.c rfl (BC L M J O U)⟩
       · cases A
theorem Cl.nx {o:Op} {q:Rec} (h:Cl P G o q):q.hb.nx≤q.ha.nx:=by
 cases h with
 | p _ _ h=>rw [h]; exact aT _
 | l _ _ h=>rw [h]; exact aT _
 | a e l _ _ _ h _=>have :=kh h; omega
 | c _ h=>exact h.1
theorem n5.nx {ops:List ar} {o:ar} {q:Rec} {fr E:Tr AV} {h C:Hp} (A:n5 P G n ops o q fr E h C):h.nx≤C.nx:=by
 rw [← A.hb,← A.ha];rcases A.run with ⟨_,_,h⟩ | ⟨_,_,_,h⟩
 · exact h.nx
 · rw [h]; exact aT _
theorem BS (ac:Good P G ih) (ad:iF P G X) (ab:fW P) (ae:∀ f args h v al,ih (.cl f args h)= .rv v al→∃ fn c,P.funcs[f]? =some fn∧fn.body=some c) {ops:List ar} {aa:List Nat} :∀ {l:List ar} {i:Nat} {last:Option Nat} {fr C:Tr AV} {h E:Hp} {rs:List Rec},ll P G X ih n ops aa i last l fr h=some (rs,C,E)→
 ∃ (F:Nat→Tr AV) (H:Nat→Hp),F 0=fr∧H 0=h∧F l.length=C∧H l.length=E∧rs.length=l.length∧∀ k o q,l[k]? =some o→rs[k]? =some q→n5 P G n ops o q (F k) (F<|k+1) (H k) (H<|k+1)
 | [],i,last,fr,C,h,E,rs,hr=>by
   simp only [ll,bp,kK] at hr;obtain ⟨rfl,rfl,rfl⟩:=hr;exact ⟨fun _=>fr,fun _=>h,U,U,U,U,U,fun k o q I=>by simp at I⟩
 | o::l,i,last,fr,C,h,E,rs,hr=>by
   have key:∀ (q:Rec) (A:Tr AV) (j:Nat) (la:Option Nat) (jr:List Rec),n5 P G n ops o q fr A h q.ha→ll P G X ih n ops aa j la l A q.ha=some (jr,C,E)→rs=q::jr→
    ∃ (F:Nat→Tr AV) (H:Nat→Hp),F 0=fr∧H 0=h∧F (o::l).length=C∧H (o::l).length=E∧rs.length=(o::l).length∧∀ k M q,(o::l)[k]? =some M→rs[k]? =some q→n5 P G n ops M q (F k) (F<|k+1) (H k) (H<|k+1):=by
    intro q A j la jr au L ag;obtain ⟨F,H,am,O,an,ao,ap,aq⟩:=BS ac ad ab ae L;refine ⟨fun k=>match k with | 0=>fr | k+1=>F k,fun k=>match k with | 0=>h | k+1=>H k,U,U,an,ao,by rw [ag]; simp [ap],fun k M q' I J=> ?_⟩;subst ag;cases k with
    | zero=>
      simp only [fS,bp] at I J;subst I; subst J;simp only [am,O]; exact au
    | succ k=>exact aq k M q' (by simpa using I)<|by simpa using J
   simp only [ll] at hr;split at hr
   · rename_i V;split at hr
     · rename_i xs av;split at hr
       · rename_i q J;split at hr
         · rename_i A Z;split at hr
           · rename_i jr ak O L;cases hr;obtain ⟨ah,ai,aj⟩:=KE ac ad ab ae J;exact key q A _ _ jr ⟨ai,U,Z,.inl ⟨V,by rw [ah]; exact av,aj⟩⟩ L U
           · cases hr
         · cases hr
       · cases hr
     · cases hr
   · rename_i V;split at hr
     · rename_i A Z;split at hr
       · rename_i jr ak O L;cases hr;exact key ⟨.s,[],.bY [],h,h⟩ A _ _ jr ⟨U,U,Z,.inr ⟨V,U,U,U⟩⟩ L U
       · cases hr
     · cases hr
   · cases hr
structure Sq (P:an) (G n:Nat) (ops:List ar) (rs:List Rec) (F:Nat→Tr AV) (H:Nat→Hp):Prop where
 len:rs.length=ops.length
 line:∀ k o q,ops[k]? =some o→rs[k]? =some q→n5 P G n ops o q (F k) (F<|k+1) (H k) (H<|k+1)
 pair:∀ i j oi oj,ops[i]? =some oi→ops[j]? =some oj→j < i→uH ops (ie ops []) i j oi oj
 Hd:∀ i o,ops[i]? =some o→∀ e∈o.after.toList,dB .any e=true→e.on < i
theorem Cb {fr C:Tr AV} {d:Option Nat} {v:AV} (A:fA n fr d v=some C) (t:Nat):c7 C t=if d=some t then v else c7 fr t:=by
 cases d with
 | none=>simp only [fA,bp] at A; subst A; simp
 | some d=>
   simp only [fA] at A;replace A:=aU A; obtain ⟨E,A⟩:=A;simp only [bf] at E;cases A;simp only [c7,Tr.lW _ _ _ _ E.2,bp];by_cases e:t=d
   · subst e; simp
   · rw [if_neg e,if_neg (fun x=>e x.symm)]
variable {ops:List ar} {rs:List Rec} {F:Nat→Tr AV} {H:Nat→Hp}
theorem Sq.get (s:Sq P G n ops rs F H) {i:Nat} {o:ar} (A:ops[i]? =some o):∃ q,rs[i]? =some q:=by
 have :=(cB.1 A).1;exact ⟨rs[i]'(by rw [s.len]; exact this),bR _⟩
theorem Sq.get' (s:Sq P G n ops rs F H) {i:Nat} {q:Rec} (A:rs[i]? =some q):∃ o,ops[i]? =some o:=by
 have :=(cB.1 A).1;exact ⟨ops[i]'(by rw [← s.len]; exact this),bR _⟩
theorem Sq.slot (s:Sq P G n ops rs F H) (t:Nat):∀ k,k≤ops.length→(∃ j o q,j < k∧ops[j]? =some o∧o.dst=some t∧rs[j]? =some q∧c7 (F k) t=q.v)∨((∀ j o,j < k→ops[j]? =some o→o.dst≠some t)∧c7 (F k) t=c7 (F 0) t)
 | 0,_=> .inr ⟨fun j o h=>by omega,rfl⟩
 | k+1,hk=>by
   have A:ops[k]? =some (ops[k]'ab):=bR _;generalize ops[k]'ab=o at A;obtain ⟨q,M⟩:=s.get A;have Z:=s.line k o q A M;rw [Cb Z.set t];by_cases e:o.dst=some t
   · rw [if_pos e]; exact .inl ⟨k,o,q,mz _,A,e,M,rfl⟩
   · rw [if_neg e];rcases s.slot t k ab with ⟨j,J,q',L,C,O,U,V⟩ | ⟨L,C⟩
     · exact .inl ⟨j,J,q',ab,C,O,U,V⟩
     · refine .inr ⟨fun j J E I=> ?_,C⟩;rcases ED.1 E with E | rfl
       · exact L j J E I
       · rw [A] at I; cases I; exact e
def mG (ops:List ar) (rs:List Rec) (f0:Tr AV) (Y:Nat→Prop) (fx:Tr AV):Prop := ∀ t,(∃ j o q,Y j∧ops[j]? =some o∧o.dst=some t∧rs[j]? =some q∧c7 fx t=q.v)∨((∀ j o,Y j→ops[j]? =some o→o.dst≠some t)∧c7 fx t=c7 f0 t)
theorem mG.set {f0 fx L:Tr AV} {Y:Nat→Prop} (U:mG ops rs f0 Y fx) {i:Nat} {o:ar} {q:Rec} (M:ops[i]? =some o) (O:rs[i]? =some q) (h:fA n fx o.dst q.v=some L):mG ops rs f0 (fun j=>Y j∨j=i) L:=by
 intro t;rw [Cb h t];by_cases e:o.dst=some t
 · rw [if_pos e]; exact .inl ⟨i,o,q,.inr rfl,M,e,O,rfl⟩
 · rw [if_neg e];rcases U t with ⟨j,J,q',A,C⟩ | ⟨A,C⟩
   · exact .inl ⟨j,J,q',.inl A,C⟩
   · refine .inr ⟨fun j J E I=> ?_,C⟩;rcases E with E | rfl
     · exact A j J E I
     · rw [M] at I; cases I; exact e
theorem Lx {fr C:Tr AV} {d:Option Nat} {v:AV} (A:fA n fr d v=some C) (fx:Tr AV):∃ E,fA n fx d v=some E:=by
 cases d with
 | none=>exact ⟨fx,rfl⟩
 | some d=>
   simp only [fA] at A ⊢;replace A:=aU A; obtain ⟨I,A⟩:=A;rw [I]; exact ⟨_,rfl⟩
theorem Sq.agree (s:Sq P G n ops rs F H) {Y:Nat→Prop} (ac:nX ops Y) {i:Nat} {o:ar} (O:ops[i]? =some o) (hi:¬Y i) (hr:nX ops (fun j=>Y j∨j=i)) {fx:Tr AV} (U:mG ops rs (F 0) Y fx) {t:Nat} (V:t∈oU ops o):c7 fx t=c7 (F i) t:=by
 have ae:=(cB.1 O).1;rcases s.slot t i ab with ⟨j,L,ag,M,E,J,Z,aa⟩ | ⟨M,E⟩
 · have hp:=s.pair i j o L O E M;have ad:Y j:=by
    rcases hp.ap with hb | ⟨hb,_⟩
    · rcases (pP hr hb).2 (.inr rfl) with h | h
      · exact h
      · omega
    · exact absurd V<|hb t J
   rcases U t with ⟨A,I,q',g1,g2,g3,g4,g5⟩ | ⟨g1,g2⟩
   · have :A=j:=by
      rcases rn A j with C | he | C
      · exact absurd g3<|(s.pair j A L I E g2 C).ne t J
      · exact he
      · exact absurd J<|(s.pair A j I L g2 E C).ne t g3
     subst this;rw [Z] at g4; cases g4;rw [g5,aa]
   · exact absurd J<|g1 j L ad E
 · rcases U t with ⟨A,I,q',g1,g2,g3,g4,g5⟩ | ⟨g1,g2⟩
   · exfalso;rcases rn A i with C | he | C
     · exact M A I C g2 g3
     · subst he; exact hi g1
     · rcases (s.pair A i I o g2 O C).ap with hb | ⟨_,hb⟩
       · exact hi<|(pP ac hb).2 g1
       · exact hb t g3 V
   · rw [g2,E]
theorem Kb {fr fx:Tr AV} {x:aO} (h:∀ t,x= .tmp t→c7 fx t=c7 fr t):kn G n fx x=kn G n fr x:=by
 cases x with
 | tmp t=>simp only [kn,h t rfl]
 | const v=>rfl
 | func f=>rfl
 | global g=>rfl
theorem Bz {fr fx:Tr AV} :∀ {l:List aO},(∀ t∈o6 l,c7 fx t=c7 fr t)→ko G n fx l=ko G n fr l
 | [],_=>rfl
 | x::l,h=>by
   simp only [ko];rw [Kb (fr:=fr) (fx:=fx) fun t e=>h t (by subst e; simp [o6]),Bz (fr:=fr) (fx:=fx) (l:=l) fun t A=>h t (by cases x <;> simp [o6,A])]
theorem Ip {fr fx:Tr AV} {g:Option (Nat×Bool)} (h:∀ t∈vI ops g,c7 fx t=c7 fr t):jM n ops fx g=jM n ops fr g:=by
 unfold jM;cases g with
 | none=>rfl
 | some p=>
   obtain ⟨j,want⟩:=p;simp only;cases hj:ops[j]? with
   | none=>rfl
   | some q=>
     simp only;cases hd:q.dst with
     | none=>rfl
     | some t=>
       simp only;rw [h t (by simp [vI,hj,hd])]
theorem Sq.done (s:Sq P G n ops rs F H) {Y:Nat→Prop} (Z:∀ j,j < ops.length→Y j) {fx:Tr AV} (O:mG ops rs (F 0) Y fx) (t:Nat):c7 fx t=c7 (F ops.length) t:=by
 rcases s.slot t ops.length (aT _) with ⟨j,M,aa,I,C,J,U,V⟩ | ⟨I,C⟩
 · rcases O t with ⟨A,E,q',g1,g2,g3,g4,g5⟩ | ⟨g1,g2⟩
   · have :A=j:=by
      rcases rn A j with L | he | L
      · exact absurd g3<|(s.pair j A M E C g2 L).ne t J
      · exact he
      · exact absurd J<|(s.pair A j E M g2 C L).ne t g3
     subst this;rw [U] at g4; cases g4;rw [g5,V]
   · exact absurd J<|g1 j M (Z j I) C
 · rcases O t with ⟨A,E,q',g1,g2,g3,g4,g5⟩ | ⟨g1,g2⟩
   · exact absurd g3<|I A E (cB.1 g2).1 g2
   · rw [g2,C]
theorem Sq.mono (s:Sq P G n ops rs F H) {i:Nat} :∀ {k:Nat},i≤k→k≤ops.length→(H i).nx≤(H k).nx
 | 0,h,_=>by have :i=0:=ab
             subst this; exact aT _
 | k+1,h,hk=>by
   rcases dW k i with E | hle
   · have :i=k+1:=ab;subst this; exact aT _
   · have A:ops[k]? =some (ops[k]'ab):=bR _;obtain ⟨q,C⟩:=s.get A;exact bS (s.mono hle ab) (s.line k _ q A C).nx
theorem E6 {e:ak} {l:List AV} (ha:rG P e=some l):dS l=true∧∃ us:List ag,(∀ r,ax r l=some us)∧∀ (N:Fm) (σ:Nat→ag) (dst:Option Nat) (ty:ak) (pos :String) (af:Array bM) (g:Option (Nat×Bool)) (w:ah),
 (execOp (ev N σ) ⟨dst,.alloc e,ty,pos,af,g⟩).run P w= .ok (.value<|.pointer<|some ⟨w.heap.size,0,none⟩) {w with heap:=w.heap.push<|.cells us.toArray e (0,0)} :=by
 unfold rG at ha;split at ha
 · rename_i J A;split at ha
   · rename_i L E;replace ha:=aU ha; obtain ⟨C,ha⟩:=ha;cases ha;refine ⟨C,J,fun r=>oL (r:=r) (fun v a=>mc 4) E,fun N σ dst ty pos af g w=> ?_⟩;unfold zeroOf at A;simp only [fU] at A;obtain ⟨i,hi,zv,I,rfl⟩:=A;simp [execOp,uc,zeroValue,di hi,I,newVar,newRow]
   · cases ha
 · cases ha
end
end Go.Hb
namespace Go.Hb
section
variable {P:an} {G n T:Nat} {ops:List ar} {rs:List Rec} {F:Nat→Tr AV} {H:Nat→Hp} {r0 r:Rn} {w0 w:ah} {h0:Hp} {Y:Nat→Prop} {lo:Nat}
structure HD (P:an) (G T:Nat) (ops:List ar) (rs:List Rec) (H:Nat→Hp) (r0:Rn) (w0:ah) (h0:Hp) (Y:Nat→Prop) (lo:Nat) (r:Rn) (w:ah):Prop where
 hi:lo≤rs.length
 lc:∀ j q,rs[j]? =some q→q.k= .c→(Y j↔j < lo)
 la:∀ j q,rs[j]? =some q→q.k= .a→j < lo→Y j
 hr:HR P G r 0 (H lo) w
 new:∀ i,(H lo).nx≤i→i < T→r i=none∨∃ j q,Y j∧lo≤j∧rs[j]? =some q∧q.k= .a∧q.hb.nx=i
 lk:∀ j q,Y j→lo≤j→rs[j]? =some q→q.k= .a→∃ k,r q.hb.nx=some ⟨k,0,0⟩∧w0.heap.size≤k∧(∀ i o q',(H lo).t.get i=some o→r i=some q'→q'.aq≠k)∧
  ∃ e l us,cQ q.hb (.cells l e 0 .x)=some q.ha∧(∀ r,ax r l=some us)∧dS l=true∧w.heap[k]? =some (.cells us.toArray e (0,0))
 oR:∀ j j' q q' x x',Y j→lo≤j→rs[j]? =some q→q.k= .a→Y j'→lo≤j'→rs[j']? =some q'→q'.k= .a→r q.hb.nx=some x→r q'.hb.nx=some x'→x.aq=x'.aq→j=j'
 le:r0.le r
 md:Md (Fr G r0 h0) w0 w
 dR:∀ g,g≤G→∀ k,k < w0.heap.size→Fr g r (H lo) k→Fr g r0 h0 k
 out:∀ i,(H ops.length).nx≤i→r i=r0 i
theorem Sq.fresh (s:Sq P G n ops rs F H) {j:Nat} {q:Rec} (E:rs[j]? =some q) (C:q.k= .a):q.hb=H j∧q.ha=H (j+1)∧(H<|j+1).nx=(H j).nx+1:=by
 obtain ⟨o,I⟩:=s.get' E;have A:=s.line j o q I E;refine ⟨A.hb,A.ha,?_⟩;rw [← A.hb,← A.ha];rcases A.run with ⟨_,_,h⟩ | ⟨_,h,_,_⟩
 · cases h with
   | p h _ _=>rw [C] at h; cases h
   | l h _ _=>rw [C] at h; cases h
   | a e l _ _ _ h _=>exact kh h
   | c h _=>rw [C] at h; cases h
 · rw [C] at h; cases h
theorem Sq.alt (s:Sq P G n ops rs F H) {j i:Nat} {q q':Rec} (J:rs[j]? =some q) (E:q.k= .a) (A:rs[i]? =some q') (I:q'.k= .a) (O:j < i):q.hb.nx < q'.hb.nx:=by
 obtain ⟨C,L,M⟩:=s.fresh J E;obtain ⟨g1,g2,g3⟩:=s.fresh A I;have :=s.mono (i:=j+1) (k:=i) ab<|by have :=(cB.1 A).1; have :=s.len; omega
 rw [C,g1]; omega
theorem Sq.E4 (s:Sq P G n ops rs F H) {j i:Nat} {q q':Rec} (E:rs[j]? =some q) (A:q.k= .a) (I:rs[i]? =some q') (C:q'.k= .a) (he:q.hb.nx=q'.hb.nx):j=i:=by
 rcases rn j i with h | h | h
 · have :=s.alt E A I C h; omega
 · exact h
 · have :=s.alt I C E A h; omega
theorem HD.xP (C:HD P G T ops rs H r0 w0 h0 Y lo r w) {q:Rec} (M:rs[lo]? =some q) (he:H (lo+1)=H lo) (U:q.k≠.c) (ha:q.k≠.a):HD P G T ops rs H r0 w0 h0 Y (lo+1) r w:=by
 have I:∀ j q',rs[j]? =some q'→(q'.k= .c∨q'.k= .a)→j≠lo:=fun j q' I V e=>by
  subst e; rw [M] at I; cases I;rcases V with h | h
  · exact U h
  · exact ha h
 refine ⟨(cB.1 M).1,fun j q' A E=> ?_,fun j q' A E L=>C.la j q' A E (by have :=I j q' A (.inr E); omega),by rw [he]; exact C.hr,fun i A E=> ?_,fun j q' A E L O=>by rw [he]; exact C.lk j q' A ab L O,fun j Z aa ac x ad J a2 a3 a4 a5 ae=>C.oR j Z aa ac x ad J ab a3 a4 a5 ab,C.le,C.md,by rw [he]; exact C.dR,C.out⟩
 · rw [C.lc j q' A E]; have :=I j q' A (.inl E); omega
 · rw [he] at A;rcases C.new i A E with h | ⟨j,q',J,a2,a3,a4,a5⟩
   · exact .inl h
   · exact .inr ⟨j,q',J,by have :=I j q' a3 (.inr a4); omega,a3,a4,a5⟩
theorem HD.ML (s:Sq P G n ops rs F H) (A:HD P G T ops rs H r0 w0 h0 Y lo r w) {q:Rec} (J:rs[lo]? =some q) (ha:q.k= .a) (U:Y lo):HD P G T ops rs H r0 w0 h0 Y (lo+1) r w:=by
 obtain ⟨f1,f2,f3⟩:=s.fresh J ha;obtain ⟨k,L,ap,ah,e,l,us,hn,ai,C,hw⟩:=A.lk lo q U (aT _) J ha;rw [f1] at L;rw [f1,f2] at hn;unfold cQ at hn;replace hn:=aU hn; obtain ⟨M,hn⟩:=hn;simp only [bp] at hn;have aq:(H<|lo+1).nx=(H lo).nx+1:=f3;refine ⟨(cB.1 J).1,fun j q' C E=> ?_,fun j q' C E aa=> ?_,?_,fun i C E=> ?_,fun j q' I a2 a3 a4=> ?_,fun j aj al am x an I a2 a3 a4 a5 ao=>A.oR j aj al am x an I ab a3 a4 a5 ab,A.le,A.md,?_,A.out⟩
 · rw [A.lc j q' C E];have :j≠lo:=fun e=>by subst e; rw [J] at C; cases C; rw [ha] at E; cases E
   omega
 · rcases ED.1 aa with h | rfl
   · exact A.la j q' C E h
   · exact U
 · rw [← hn];exact A.hr.put (r':=r) (w':=w) (q:=⟨k,0,0⟩) (Rn.le_refl r) M L (by rw [hw]; exact wT (ai r) C) (fun _ _ _=>rfl) (fun j ak q' _ ad hr=>ah j ak q' ad hr) (lI _) fun _ _ ae=>absurd ae<|uz _
 · rcases A.new i ab E with h | ⟨j,q',I,a2,a3,a4,a5⟩
   · exact .inl h
   · refine .inr ⟨j,q',I,?_,a3,a4,a5⟩;rcases dW lo j with h | h
     · exact h
     · have :j=lo:=ab;subst this;rw [J] at a3; cases a3;rw [f1] at a5; omega
 · obtain ⟨V,g1,g2,g3,g4⟩:=A.lk j q' I ab a3 a4;refine ⟨V,g1,g2,fun i o x hi O=> ?_,g4⟩;rw [← hn] at hi;simp only [Tr.lW _ _ _ _ M] at hi;split at hi
   · rename_i e; subst e;intro hb;rw [L] at O; cases O;have :=A.oR lo j q q' _ _ U (aT _) J ha I ab a3 a4 (by rw [f1]; exact L) g1 hb;omega
   · exact g3 i o x hi O
 · intro g ac V ag Z;rw [← hn] at Z;rcases Fr.set M L (Rn.le_refl r) A.hr Z with h | h
   · simp only at h; omega
   · exact A.dR g ac V ag h
theorem HD.up (s:Sq P G n ops rs F H) (I:HD P G T ops rs H r0 w0 h0 Y lo r w) {q:Rec} (A:rs[lo]? =some q) (E:q.k≠.c) (ha:q.k= .a→Y lo):HD P G T ops rs H r0 w0 h0 Y (lo+1) r w:=by
 obtain ⟨o,L⟩:=s.get' A;have J:=s.line lo o q L A;have same:q.ha=q.hb→H (lo+1)=H lo:=fun h=>by rw [← J.hb,← J.ha,h]
 rcases J.run with ⟨_,_,h⟩ | ⟨_,h,_,C⟩
 · cases h with
   | p h _ C=>exact I.xP A (same C) E<|by rw [h]; intro h; cases h
   | l h _ C=>exact I.xP A (same C) E<|by rw [h]; intro h; cases h
   | a e l h _ _ _ _=>exact I.ML s A h<|ha h
   | c h _=>exact absurd h E
 · exact I.xP A (same C) E<|by rw [h]; intro h; cases h
theorem HD.xQ (s:Sq P G n ops rs F H) (A:HD P G T ops rs H r0 w0 h0 Y lo r w):∀ (i:Nat),lo≤i→i≤rs.length→(∀ j q,lo≤j→j < i→rs[j]? =some q→q.k≠.c∧(q.k= .a→Y j))→HD P G T ops rs H r0 w0 h0 Y i r w
 | 0,h,_,_=>by have :lo=0:=ab
               subst this; exact A
 | i+1,h,hi,hall=>by
   rcases dW i lo with I | hle
   · have :lo=i+1:=ab;subst this; exact A
   · have E:=HD.xQ s A i hle ab fun j q a b c=>hall j q a ab c;have C:rs[i]? =some (rs[i]'ab):=bR _;exact E.up s C (hall i _ hle (mz _) C).1 (hall i _ hle (mz _) C).2
theorem HD.skip (A:HD P G T ops rs H r0 w0 h0 Y lo r w) {i:Nat} {q:Rec} (ad:rs[i]? =some q) (ab:q.k≠.c) (ha:q.k≠.a):HD P G T ops rs H r0 w0 h0 (fun j=>Y j∨j=i) lo r w:=by
 have C:∀ j q',rs[j]? =some q'→(q'.k= .c∨q'.k= .a)→(Y j∨j=i)→Y j:=fun j q' C ac ae=>by
  rcases ae with h | rfl
  · exact h
  · rw [ad] at C; cases C;rcases ac with h | h
    · exact absurd h ab
    · exact absurd h ha
 refine ⟨A.hi,fun j q' E I=> ?_,fun j q' E I aa=> .inl (A.la j q' E I aa),A.hr,fun i E I=> ?_,fun j q' J a2 a3 a4=>A.lk j q' (C j q' a3 (.inr a4) J) a2 a3 a4,fun j O U V x ag J a2 a3 a4 a5 Z L M=>A.oR j O U V x ag (C j U a3 (.inr a4) J) a2 a3 a4 (C O V L (.inr M) a5) Z L M,A.le,A.md,A.dR,A.out⟩
 · rw [← A.lc j q' E I]; exact ⟨C j q' E (.inl I),.inl⟩
 · rcases A.new i E I with h | ⟨j,q',J,a2⟩
   · exact .inl h
   · exact .inr ⟨j,q',.inl J,a2⟩
theorem HR.grow {h:Hp} {r':Rn} {w':ah} (hr:HR P G r 0 h w) (hle:r.le r') (hw:∀ k,k < w.heap.size→w'.heap[k]? =w.heap[k]?):HR P G r' 0 h w':=by
 refine ⟨fun i o hi=> ?_,fun i j o I q q' hi E A C he=> ?_,fun i _ h=>absurd h (uz _),hr.fu.le hle,hr.base⟩
 · obtain ⟨q,A,C⟩:=hr.live i o hi;refine ⟨q,hle _ _ A,?_⟩;rw [hw _ (hr.lt hi A)];exact C.le hle
 · obtain ⟨x,g1,_⟩:=hr.live i o hi;obtain ⟨J,g2,_⟩:=hr.live j I E;rw [hle _ _ g1] at A; cases A;rw [hle _ _ g2] at C; cases C;exact hr.inj i j o I _ _ hi E g1 g2 he
theorem HD.early (s:Sq P G n ops rs F H) (A:HD P G T ops rs H r0 w0 h0 Y lo r w) (hT:(H ops.length).nx≤T) {i:Nat} {q:Rec} {e:ak} {l:List AV} {us:List ag} (E:rs[i]? =some q) (J:q.k= .a) (au:¬Y i) (hn:cQ q.hb (.cells l e 0 .x)=some q.ha) (aF:∀ r,ax r l=some us) (aj:dS l=true):
 r.le (r.ext q.hb.nx ⟨w.heap.size,0,0⟩)∧HD P G T ops rs H r0 w0 h0 (fun j=>Y j∨j=i) lo (r.ext q.hb.nx ⟨w.heap.size,0,0⟩) {w with heap:=w.heap.push<|.cells us.toArray e (0,0)} :=by
 obtain ⟨f1,f2,f3⟩:=s.fresh E J;have aE:i < ops.length:=by rw [← s.len]; exact (cB.1 E).1
 have aw:lo≤i:=by
  rcases dW i lo with h | h
  · exact absurd (A.la i q E J h) au
  · exact h
 have m1:=s.mono aw<|Nat.le_of_lt aE;have aG:=s.mono (i:=i+1) (k:=ops.length) ab<|aT _;have aB:r q.hb.nx=none:=by
  rw [f1];rcases A.new (H i).nx m1 ab with h | ⟨j,q',C,a2,a3,a4,a5⟩
  · exact h
  · have :=s.E4 a3 a4 E J<|by rw [a5,f1]
    subst this; exact absurd C au
 have hle:=Rn.qf (r:=r) (i:=q.hb.nx) ⟨w.heap.size,0,0⟩ aB;have av:∀ k,k < w.heap.size→({w with heap:=w.heap.push<|.cells us.toArray e (0,0)} :ah).heap[k]? =w.heap[k]? :=fun k J=>by
  simp only [tV]; rw [if_neg ab]
 have live:∀ j o x,(H lo).t.get j=some o→(r.ext q.hb.nx ⟨w.heap.size,0,0⟩) j=some x→r j=some x:=fun j o x aj ar=>by
  obtain ⟨Z,g1,_⟩:=A.hr.live j o aj;rw [hle _ _ g1] at ar; cases ar; exact g1
 refine ⟨hle,A.hi,fun j q' g1 g2=> ?_,fun j q' g1 g2 g3=> .inl (A.la j q' g1 g2 g3),A.hr.grow hle av,fun V g1 g2=> ?_,fun j q' C a2 a3 a4=> ?_,fun j am I an x Z C a2 a3 a4 a5 aa L ac ad O ae=> ?_,Rn.le_trans A.le hle,Md.trans' A.md (JN w _ fun _=>False) (fun _ _ h=>h.elim),fun g aC k J aA=> ?_,fun V aD=> ?_⟩
 · rw [← A.lc j q' g1 g2];refine ⟨fun h=> ?_,.inl⟩;rcases h with h | rfl
   · exact h
   · rw [E] at g1; cases g1; rw [J] at g2; cases g2
 · by_cases he:V=q.hb.nx
   · exact .inr ⟨i,q,.inr U,aw,E,J,he.symm⟩
   · rw [Rn.jL _ _ he];rcases A.new V g1 g2 with h | ⟨j,q',C,a2⟩
     · exact .inl h
     · exact .inr ⟨j,q',.inl C,a2⟩
 · rcases C with C | rfl
   · obtain ⟨k,g1,g2,g3,ap,ay,az,g4,g5,g6,g7⟩:=A.lk j q' C a2 a3 a4;exact ⟨k,hle _ _ g1,g2,fun i o x hi al=>g3 i o x hi (live i o x hi al),ap,ay,az,g4,g5,g6,by rw [av k (bJ.1 g7).1]; exact g7⟩
   · rw [E] at a3; cases a3;refine ⟨w.heap.size,Rn.gE _ _ _,A.md.size,fun i o x hi al=> ?_,e,l,us,hn,aF,aj,by simp⟩;have :=A.hr.lt hi<|live i o x hi al;omega
 · have dR:∀ j I x,Y j→lo≤j→rs[j]? =some I→I.k= .a→(r.ext q.hb.nx ⟨w.heap.size,0,0⟩) I.hb.nx=some x→r I.hb.nx=some x∧x.aq < w.heap.size:=fun j I x M c2 c3 ai ao=>by
    obtain ⟨k,g1,g2,g3,ap,ay,az,g4,g5,g6,g7⟩:=A.lk j I M c2 c3 ai;rw [hle _ _ g1] at ao; cases ao;exact ⟨g1,(bJ.1 g7).1⟩
   rcases C with C | rfl
   · obtain ⟨M,c2⟩:=dR j I x C a2 a3 a4 ad;rcases a5 with a5 | rfl
     · obtain ⟨d1,d2⟩:=dR am an Z a5 aa L ac O;exact A.oR j am I an x Z C a2 a3 a4 a5 aa L ac M d1 ae
     · rw [E] at L; cases L;rw [Rn.gE] at O; cases O;simp only at ae; omega
   · rw [E] at a3; cases a3;rw [Rn.gE] at ad; cases ad;rcases a5 with a5 | rfl
     · obtain ⟨d1,d2⟩:=dR am an Z a5 aa L ac O;simp only at ae; omega
     · rfl
 · obtain ⟨j,o,x,M,c2,c3,ai⟩:=aA;exact A.dR g aC k J ⟨j,o,x,M,c2,live j o x c2 c3,ai⟩
 · rw [Rn.jL _ _ (by rw [f1]; omega)]; exact A.out V aD
theorem HD.IE (s:Sq P G n ops rs F H) (A:HD P G T ops rs H r0 w0 h0 Y lo r w) (hT:(H ops.length).nx≤T) {q:Rec} (C:rs[lo]? =some q) (I:q.k= .c):HR P G r (H<|lo+1).nx (H lo) w:=by
 have M:lo < ops.length:=by rw [← s.len]; exact (cB.1 C).1
 have O:=s.mono (i:=lo+1) (k:=ops.length) ab<|aT _;refine ⟨A.hr.live,A.hr.inj,fun i E L=> ?_,A.hr.fu,A.hr.base⟩;rcases A.new i E ab with h | ⟨j,q',J,a2,a3,a4,a5⟩
 · exact h
 · exfalso;obtain ⟨f1,f2,f3⟩:=s.fresh a3 a4;have :j≠lo:=fun e=>by subst e; rw [C] at a3; cases a3; rw [I] at a4; cases a4
   have :=s.mono (i:=lo+1) (k:=j) ab<|by have :=(cB.1 a3).1; have :=s.len; omega
   rw [f1] at a5; omega
theorem HD.Mx (s:Sq P G n ops rs F H) (A:HD P G T ops rs H r0 w0 h0 Y lo r w) {q:Rec} (ae:rs[lo]? =some q) (E:q.k= .c) {r':Rn} {w':ah} (st:St P G (H<|lo+1).nx r (H lo) w r' (H<|lo+1) w'):HD P G T ops rs H r0 w0 h0 (fun j=>Y j∨j=lo) (lo+1) r' w':=by
 have ay:lo < ops.length:=by rw [← s.len]; exact (cB.1 ae).1
 have au:=s.mono (i:=lo+1) (k:=ops.length) ab<|aT _;have ad:∀ j q',rs[j]? =some q'→q'.k= .a→j≠lo:=fun j q' M O e=>by subst e; rw [ae] at M; cases M; rw [E] at O; cases O
 have I:∀ j q',rs[j]? =some q'→q'.k= .a→(Y j∨j=lo)→Y j:=fun j q' M O an=>an.resolve_right<|ad j q' M O;refine ⟨(cB.1 ae).1,fun j q' g1 g2=> ?_,fun j q' g1 g2 g3=> ?_,⟨st.hr.live,st.hr.inj,fun i _ h=>absurd h (uz _),st.hr.fu,st.hr.base⟩,fun i g1 g2=> ?_,fun j q' C a2 a3 a4=> ?_,fun j U V Z x aA C a2 a3 a4 a5 ax J L ag ai al=> ?_,Rn.le_trans A.le st.le,Md.trans' A.md st.md (fun k E ac=>A.dR G (aT _) k E ac),fun g ak k E ac=>A.dR g ak k E (st.dR g ak k (my E A.md.size) ac),fun i hi=>(st.out i<|bS au hi).trans<|A.out i hi⟩
 · rw [A.lc j q' g1 g2]; omega
 · have :=ad j q' g1 g2;exact .inl<|A.la j q' g1 g2 ab
 · rw [st.out i g1];rcases A.new i (bS st.nx g1) g2 with h | ⟨j,q',C,a2,a3,a4,a5⟩
   · exact .inl h
   · have :=ad j q' a3 a4;exact .inr ⟨j,q',.inl C,ab,a3,a4,a5⟩
 · obtain ⟨k,g1,g2,g3,am,ar,aw,g4,g5,g6,g7⟩:=A.lk j q' (I j q' a3 a4 C) ab a3 a4;have ao:=(bJ.1 g7).1;refine ⟨k,st.le _ _ g1,g2,fun i o x hi ap hb=> ?_,am,ar,aw,g4,g5,g6,st.md.aq g7 fun ⟨i,o,x,_,c2,c3,aa⟩=>g3 i o x c2 c3 aa⟩;obtain ⟨i2,av,x2,_,c2,c3,aa⟩:=st.dR 0 (pG _) k ao ⟨i,o,x,pG _,hi,ap,hb⟩;exact g3 i2 av x2 c2 c3 aa
 · obtain ⟨k,g1,_⟩:=A.lk j V (I j V a3 a4 C) ab a3 a4;obtain ⟨az,aj,_⟩:=A.lk U Z (I U Z J L a5) ab J L;rw [st.le _ _ g1] at ag; cases ag;rw [st.le _ _ aj] at ai; cases ai;exact A.oR j U V Z _ _ (I j V a3 a4 C) ab a3 a4 (I U Z J L a5) ab J L g1 aj al
theorem HD.done (s:Sq P G n ops rs F H) (E:HD P G T ops rs H r0 w0 (H 0) Y lo r w) (hT:(H ops.length).nx≤T) (J:∀ j,j < ops.length→Y j):St P G T r0 (H 0) w0 r (H ops.length) w:=by
 have A:=E.xQ s ops.length (by have :=E.hi; rw [s.len] at this; exact this) (by rw [s.len]; exact aT _) fun j q I C L=>⟨fun M=>by have :=(E.lc j q L M).1 (J j C); omega,fun _=>J j C⟩
 refine ⟨A.le,⟨A.hr.live,A.hr.inj,fun i I C=> ?_,A.hr.fu,A.hr.base⟩,s.mono (pG _) (aT _),A.md,A.dR,A.out⟩;rcases A.new i I C with h | ⟨j,q',O,a2,a3,a4,a5⟩
 · exact h
 · have :=(cB.1 a3).1; have :=s.len; omega
theorem HD.start (s:Sq P G n ops rs F H) (hr:HR P G r0 T (H 0) w0) (A:∀ j,¬Y j):HD P G T ops rs H r0 w0 (H 0) Y 0 r0 w0:=
 ⟨pG _,fun j q _ _=>⟨fun h=>absurd h (A j),fun h=>by omega⟩,fun j q _ _ h=>by omega,⟨hr.live,hr.inj,fun i _ h=>absurd h (uz _),hr.fu,hr.base⟩,fun i C E=> .inl (hr.new i C E),fun j q h=>absurd h (A j),fun j I q q' x J h=>absurd h (A j),Rn.le_refl _,Md.refl _ _,fun _ _ _ _ h=>h,fun _ _=>rfl⟩
end
end Go.Hb
namespace Go.Hb
section
variable {P:an} {G n T:Nat} {ops:List ar} {rs:List Rec} {F:Nat→Tr AV} {H:Nat→Hp}
def Yl (listed:Array Bool) (j:Nat):Prop :=listed[j]? =some true
theorem EY {listed:Array Bool} {i:Nat} (hi:i < listed.size):Yl (listed.setIfInBounds i true)=fun j=>Yl listed j∨j=i:=by
 funext j;apply propext;unfold Yl;rw [qS];by_cases e:i=j
 · subst e; simp [hi]
 · rw [if_neg e];exact ⟨.inl,fun h=>h.resolve_right fun x=>e x.symm⟩
theorem filter_le {p p':Nat→Bool} (h:∀ j,p' j=true→p j=true):∀ l:List Nat,(l.filter p').length≤(l.filter p).length
 | []=>aT _
 | a::l=>by
   have :=filter_le h l;simp only [q8];cases hp:p' a
   · cases p a
     · simpa using this
     · simp only [if_true,qU,if_false,bA]; omega
   · rw [h a hp]; simp only [if_true,bA]; omega
theorem filter_lt {p p':Nat→Bool} (h:∀ j,p' j=true→p j=true) {i:Nat} (hp:p i=true) (A:p' i=false):∀ {l:List Nat},i∈l→(l.filter p').length < (l.filter p).length
 | a::l,hm=>by
   simp only [q8];rcases dr.1 hm with rfl | hm
   · rw [hp,A];have :=filter_le h l;simp only [if_true,qU,if_false,bA]; omega
   · have :=filter_lt h hp A hm;cases hq:p' a
     · cases p a
       · simpa using this
       · simp only [if_true,qU,if_false,bA]; omega
     · rw [h a hq]; simp only [if_true,bA]; omega
def un (m:Nat) (listed:Array Bool):Nat:=((lH m).filter fun i=> !listed.getD i true).length
theorem MG {m:Nat} {listed:Array Bool} {i:Nat} (hm:i < m) (hi:listed[i]? =some false):un m (listed.setIfInBounds i true) < un m listed:=by
 have C:=(bJ.1 hi).1;refine filter_lt (i:=i) (fun j A=> ?_) ?_ ?_ (En.2 hm)
 · simp only [kC] at A ⊢;rw [iW,qS] at A;rw [iW];by_cases e:i=j
   · subst e; rw [if_pos rfl,if_pos C] at A; simp at A
   · rw [if_neg e] at A; exact A
 · simp [iW,hi]
 · simp [iW,C]
theorem KD {listed:Array Bool} {i:Nat} (L:listed.size=ops.length) (h:i∈dV .any ops.toArray listed):∃ o,ops[i]? =some o∧listed[i]? =some false∧∀ e∈o.after.toList,dB .any e=true→Yl listed e.on:=by
 unfold dV at h;rw [El] at h;obtain ⟨J,A⟩:=h;simp only [En,ej] at J;simp only [bf,kC,lD] at A;have C:ops[i]? =some ops[i]:=bR _;generalize ops[i]=o at C;rw [C] at A;simp only [dJ,gV] at A;have I:listed[i]? =some (listed[i]'ab):=nF _;refine ⟨o,C,?_,fun e he hb=> ?_⟩
 · have :=A.1;rw [iW,I] at this;rw [I]; simp at this; rw [this]
 · have E:=A.2;rw [Dj] at E;have :=E e<|by simpa using he
   rw [hb] at this;simp only [Bool.not_true,Bool.false_or] at this;unfold Yl;rw [iW] at this;cases hx:listed[e.on]? with
   | none=>rw [hx] at this; simp at this
   | some b=>rw [hx] at this; simp at this; rw [this]
theorem BR (s:Sq P G n ops rs F H) {listed:Array Bool} (J:listed.size=ops.length) (h:dV .any ops.toArray listed= []):∀ j,j < ops.length→Yl listed j:=by
 intro j
 induction j using Nat.strongRecOn with
 | ind j ih=>
   intro E;have C:listed[j]? =some (listed[j]'ab):=nF _;cases hb:listed[j]'ab with
   | true =>unfold Yl; rw [C,hb]
   | false =>
     exfalso;have A:ops[j]? =some ops[j]:=bR _;generalize ops[j]=o at A;have :j∈dV .any ops.toArray listed:=by
      unfold dV;rw [El];refine ⟨by simpa using E,?_⟩;simp only [bf,kC,lD,A,dJ,gV];refine ⟨by rw [iW,C,hb]; rfl,?_⟩;rw [Dj];intro e he;cases hbd:dB .any e
      · simp
      · have I:=s.Hd j o A e (by simpa using he) hbd;have :=ih e.on I ab;unfold Yl at this;rw [iW,this]; simp
     rw [h] at this; cases this
variable {r0:Rn} {w0:ah} {rr:Option Nat} {Dl:List Deferred} {Q:ba→Act→ah→Prop}
theorem G8 (s:Sq P G n ops rs F H) (bd:lh P (ie ops []) rs 0 ops rs=true) (hT:(H ops.length).nx≤T) (aD:∀ r w σ,St P G T r0 (H 0) w0 r (H ops.length) w→dX r n (F ops.length) σ→Q .normal (act ⟨n,Dl,[],rr⟩ σ) w):
 ∀ (fuel:Nat) (listed:Array Bool) (lo:Nat) (fx:Tr AV) (σ:Nat→ag) (r:Rn) (w:ah),listed.size=ops.length→un ops.length listed≤fuel→nX ops (Yl listed)→mG ops rs (F 0) (Yl listed) fx→HD P G T ops rs H r0 w0 (H 0) (Yl listed) lo r w→
   (lo=0∨∃ j q,lo=j+1∧rs[j]? =some q∧q.k= .c∧Yl listed j)→dX r n fx σ→wpAnyIn (fe rr) 0 P .any ops.toArray Q fuel listed (act ⟨n,Dl,[],rr⟩ σ) w:=by
 have fin:∀ (listed:Array Bool) (lo:Nat) (fx:Tr AV) (σ:Nat→ag) (r:Rn) (w:ah),(∀ j,j < ops.length→Yl listed j)→mG ops rs (F 0) (Yl listed) fx→HD P G T ops rs H r0 w0 (H 0) (Yl listed) lo r w→dX r n fx σ→Q .normal (act ⟨n,Dl,[],rr⟩ σ) w:=by
  intro listed lo fx σ r w aN ad C O;refine aD r w σ (C.done s hT aN) fun i hi=> ?_;rw [← s.done aN ad i];exact O i hi
 intro fuel
 induction fuel with
 | zero=>
   intro listed lo fx σ r w ao aZ av ad C aF O;have aW:(lH ops.length).filter (fun i=> !listed.getD i true)= []:=List.length_eq_zero_iff.1<|Nat.le_zero.1 aZ;have hr:dV .any ops.toArray listed= []:=by
    unfold dV;rw [List.filter_eq_nil_iff] at aW ⊢;intro a ha;have :=aW a<|by simpa using ha
    simp only [kC,Bool.not_eq_false,bf,not_and] at this ⊢;intro h; rw [this] at h; cases h
   exact ⟨hr,fin listed lo fx σ r w (BR s ao hr) ad C O⟩
 | succ fuel ih=>
   intro listed lo fx σ r w ao aZ av ad C aF O;refine ⟨fun hr=>fin listed lo fx σ r w (BR s ao hr) ad C O,fun i hi=> ?_⟩;obtain ⟨o,aa,aV,a6⟩:=KD ao hi;have a8:=(cB.1 aa).1;have an:¬Yl listed i:=fun h=>by unfold Yl at h; rw [aV] at h; cases h
   obtain ⟨q,L⟩:=s.get aa;have aj:=s.line i o q aa L;have aw:nX ops (fun j=>Yl listed j∨j=i):=by
    intro j ar al ac e he hb;rcases al with al | rfl
    · exact .inl<|av j ar al ac e he hb
    · rw [aa] at ac; cases ac; exact .inl<|a6 e he hb
   have au:=EY (listed:=listed) (i:=i) ab;have bl:(listed.setIfInBounds i true).size=ops.length:=by simpa using ao
   have bm:un ops.length (listed.setIfInBounds i true)≤fuel:=by have :=MG a8 aV; omega
   have aM:∀ t∈oU ops o,c7 fx t=c7 (F i) t:=fun t ap=>s.agree av aa an aw ad ap;obtain ⟨a0,aY⟩:=Lx aj.set fx;have bj:=ad.set aa L aY;have next :∀ (aq:Nat) (r':Rn) (u:ag) (w':ah),r.le r'→den r' q.v=some u→HD P G T ops rs H r0 w0 (H 0) (fun j=>Yl listed j∨j=i) aq r' w'→(aq=0∨∃ j q,aq=j+1∧rs[j]? =some q∧q.k= .c∧(Yl listed j∨j=i))→
    wpAnyIn (fe rr) 0 P .any ops.toArray Q fuel (listed.setIfInBounds i true) ((act ⟨n,Dl,[],rr⟩ σ).put o.dst u) w':=by
    intro aq r' u w' hle hu aB a9;rw [eC];refine ih _ aq a0 _ r' w' bl bm ?_ ?_ ?_ ?_ (o3 aY (O.le hle) hu)
    · rw [au]; exact aw
    · rw [au]; exact bj
    · rw [au]; exact aB
    · rcases a9 with h | ⟨j,q,I,J,Z,ai⟩
      · exact .inl h
      · exact .inr ⟨j,q,I,J,Z,by rw [au]; exact ai⟩
   have ax:lo=0∨∃ j q,lo=j+1∧rs[j]? =some q∧q.k= .c∧(Yl listed j∨j=i):=aF.imp id fun ⟨j,q,I,J,Z,ai⟩=>⟨j,q,I,J,Z,.inl ai⟩
   have aQ:=Ip (n:=n) (ops:=ops) (g:=o.guard) (fr:=F i) (fx:=fx) fun t ap=>aM t<|List.mem_append_left _ ap;have bg:=Bz (G:=G) (n:=n) (l:=fN o.op) (fr:=F i) (fx:=fx) fun t ap=>aM t<|List.mem_append_right _ ap;have bh:=Bx bd;have ay:=bh.2 i o q aa L;rw [cr] at ay;show wpOpIn (fe rr) 0 P ops.toArray Q i _ _ w;unfold wpOpIn;rw [lD,aa];show if _ then _ else _
   rcases aj.run with ⟨aC,bp,M⟩ | ⟨aC,aU,bo,bu⟩
   · rw [if_pos (vH (N:=⟨n,Dl,[],rr⟩) (aQ.trans aC) O)];have az:=sS (N:=⟨n,Dl,[],rr⟩) C.hr.fu O<|bg.trans bp;have bD:=aj.set;obtain ⟨d,op,ty,pos,af,g⟩:=o;simp only at az M next ay
     cases M with
     | p E V aK=>
       have aH:∀ c,op≠.defer c:=fun c e=>by subst e; simp [ng] at V
       obtain ⟨u,I,J⟩:=BB (N:=⟨n,Dl,[],rr⟩) (dst:=d) (ty:=ty) (pos :=pos) (af:=af) (g:=g) V az;exact tJ aH (.inl<|J w)<|next lo r u w (Rn.le_refl r) I (C.skip L (by rw [E]; intro h; cases h)<|by rw [E]; intro h; cases h) ax
     | l E V aK=>
       have aH:∀ c,op≠.defer c:=fun c e=>by subst e; simp [jq] at V
       have aA:=Bw<|ay.1 E;have ba:jq P op q.xs (H lo)=some q.v:=by
        rcases dW i lo with aG | aR
        · rcases aF with h0 | ⟨j,A,I,J,Z,ai⟩
          · omega
          · have am:=(aA j A J).1 Z;rw [cr] at am;have aS:¬j < i:=ab;have bv:j≠i:=fun e=>by subst e; exact an ai
            rcases am.2 aS with hb | hb
            · exact absurd ((pP av hb).2 ai) an
            · obtain ⟨ar,ac⟩:=s.get' J;rw [(s.line j ar A ac J).ha,← I] at hb;exact hb
        ·
         have aL:∀ (m:Nat),lo≤m→m≤i→(∀ j A,lo≤j→j < m→rs[j]? =some A→A.k≠.c)→H m=H lo:=by
          intro m
          induction m with
          | zero=>intro h _ _; have :lo=0:=ab
                  subst this; rfl
          | succ m aJ=>
            intro I J Z;rcases dW m lo with aG | hle
            · have :lo=m+1:=ab;subst this; rfl
            · have hm:=aJ hle ab fun j A a b c=>Z j A a ab c;have aX:ops[m]? =some (ops[m]'ab):=bR _;obtain ⟨ak,aI⟩:=s.get aX;have aE:=s.line m _ ak aX aI;have bc:=Z m ak hle (mz _) aI;have bb:ak.k≠.a:=fun ha=>by
               have :=(aA m ak aI).2 ha;omega
              have he:ak.ha=ak.hb:=by
               rcases aE.run with ⟨_,_,M⟩ | ⟨_,_,_,M⟩
               · cases M with
                 | p _ _ h=>exact h
                 | l _ _ h=>exact h
                 | a e l h _ _ _ _=>exact absurd h bb
                 | c h _=>exact absurd h bc
               · exact M
              rw [← aE.ha,he,aE.hb,hm]
         by_cases hex:∃ j A,lo≤j∧j < i∧rs[j]? =some A∧A.k= .c
         ·
          have first :∀ (m:Nat),lo≤m→m≤i→(∃ j A,lo≤j∧j < m∧rs[j]? =some A∧A.k= .c)→∃ j A,lo≤j∧j < i∧rs[j]? =some A∧A.k= .c∧∀ ae q',lo≤ae→ae < j→rs[ae]? =some q'→q'.k≠.c:=by
           intro m
           induction m with
           | zero=>rintro _ _ ⟨j,_,_,h,_⟩; omega
           | succ m aJ=>
             intro I J ⟨j,A,g1,g2,g3,g4⟩;by_cases hex:∃ j A,lo≤j∧j < m∧rs[j]? =some A∧A.k= .c
             · obtain ⟨ae,bt,a1,a2,a3,a4⟩:=hex;exact aJ ab ab ⟨ae,bt,a1,a2,a3,a4⟩
             · refine ⟨j,A,g1,ab,g3,g4,fun ae q' a b c d=>hex ⟨ae,q',a,ab,c,d⟩⟩
          obtain ⟨j,A,g1,g2,g3,g4,g5⟩:=first i aR (aT _) hex
          have am:=(aA j A g3).1 g4;rw [cr] at am;rcases am.1 g2 with hb | hb
          · rcases (pP aw hb).2 (.inr rfl) with h | h
            · have :=(C.lc j A g3 g4).1 h; omega
            · omega
          · obtain ⟨ar,ac⟩:=s.get' g3;rw [(s.line j ar A ac g3).hb,aL j g1 ab g5] at hb;exact hb
         · have :=aL i aR (aT _) fun j A a b c d=>hex ⟨j,A,a,b,c,d⟩;rw [← this,← aj.hb]; exact V
       obtain ⟨u,I,J⟩:=BA (N:=⟨n,Dl,[],rr⟩) (dst:=d) (ty:=ty) (pos :=pos) (af:=af) (g:=g) C.hr ba az;exact tJ aH (.inl J)<|next lo r u w (Rn.le_refl r) I (C.skip L (by rw [E]; intro h; cases h)<|by rw [E]; intro h; cases h) ax
     | a e l E V aK bq br=>
       subst V;obtain ⟨I,us,bn,bi⟩:=E6 aK;obtain ⟨hle,aB⟩:=C.early s hT L E an bq bn I;refine tJ (fun c e=>by cases e) (.inl<|bi ⟨n,Dl,[],rr⟩ σ d ty pos af g w)<|next lo _ _ _ hle ?_ aB ax
       rw [br];simp only [den,Rn.gE,cr]
     | c E V=>
       have a5:=Bv<|ay.2 E;have aG:lo≤i:=by
        rcases dW i lo with h | h
        · exact absurd ((C.lc i q L E).2 h) an
        · exact h
       have aO:∀ j A,j < i→rs[j]? =some A→(A.k= .c∨A.k= .a)→Yl listed j:=fun j A aS al aD=>by
        have hb:=a5 j A al aD ab;rw [cr] at hb;rcases (pP aw hb).2 (.inr rfl) with h | h
        · exact h
        · omega
       have aP:=C.xQ s i aG (by rw [s.len]; omega) fun j A a b c=>⟨fun M=>by have :=(C.lc j A c M).1 (aO j A b c<|.inl M); omega,fun ha=>aO j A b c<|.inr ha⟩
       have a7:=aP.IE s hT L E;obtain ⟨bw,s1⟩:=V;rw [aj.hb,aj.ha] at s1;refine s1 _ r w ⟨n,Dl,[],rr⟩ σ d ty pos af g _ Q (aT _) a7 az fun r' u w' hu bD=> ?_;exact next (i+1) r' u w' bD.le hu (aP.Mx s L E bD)<|.inr ⟨i,q,U,L,E,.inr U⟩
   · rw [if_neg (by rw [Au (N:=⟨n,Dl,[],rr⟩) (aQ.trans aC) O]; simp)];refine ⟨fun f _=>ka _ f,next lo r undef w (Rn.le_refl r) (by rw [bo]; exact iH r) (C.skip L (by rw [aU]; intro h; cases h)<|by rw [aU]; intro h; cases h) ax⟩
theorem G5 {X:Xt} {ih:Tk→Rs} (ad:Good P G ih) (ae:iF P G X) (ac:fW P) (ag:∀ f args h v C,ih (.cl f args h)= .rv v C→∃ fn c,P.funcs[f]? =some fn∧fn.body=some c) (hm:P.follows .mixedOrders=true):uD P G X ih:=by
 intro rd n id ops fr D h;show match rV P G X ih n ops fr D h with
  | .cd e aa I C=>dt P G rd n (fun rr Q a w=>(Dv id ⟨ops⟩ true).wpIn (fe rr) 0 P Q a w) fr D h e aa I C
  | .no=>True
  | _=>False
 have ai:rV P G X ih n ops fr D h=cond (n9 ops (ie ops []) 0 ops) (match ll P G X ih n ops (ie ops []) 0 none ops fr h with
  | some (rs,fr,h)=>cond (lh P (ie ops []) rs 0 ops rs) (.cd .bF fr D h) .no
  | none=> .no) .no:=rfl
 rw [ai];cases hc1:n9 ops (ie ops []) 0 ops
 · exact trivial
 · rw [cond_true];cases hrec:ll P G X ih n ops (ie ops []) 0 none ops fr h with
   | none=>exact trivial
   | some x=>
     obtain ⟨rs,ap,aq⟩:=x;simp only;cases hok:lh P (ie ops []) rs 0 ops rs
     · exact trivial
     · rw [cond_true];obtain ⟨F,H,J,L,M,O,V,Z⟩:=BS ad ae ac ag hrec;have s:Sq P G n ops rs F H:=⟨V,Z,fun i j an ao hi A ar=>by
        have :=(uY hc1 i an hi).2 j ao A ab;rwa [cr] at this,fun i o am=>by
        have :=zO (uY hc1 i o am).1;rwa [cr] at this⟩
       subst J; subst L; subst M; subst O;refine ⟨s.mono (pG _) (aT _),fun T r w σ Dl rr Q hT hr aj ah au al=> ?_⟩;refine wpIn_region_any hm ?_;have E:∀ j,¬Yl (Array.replicate ops.length false) j:=fun j A=>by
        unfold Yl at A;rw [Array.getElem?_replicate] at A;split at A <;> cases A
       refine G8 s hok hT (r0:=r) (w0:=w.drew) (fun r' w' σ' st ak=>al r' w' σ' Dl st.drew ak<|mJ st.le ah) _ _ 0 (F 0) σ r w.drew (by simp) ?_ (fun j o A=>absurd A<|E j) (fun t=> .inr ⟨fun j o A=>absurd A (E j),U⟩) (HD.start s hr.drew E) (.inl U) aj;unfold un;exact bS (List.length_filter_le _ _)<|by simp
theorem HJ {X:Xt} (C:iF P G X) (A:fW P) (hm:P.follows .mixedOrders=true) (k:Nat):Good P G (ik P G X k):=z7 C A (fun ih E I=>G5 E C A I hm) k
end
end Go.Hb
namespace Go.Hb
section
variable {P:an} {G:Nat} {X:Xt} {w:ah}
theorem Nu {f:Nat} (J:∀ v w,(callFunc f #[v]).run P w= .ok (.value v) w) {xs:List AV} {h A:Hp} {v:AV} (he:yc xs h=some (v,A)):h.nx≤A.nx∧∀ (T:Nat) (r:Rn) (w:ah) (us:List ag),A.nx≤T→HR P G r T h w→ax r xs=some us→
 ∃ r' u w',den r' v=some u∧(callFunc f us.toArray).run P w= .ok (.value u) w'∧St P G T r h w r' A w':=by
 unfold yc at he;split at he
 · cases he;refine ⟨aT _,fun T r w us hT hr I=> ?_⟩;obtain ⟨u,L,rfl,C,E⟩:=dP I;obtain rfl :=j9 E;exact ⟨r,u,w,C,J u w,St.refl hr⟩
 · cases he
theorem AA {c:Nat} (E:c < 256):∀ (l:List UInt8) (i:Nat),p8 c l i=if l.idxOf (eK c) < l.length then kJ (i+l.idxOf (eK c)) else -1
 | [],i=>by simp [p8]
 | b::l,i=>by
   have I:(eK c).toNat=c:=by simp; omega
   simp only [p8,List.idxOf_cons];cases hb:aQ b.toNat c
   · have J:(b==eK c)=false :=by
      cases A:(b==eK c)
      · rfl
      · have :=eq_of_beq A;subst this;rw [I] at hb; simp at hb
     rw [J];simp only [cond_false,bA,AA E l (i+1)];by_cases C:l.idxOf (eK c) < l.length
     · rw [if_pos C,if_pos ab];congr 1; omega
     · rw [if_neg C,if_neg ab]
   · have :=bQ hb;have A:(b==eK c)=true :=by
      rw [← this]; simp
     rw [A];simp
theorem Nv {f:Nat} (V:∀ l c w,(callFunc f #[str l,.int .u8 (EK c)]).run P w= .ok (.value<|.int .i64<|dQ c l) w) {xs:List AV} {h A:Hp} {v:AV} (he:yd xs h=some (v,A)):h.nx≤A.nx∧∀ (T:Nat) (r:Rn) (w:ah) (us:List ag),A.nx≤T→HR P G r T h w→ax r xs=some us→
 ∃ r' u w',den r' v=some u∧(callFunc f us.toArray).run P w= .ok (.value u) w'∧St P G T r h w r' A w':=by
 unfold yd at he;split at he
 · rename_i l c;replace he:=aU he; obtain ⟨C,he⟩:=he;have C:=cj.1 C;split at he
   · rename_i ac hm;cases he;refine ⟨aT _,fun T r w us hT hr U=> ?_⟩;obtain ⟨u,aa,rfl,I,J⟩:=dP U;obtain ⟨Z,ab,rfl,L,M⟩:=dP J;obtain rfl :=j9 M;obtain rfl :=gD I;obtain rfl :=cG L;have O:(eK c).toNat=c:=by simp; omega
     have E:=V l (eK c) w;rw [O] at E;refine ⟨r,_,w,?_,E,St.refl hr⟩;rw [AA C l 0] at hm;simp only [cr] at hm;have :dQ (eK c) l=if l.idxOf (eK c) < l.length then kJ (l.idxOf<|eK c) else -1:=rfl
     rw [← this] at hm;rw [fy] at hm;cases hm;simp only [den]
   · cases he
 · cases he
def x2 (a b:Nat):Xt:=fun f=>cond (aQ f a) (some yc)<|cond (aQ f b) (some yd) none
theorem Nt {a b:Nat} (C:∀ v w,(callFunc a #[v]).run P w= .ok (.value v) w) (E:∀ l c w,(callFunc b #[str l,.int .u8 (EK c)]).run P w= .ok (.value<|.int .i64<|dQ c l) w):iF P G (x2 a b):=by
 intro f e he xs h v I A;unfold x2 at he;cases ha:aQ f a
 · rw [ha] at he;simp only [cond_false] at he;cases hb:aQ f b
   · rw [hb] at he; cases he
   · rw [hb] at he;cases he;have :=bQ hb;subst this;exact Nv E A
 · rw [ha] at he;cases he;have :=bQ ha;subst this;exact Nu C A
theorem Ge (h:P.funcs.toList.all (fun fn=> !(fn.name== "runtime.NumGoroutine") || fn.body.isNone)=true):fW P:=by
 intro f fn c A hb;have hm:fn∈P.funcs.toList:=by
  rw [bJ] at A;obtain ⟨C,rfl⟩:=A;simp
 have :=List.all_eq_true.1 h fn hm;rw [hb] at this;simp only [Option.isNone_some,Bool.or_false,kC] at this;exact uW A this<|by rw [hb]; rfl
theorem vu {k f:Nat} {args:List AV} {h A:Hp} {v:AV} (E:iF P G X) (C:fW P) (hm:P.follows .mixedOrders=true) (he:ik P G X k (.cl f args h)= .rv v A):yK P G f args h v A:=by
 have :=HJ E C hm k<|.cl f args h;rw [he] at this;exact this
def sH (G T:Nat) (E:Nat→Nat):List Nat→Tr AO
 | []=> .nil
 | g::l=>(sH G T E l).set g<|.cells [.im T (.ptr (G+g) 0)] (E g) 0 .x
theorem oZ {T:Nat} {E:Nat→Nat} :∀ {l:List Nat},(∀ g∈l,av g bZ=true)→∀ {i:Nat} {o:AO},(sH G T E l).get i=some o→i∈l∧o= .cells [.im T (.ptr (G+i) 0)] (E i) 0 .x
 | [],_,i,o,h=>by simp only [sH] at h; cases h
 | g::l,hl,i,o,h=>by
   simp only [sH] at h;rw [Tr.lW _ _ _ _ (hl g<|iB)] at h;split at h
   · rename_i e; subst e; cases h; exact ⟨iB,rfl⟩
   · obtain ⟨A,C⟩:=oZ (fun g I=>hl g<|iY _ I) h;exact ⟨iY _ A,C⟩
def cY (T:Nat) (l:List Nat) (w:ah):Prop := ∀ g,g∈l→∃ (a:Addr) (e:Nat),a.spot=none∧w.heap[g]? =some (.cells #[.iface T (.pointer<|some a)] e (0,0))
theorem cY.mono {T:Nat} {l:List Nat} {w w':ah} {F:Nat→Prop} (h:cY T l w) (hm:Md F w w') (I:∀ g∈l,¬F g):cY T l w':=fun g A=>by
 obtain ⟨a,e,C,E⟩:=h g A;exact ⟨a,e,C,hm.aq E<|I g A⟩
theorem HR.tq {T:Nat} {l:List Nat} (J:∀ g∈l,g < G) (ag:G≤1000) (h:cY T l w):∃ (E:Nat→Nat) (r:Rn),∀ U,HR P G r U ⟨sH G T E l,G+G⟩ w:=by
 classical
 let A:Nat→Addr:=fun g=>if C:g∈l then (h g C).choose else ⟨0,0,none⟩
 let E:Nat→Nat:=fun g=>if C:g∈l then (h g C).choose_spec.choose else 0
 have aa:∀ g,g∈l→(A g).spot=none∧w.heap[g]? =some (.cells #[.iface T (.pointer<|some<|A g)] (E g) (0,0)):=fun g C=>by
  have :=(h g C).choose_spec.choose_spec;simp only [A,E,dif_pos C];exact this
 let r:Rn:=fun i=>if i < G then some ⟨i,0,0⟩ else if i < G+G then some ⟨(A<|i - G).block,(A<|i - G).off,0⟩ else none
 have L:∀ i,i < G→r i=some ⟨i,0,0⟩:=fun i hi=>if_pos hi;have ae:∀ g,g < G→r (G+g)=some ⟨(A g).block,(A g).off,0⟩:=fun g C=>by
  show (if G+g < G then _ else _)=_;rw [if_neg ab,if_pos ab,show G+g - G=g from by omega]
 have O:∀ g∈l,av g bZ=true :=fun g C=>cj.2 (by have :=J g C; have :bZ=1048574:=rfl; omega);refine ⟨E,r,fun U=>⟨fun i o hi=> ?_,fun i j o ah q q' hi ac I M he=> ?_,fun i I M=> ?_,fun g C=>⟨0,L g C⟩,Nat.le_add_right _ _⟩⟩
 · obtain ⟨hm,rfl⟩:=oZ O hi;have V:=J i hm;obtain ⟨Z,a2⟩:=aa i hm;refine ⟨⟨i,0,0⟩,L i V,?_⟩;rw [a2];refine wT (us:= [.iface T (.pointer<|some<|A i)]) ?_ rfl;have e:(⟨(A i).block,(A i).off,none⟩:Addr)=A i:=by
    have :A i=⟨(A i).block,(A i).off,(A i).spot⟩:=rfl;rw [this,Z]
   simp only [ax,den,ae i V,j2,e]
 · obtain ⟨hm,rfl⟩:=oZ O hi;obtain ⟨ad,rfl⟩:=oZ O ac;rw [L i (J i hm)] at I;rw [L j (J j ad)] at M;cases I; cases M;exact he
 · show (if i < G then _ else _)=_;simp only at I;rw [if_neg ab,if_neg ab]
theorem St.wk {T C:Nat} {E:Nat→Nat} {l:List Nat} {r r':Rn} {I:Hp} {w':ah} (A:∀ g∈l,g < G) (U:G≤1000) (st:St P G C r ⟨sH G T E l,G+G⟩ w r' I w'):Wk w w':=by
 refine ⟨st.md.os,st.md.output,st.md.size,fun k M _=>st.md.cP k M fun ⟨i,o,q,O,J,_⟩=> ?_⟩;obtain ⟨hm,_⟩:=oZ (fun g L=>cj.2 (by have :=A g L; have :bZ=1048574:=rfl; omega)) J;have :=A i hm;omega
theorem HR.cP {T:Nat} {r:Rn} {h:Hp} {F:Nat→Prop} {w':ah} (hr:HR P G r T h w) (hm:Md F w w') (E:∀ i o q,h.t.get i=some o→r i=some q→¬F q.aq):HR P G r T h w':=by
 refine ⟨fun i o hi=> ?_,hr.inj,hr.new,hr.fu,hr.base⟩;obtain ⟨q,A,C⟩:=hr.live i o hi;refine ⟨q,A,?_⟩;rw [hm.cP _ (hr.lt hi A) (E i o q hi A)];exact C
end
end Go.Hb
end
