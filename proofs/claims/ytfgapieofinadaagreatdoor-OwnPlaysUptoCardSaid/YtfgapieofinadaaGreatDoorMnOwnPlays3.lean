/-
  Walks and plain laws that the law rests on, laid together. No conditions but those that each theorem names.
-/
import Derived.Test.YtfgapieofinadaaGreatDoorMnOwnPlays2
set_option linter.unusedVariables false
open Array renaming all_eq_true_iff_forall_mem→Ih,foldl_toList→yb,getD_eq_getD_getElem?→ky,getElem?_eq_getElem→qe,getElem?_eq_some_iff→cx,getElem?_modify→yd,getElem?_push→ye,getElem?_setIfInBounds→uF,getElem?_setIfInBounds_ne→nF,getElem?_setIfInBounds_self_of_lt→oL,getElem?_toList→sC,length_toList→qf,range→nG,toList_inj→sF,toList_map→jx,toList_modify→uG,toList_push→yg
open BitVec renaming ofInt→j1
open Bool renaming and_eq_true→bP,false_eq_true→uH,noConfusion→dS,not_eq_true'→mI,or_eq_true→lO,or_eq_true_iff→Ip
open Go.Builtin renaming append_→lP,clear_→yi,delete_→sI,firstCells→yj,zeroCells→It
open Go.Calls renaming mono→jy
open Go renaming Code→cm,Edge→cI,Exit→bM,IntKind→bX,Oper→aO,Operand→bu,Program→av,TypeId→au,Value→ah,World→ai
open Go.Code renaming region→Iw
open Go.Deferred renaming ofValue→mK
open Go.Exit renaming inBlock→IC
open Go.Fence renaming wide→ga
open Go.FrameMode renaming noConfusion→ID
open Go.Instr renaming alloc→ym,buildSlice→uJ,fill→kz,keyThatStays→uK,mapUpdate→sJ
open Go.Lib renaming run_unsafeString_none→IM
open Go.Op renaming equal→oO,equalIn→j2
open Go.Oper renaming semAt_eq→uO,uponIn→sM
open Go.Region renaming binds→eQ,ready→fH,wanted→mN
open Go.Result renaming andThen_ok→ij
open Go.Sem renaming run→lQ,run_bind→iE,run_pure→kA
open Go.World renaming freeze→nI,putObj→IU,putObj_heap_other→lR,putObj_heap_same→qx
open Int renaming natCast_nonneg→ik,natCast_pos→IV,ofNat→mP,toNat_natCast→IX
open List.Sublist renaming map→BV
open List renaming append_assoc→iF,eq_nil_of_length_eq_zero→j5,ext_getElem?→yt,filter_cons→uS,flatten_cons→sO,getD_eq_getElem?_getD→cQ,getElem?_append_left→eR,getElem?_append_right→eC,getElem?_cons_succ→jA,getElem?_cons_zero→jB,getElem?_drop→kD,getElem?_eq_getElem→cr,getElem?_eq_none→qy,getElem?_eq_some_iff→dt,getElem?_map→gy,getElem?_take→j6,getElem?_toArray→nJ,length→jC,length_append→bo,length_cons→cg,length_drop→gh,length_eq_one_iff→uW,length_nil→fu,length_take→bY,mapM_cons→Jf,map_append→kE,map_cons→eS,map_map→yx,mem_append→dz,mem_cons→ej,mem_cons_of_mem→mQ,mem_cons_self→lS,mem_filter→yy,mem_map→iZ,mem_of_getElem?→lj,mem_of_mem_drop→yz,mem_of_mem_take→yA,mem_range→Jm,nodup_cons→sP,range→nL,range'→oR,replicate→eM,replicate_succ→Jq,size_toArray→fS
open List.cons renaming injEq→j4
open Nat renaming add_assoc→iG,add_comm→yF,add_mul→oS,add_zero→lT,beq→bC,ble→bL,ble_eq→u5,ble_eq_true_of_le→B9,blt→ba,eq_of_beq_eq_true→cP,le_of_ble_eq_true→cG,le_refl→bf,le_succ→nM,le_trans→cR,lt_of_lt_of_le→oT,lt_or_ge→dM,lt_succ_iff_lt_or_eq→JA,lt_succ_self→oU,lt_trichotomy→u6,mul_le_mul_right→qB,not_lt_zero→yG,pos_of_ne_zero→JC,pow_succ→yH,succ_le_iff→vd,succ_pos→JD,testBit→vf,zero_add→du,zero_le→sU,zero_mul→sV
open Option renaming getD_none→sW,getD_some→jD,map_eq_some_iff→il,map_some→fg
open Option.some renaming inj→gJ,injEq→bR
open Prod renaming fst→dj,snd→jE
open Prod.mk renaming injEq→kF
open UInt8 renaming lt_iff_toNat_lt→yI,ofNat→gi,toNat→JG,toNat_inj→nO
open Go.Proofs.Tryz
open Go.RowKit

section
namespace Go.Hb
inductive Tr (α:Type) | nil | nd (l:Tr α) (v:Option α) (r:Tr α)
def Tr.get {α:Type} :Tr α→Nat→Option α
 | .nil,_=>none
 | .nd _ v _,0=>v
 | .nd l _ r,n+1=>cond (bC (n % 2) 0) (l.get<|n / 2)<|r.get<|n / 2
def Tr.put {α:Type} (v:Option α):Nat→Tr α→Nat→Tr α
 | 0,t,_=>t
 | _+1,.nil,0=> .nd .nil v .nil
 | _+1,.nd l _ r,0=> .nd l v r
 | k+1,.nil,n+1=>cond (bC (n % 2) 0) (.nd (Tr.put v k .nil<|n / 2) none .nil)<|.nd .nil none<|Tr.put v k .nil<|n / 2
 | k+1,.nd l u r,n+1=>cond (bC (n % 2) 0) (.nd (Tr.put v k l<|n / 2) u r)<|.nd l u<|Tr.put v k r<|n / 2
theorem Tr.get_nil {α:Type} (n:Nat):(Tr.nil:Tr α).get n=none:=by unfold Tr.get; rfl
theorem Hy {n:Nat} {b:Bool} (h:bC (n % 2) 0=b):n % 2=cond b 0 1:=by
 cases b
 · have :n % 2≠0:=fun e=>by rw [e] at h; cases h
   simp only [cond_false]; omega
 · exact cP h
theorem xK {n m:Nat} {b:Bool} (hn:bC (n % 2) 0=b) (hm:bC (m % 2) 0=b) (e:m / 2=n / 2):m+1=n+1:=by
 have :=Hy hn;have :=Hy hm;omega
theorem Tr.rN {α:Type} (v:Option α):∀ (k:Nat) (t:Tr α) (n m:Nat),m≠n→(Tr.put v k t n).get m=t.get m
 | 0,t,n,m,_=>by simp [Tr.put]
 | k+1,.nil,0,m,h=>by
   obtain ⟨m,rfl⟩:∃ j,m=j+1:=⟨m - 1,ag⟩
   simp [Tr.put,Tr.get]
 | k+1,.nd l u r,0,m,h=>by
   obtain ⟨m,rfl⟩:∃ j,m=j+1:=⟨m - 1,ag⟩
   simp [Tr.put,Tr.get]
 | k+1,.nil,n+1,0,h=>by
   simp only [Tr.put];cases bC (n % 2) 0 <;> rfl
 | k+1,.nd l u r,n+1,0,h=>by
   simp only [Tr.put];cases bC (n % 2) 0 <;> rfl
 | k+1,.nil,n+1,m+1,h=>by
   simp only [Tr.put];cases hn:bC (n % 2) 0 <;> cases hm:bC (m % 2) 0 <;> simp only [cond_true,cond_false,Tr.get,hm]
   · rw [Tr.rN v k .nil _ _ (fun e=>h<|xK hn hm e)]; rfl
   · rw [Tr.rN v k .nil _ _ (fun e=>h<|xK hn hm e)]; rfl
 | k+1,.nd l u r,n+1,m+1,h=>by
   simp only [Tr.put];cases hn:bC (n % 2) 0 <;> cases hm:bC (m % 2) 0 <;> simp only [cond_true,cond_false,Tr.get,hm]
   · rw [Tr.rN v k r _ _ (fun e=>h<|xK hn hm e)]
   · rw [Tr.rN v k l _ _ (fun e=>h<|xK hn hm e)]
theorem Tr.put_eq {α:Type} (v:Option α):∀ (k:Nat) (t:Tr α) (n:Nat),n+1 < 2 ^ k→(Tr.put v k t n).get n=v
 | 0,t,n,h=>ag
 | k+1,.nil,0,_=>by simp [Tr.put,Tr.get]
 | k+1,.nd l u r,0,_=>by simp [Tr.put,Tr.get]
 | k+1,.nil,n+1,h=>by
   have A:n / 2 +1 < 2 ^ k:=by rw [yH] at h; omega
   simp only [Tr.put];cases hn:bC (n % 2) 0 <;> simp only [cond_true,cond_false,Tr.get,hn] <;> exact Tr.put_eq v k _ _ A
 | k+1,.nd l u r,n+1,h=>by
   have A:n / 2 +1 < 2 ^ k:=by rw [yH] at h; omega
   simp only [Tr.put];cases hn:bC (n % 2) 0 <;> simp only [cond_true,cond_false,Tr.get,hn] <;> exact Tr.put_eq v k _ _ A
def di:Nat:=1048574
def Tr.set {α:Type} (t:Tr α) (n:Nat) (v:α):Tr α:=Tr.put (some v) 20 t n
def Tr.del {α:Type} (t:Tr α) (n:Nat):Tr α:=Tr.put none 20 t n
theorem Tr.n9 {α:Type} (t:Tr α) (n m:Nat) (v:α) (h:ba n di=true):(t.set n v).get m=if m=n then some v else t.get m:=by
 have A:n < 1048574:=by simpa [di,ba,u5,vd] using h
 unfold Tr.set;split
 · rename_i e; subst e; exact Tr.put_eq _ _ _ _ ag
 · rename_i e; exact Tr.rN _ _ _ _ _ e
theorem Tr.q9 {α:Type} (t:Tr α) (n m:Nat) (h:ba n di=true):(t.del n).get m=if m=n then none else t.get m:=by
 have A:n < 1048574:=by simpa [di,ba,u5,vd] using h
 unfold Tr.del;split
 · rename_i e; subst e; exact Tr.put_eq _ _ _ _ ag
 · rename_i e; exact Tr.rN _ _ _ _ _ e
inductive AV
 | bool (b:Bool) | int (k:bX) (n:Int) | str (l:List UInt8)
 | ptr (b o:Nat) | jq
 | sl (b o n c:Nat) (x:Bool)
 | fZ
 | map (b:Nat) | mq
 | fn (f:Nat) (a c:List AV) | iX (l:Nat) | km
 | jU (t:Nat) (v:AV) | fM
 | agg (l:List AV) | dg (l:List AV)
structure Loc where
 ax:Nat
 sh:Nat
 room:Nat
abbrev Rn:=Nat→Option Loc
def Rn.le (r s:Rn):Prop := ∀ i x,r i=some x→s i=some x
theorem Rn.le_refl (r:Rn):r.le r:=fun _ _ h=>h
theorem Rn.le_trans {r s t:Rn} (h:r.le s) (A:s.le t):r.le t:=fun i x C=>A i x<|h i x C
mutual
def den (r:Rn):AV→Option ah
 | .bool b=>some<|.bool b
 | .int k n=>some<|.int k n
 | .str l=>some<|Hb.str l
 | .ptr b o=>match r b with
   | some q=>some<|.pointer<|some ⟨q.ax,q.sh+o,none⟩
   | none=>none
 | .jq=>some<|.pointer none
 | .sl b o n c x=>match r b with
   | some q=>cond x (cond (bL n c) (some<|.slice (some ⟨q.ax,q.sh+o,none⟩) n c) none)<|cond (bL (c+n) q.room) (some<|.slice (some ⟨q.ax,q.sh+o,none⟩) n<|q.room - c) none
   | none=>none
 | .fZ=>some<|.slice none 0 0
 | .map b=>match r b with
   | some q=>some<|.map<|some q.ax
   | none=>none
 | .mq=>some<|.map none
 | .fn f a c=>match bc r a,bc r c with
   | some a,some c=>some<|.func (.func f) a.toArray c.toArray
   | _,_=>none
 | .iX l=>match r l with
   | some q=>some<|.func (.yield q.ax) #[] #[]
   | none=>none
 | .km=>some .nilFunc
 | .jU t v=>match den r v with
   | some v=>some<|.iface t v
   | none=>none
 | .fM=>some .nilIface
 | .agg l=>match bc r l with
   | some l=>some<|.agg l.toArray
   | none=>none
 | .dg l=>match bc r l with
   | some l=>some<|.tuple l.toArray
   | none=>none
def bc (r:Rn):List AV→Option (List ah)
 | []=>some []
 | v::l=>match den r v,bc r l with
   | some v,some l=>some (v::l)
   | _,_=>none
end
mutual
theorem m8 {r s:Rn} (h:r.le s):∀ {v:AV} {u:ah},den r v=some u→den s v=some u
 | .bool _,_,hu | .int _ _,_,hu | .str _,_,hu | .jq,_,hu | .fZ,_,hu | .mq,_,hu | .km,_,hu | .fM,_,hu=>by
   simp only [den] at hu ⊢; exact hu
 | .ptr b o,u,hu | .sl b o n c x,u,hu | .map b,u,hu | .iX b,u,hu=>by
   simp only [den] at hu ⊢;cases hb:r b with
   | none=>rw [hb] at hu; cases hu
   | some q=>rw [hb] at hu; rw [h b q hb]; exact hu
 | .fn f a c,u,hu=>by
   simp only [den] at hu ⊢;cases ha:bc r a with
   | none=>rw [ha] at hu; cases hu
   | some a'=>
     cases hc:bc r c with
     | none=>rw [ha,hc] at hu; cases hu
     | some c'=>rw [ha,hc] at hu; rw [jO h ha,jO h hc]; exact hu
 | .jU t v,u,hu=>by
   simp only [den] at hu ⊢;cases hv:den r v with
   | none=>rw [hv] at hu; cases hu
   | some C=>rw [hv] at hu; rw [m8 h hv]; exact hu
 | .agg l,u,hu | .dg l,u,hu=>by
   simp only [den] at hu ⊢;cases hl:bc r l with
   | none=>rw [hl] at hu; cases hu
   | some A=>rw [hl] at hu; rw [jO h hl]; exact hu
theorem jO {r s:Rn} (h:r.le s):∀ {v:List AV} {u:List ah},bc r v=some u→bc s v=some u
 | [],_,hu=>by simp only [bc] at hu ⊢; exact hu
 | v::l,u,hu=>by
   simp only [bc] at hu ⊢;cases hv:den r v with
   | none=>rw [hv] at hu; cases hu
   | some C=>
     cases hl:bc r l with
     | none=>rw [hv,hl] at hu; cases hu
     | some A=>rw [hv,hl] at hu; rw [m8 h hv,jO h hl]; exact hu
end
theorem fy {r:Rn} {v:AV} {l:List AV} {us:List ah} (h:bc r (v::l)=some us):∃ u A,us=u::A∧den r v=some u∧bc r l=some A:=by
 simp only [bc] at h;split at h
 · rename_i u A C E; exact ⟨u,A,(gJ h).symm,C,E⟩
 · cases h
theorem me {r:Rn} {us:List ah} (h:bc r []=some us):us= []:=by simpa [bc] using h.symm
theorem fi {r:Rn} {v:AV} {l:List AV} {u:ah} {us:List ah} (A:den r v=some u) (C:bc r l=some us):bc r (v::l)=some (u::us):=by simp only [bc,A,C]
theorem eb {r:Rn} :∀ {l:List AV} {us:List ah},bc r l=some us→us.length=l.length
 | [],_,h=>by rw [me h]; rfl
 | v::l,us,h=>by obtain ⟨u,C,rfl,_,A⟩:=fy h; simp [eb A]
theorem qR {r:Rn} :∀ {l:List AV} {us:List ah} {i:Nat} {v:AV},bc r l=some us→l[i]? =some v→∃ u,us[i]? =some u∧den r v=some u
 | [],_,i,v,h,hv=>by simp at hv
 | a::l,us,0,v,h,hv=>by
   obtain ⟨u,L,rfl,A,_⟩:=fy h;simp only [jB,bR] at hv;subst hv; exact ⟨u,rfl,A⟩
 | a::l,us,i+1,v,h,hv=>by
   obtain ⟨u,L,rfl,_,C⟩:=fy h;simp only [jA] at hv;obtain ⟨J,E,I⟩:=qR C hv;exact ⟨J,by simpa using E,I⟩
theorem gL {r:Rn} :∀ {l m:List AV} {us vs:List ah},bc r l=some us→bc r m=some vs→bc r (l++m)=some (us++vs)
 | [],m,us,vs,h,h'=>by rw [me h]; exact h'
 | a::l,m,us,vs,h,h'=>by
   obtain ⟨u,E,rfl,A,C⟩:=fy h;exact fi A<|gL C h'
theorem kJ {r:Rn} :∀ {l:List AV} {us:List ah} (n:Nat),bc r l=some us→bc r (l.take n)=some (us.take n)
 | _,_,0,_=>by simp [bc]
 | [],us,n+1,h=>by rw [me h]; simp [bc]
 | a::l,us,n+1,h=>by
   obtain ⟨u,E,rfl,A,C⟩:=fy h;exact fi A<|kJ n C
theorem lA {r:Rn} :∀ {l:List AV} {us:List ah} (n:Nat),bc r l=some us→bc r (l.drop n)=some (us.drop n)
 | _,_,0,h=>h
 | [],us,n+1,h=>by rw [me h]; simp [bc]
 | a::l,us,n+1,h=>by
   obtain ⟨u,E,rfl,C,A⟩:=fy h;exact lA n A
inductive Ck | a | z | x
inductive AO
 | cells (l:List AV) (e:Nat) (fz:Nat) (ex:Ck)
 | map (l:List (AV×AV))
 | loop (st:LoopState) (pe:Option cm) (n:Nat) (fr:Tr AV) (ps:List Nat) (aU body:cm) (D:Nat)
 | m9 (b:Bool)
 | Bi (l:List UInt8) (p:Nat)
structure Hp where
 t:Tr AO
 nx:Nat
def ee (fr:Tr AV) (i:Nat):AV:=match fr.get i with
 | some v=>v
 | none=> .dg []
def fJ (r:Rn) (n:Nat) (fr:Tr AV) (s:Nat→ah):Prop := ∀ i,i < n→den r (ee fr i)=some (s i)
def iy (r:Rn):List (AV×AV)→List MapEntry→Prop
 | [],[]=>True
 | p::l,m::es=>den r p.1=some m.key∧den r p.2=some m.val∧iy r l es
 | _,_=>False
def OR (P:av) (r:Rn) (q:Loc):AO→Option Obj→Prop
 | .cells l e fz ex,o=> ∃ c fr us,o=some (.cells c e fr)∧bc r l=some us∧q.sh+l.length≤c.size∧(∀ j u,us[j]? =some u→c[q.sh+j]? =some u)∧fr.2≤q.sh+fz∧
  (∀ u∈us,u.oneCell'=true)∧((ex= .x→q.sh=0∧c.size=l.length∧fr=(0,fz))∧(ex≠.a→q.sh=0))∧∀ s,cO P e=some s→q.sh+q.room*s≤c.size
 | .map l,o=> ∃ es c,o=some (.map es c)∧iy r l es.toList∧(es.toList.map fun e=>e.key).Nodup
 | .loop st E n fr ps aU body D,o=> ∃ fn A C,o=some (.loop {state:=st,pending:=E,fn:=fn,tmps:=A,params:=ps.toArray,assign:=aU,body:=body,defers:=C})∧(∃ x,r D=some x∧x.ax=C)∧A.size=n∧∀ i,i < n→den r (ee fr i)=A[i]?
 | .m9 b,o=>o=some (.deferred<|cond b (some []) none)
 | .Bi l p,o=>o=some (.stringIter ⟨⟨l⟩⟩ p)
end Go.Hb
namespace Go.Hb
def mr (f:ah→Option AV):List ah→Option (List AV)
 | []=>some []
 | v::l=>match f v with
   | some a=>match mr f l with
     | some b=>some (a::b)
     | none=>none
   | none=>none
def kR:Nat→ah→Option AV
 | 0,_=>none
 | d+1,v=>match v with
   | .bool b=>some<|.bool b
   | .int k n=>some<|.int k n
   | .string ⟨⟨l⟩⟩=>some<|.str l
   | .pointer none=>some .jq
   | .slice none 0 0=>some .fZ
   | .map none=>some .mq
   | .nilFunc=>some .km
   | .nilIface=>some .fM
   | .agg ⟨l⟩=>match mr (kR d) l with
     | some l=>some<|.agg l
     | none=>none
   | .tuple ⟨l⟩=>match mr (kR d) l with
     | some l=>some<|.dg l
     | none=>none
   | _=>none
theorem rB {f:ah→Option AV} {r:Rn} (A:∀ v a,f v=some a→den r a=some v):∀ {l:List ah} {m:List AV},mr f l=some m→bc r m=some l
 | [],m,h=>by simp only [mr,bR] at h; subst h; simp [bc]
 | v::l,m,h=>by
   simp only [mr] at h;split at h
   · rename_i a ha;split at h
     · rename_i b hb;cases h;exact fi (A v a ha)<|rB A hb
     · cases h
   · cases h
theorem oy {r:Rn} :∀ (d:Nat) {v:ah} {a:AV},kR d v=some a→den r a=some v
 | 0,v,a,h=>by simp [kR] at h
 | d+1,v,a,h=>by
   simp only [kR] at h;split at h <;> first
    | (cases h; simp [den,str]; done)
    | (split at h
       · rename_i C A;cases h;simp only [den,rB (fun v a=>oy d) A]
       · cases h)
    | cases h
def my (G n:Nat) (fr:Tr AV):bu→Option AV
 | .tmp t=>cond (ba t n) (some<|ee fr t) none
 | .const v=>kR 4 v
 | .func f=>some<|.fn f [] []
 | .global g=>cond (ba g G) (some<|.ptr g 0) none
def mz (G n:Nat) (fr:Tr AV):List bu→Option (List AV)
 | []=>some []
 | x::l=>match my G n fr x with
   | some a=>match mz G n fr l with
     | some b=>some (a::b)
     | none=>none
   | none=>none
def qF (G:Nat) (r:Rn):Prop := ∀ g,g < G→∃ m,r g=some ⟨g,0,m⟩
section
variable {G:Nat} {fr:Tr AV} {r:Rn} {N:Fm} {σ:Nat→ah}
theorem tW (C:qF G r) (A:fJ r N.n fr σ) {x:bu} {a:AV} (h:my G N.n fr x=some a):den r a=some (ev N σ x):=by
 cases x with
 | tmp t=>
   simp only [my] at h;cases hb:ba t N.n
   · rw [hb] at h; cases h
   · rw [hb] at h;simp only [cond_true,bR] at h;subst h;simp only [ev,hb,cond_true];exact A t<|by simpa [ba,u5,vd] using hb
 | const v=>exact oy 4 h
 | func f=>simp only [my,bR] at h; subst h; simp [den,bc,ev]
 | global g=>
   simp only [my] at h;cases hb:ba g G
   · rw [hb] at h; cases h
   · rw [hb] at h;simp only [cond_true,bR] at h;subst h;obtain ⟨m,hm⟩:=C g<|by simpa [ba,u5,vd] using hb
     simp only [den,hm,ev,lT]
theorem xd (C:qF G r) (A:fJ r N.n fr σ):∀ {l:List bu} {m:List AV},mz G N.n fr l=some m→bc r m=some (l.map<|ev N σ)
 | [],m,h=>by simp only [mz,bR] at h; subst h; simp [bc]
 | x::l,m,h=>by
   simp only [mz] at h;split at h
   · rename_i a ha;split at h
     · rename_i b hb;cases h;exact fi (tW C A ha)<|xd C A hb
     · cases h
   · cases h
end
def iB:Op→List bu
 | .move x | .assign x | .box _ x | .load _ x | .nilCheck x | .unOp _ _ x | .convert _ _ x | .makeInterface _ x | .fieldAddr _ x _ | .field _ x _ | .range _ x | .next x _ | .typeAssert x _ _ _ | .extract x _=> [x]
 | .pick c a b=> [c,a,b]
 | .build _ ⟨ps⟩=>ps.map (·.2)
 | .buildSlice _ _ ⟨ps⟩=>ps.map (·.2)
 | .store _ a v | .binOp _ _ a v _ | .makeSlice _ a v | .indexAddr _ a v | .index _ a v | .lookup _ a v _=> [a,v]
 | .makeFunc _ ⟨a⟩ ⟨c⟩=>a++c
 | .slice _ x l h m=>x::(l.toList++(h.toList++m.toList))
 | .mapUpdate _ m k v | .insert _ m k v=> [m,k,v]
 | .call ⟨.value f,⟨l⟩,_⟩ | .defer ⟨.value f,⟨l⟩,_⟩=>f::l
 | .call ⟨.builtin _,⟨l⟩,_⟩=>l
 | _=> []
theorem gn {r:Rn} {a:AV} {u:ah} (h:bc r [a]=some [u]):den r a=some u:=by
 obtain ⟨C,us,he,A,_⟩:=fy h;cases he; exact A
theorem jN {r:Rn} {a b:AV} {u v:ah} (h:bc r [a,b]=some [u,v]):den r a=some u∧den r b=some v:=by
 obtain ⟨E,us,he,A,C⟩:=fy h;cases he; exact ⟨A,gn C⟩
theorem nY {r:Rn} {a b c:AV} {u v t:ah} (h:bc r [a,b,c]=some [u,v,t]):den r a=some u∧den r b=some v∧den r c=some t:=by
 obtain ⟨E,us,he,A,C⟩:=fy h;cases he; exact ⟨A,jN C⟩
section
variable {r:Rn} {u:ah}
theorem dF {k:bX} {n:Int} (h:den r (.int k n)=some u):u= .int k n:=by simpa [den] using h.symm
theorem kK {b:Bool} (h:den r (.bool b)=some u):u= .bool b:=by simpa [den] using h.symm
theorem jk {l:List UInt8} (h:den r (.str l)=some u):u=str l:=by simpa [den] using h.symm
theorem qU (h:den r .jq=some u):u= .pointer none:=by simpa [den] using h.symm
theorem jQ (h:den r .fZ=some u):u= .slice none 0 0:=by simpa [den] using h.symm
theorem Ds (h:den r .mq=some u):u= .map none:=by simpa [den] using h.symm
theorem tA (h:den r .km=some u):u= .nilFunc:=by simpa [den] using h.symm
theorem qT (h:den r .fM=some u):u= .nilIface:=by simpa [den] using h.symm
theorem kg {b o:Nat} (h:den r (.ptr b o)=some u):∃ q,r b=some q∧u= .pointer (some ⟨q.ax,q.sh+o,none⟩):=by
 simp only [den] at h;split at h
 · rename_i q A; exact ⟨q,A,(gJ h).symm⟩
 · cases h
theorem ph {b:Nat} (h:den r (.map b)=some u):∃ q,r b=some q∧u= .map (some q.ax):=by
 simp only [den] at h;split at h
 · rename_i q A; exact ⟨q,A,(gJ h).symm⟩
 · cases h
theorem zl {b:Nat} (h:den r (.iX b)=some u):∃ q,r b=some q∧u= .func (.yield q.ax) #[] #[]:=by
 simp only [den] at h;split at h
 · rename_i q A; exact ⟨q,A,(gJ h).symm⟩
 · cases h
theorem Dt {b o n c:Nat} (h:den r (.sl b o n c true)=some u):∃ q,r b=some q∧n≤c∧u= .slice (some ⟨q.ax,q.sh+o,none⟩) n c:=by
 simp only [den] at h;split at h
 · rename_i q A;cases hb:bL n c
   · rw [hb] at h; cases h
   · rw [hb] at h;exact ⟨q,A,cG hb,(gJ h).symm⟩
 · cases h
theorem vQ {b o n c:Nat} (h:den r (.sl b o n c false)=some u):∃ q,r b=some q∧c+n≤q.room∧u= .slice (some ⟨q.ax,q.sh+o,none⟩) n (q.room - c):=by
 simp only [den] at h;split at h
 · rename_i q A;cases hb:bL (c+n) q.room
   · rw [hb] at h; cases h
   · rw [hb] at h;exact ⟨q,A,cG hb,(gJ h).symm⟩
 · cases h
theorem kh {b o n c:Nat} {x:Bool} (h:den r (.sl b o n c x)=some u):∃ q cap,r b=some q∧n≤cap∧u= .slice (some ⟨q.ax,q.sh+o,none⟩) n cap∧(x=true→cap=c)∧(x=false→cap=q.room - c∧c+n≤q.room):=by
 cases x
 · obtain ⟨q,C,A,he⟩:=vQ h;exact ⟨q,q.room - c,C,ag,he,(fun e=>by cases e),fun _=>⟨U,A⟩⟩
 · obtain ⟨q,C,A,he⟩:=Dt h;exact ⟨q,c,C,A,he,fun _=>rfl,fun e=>by cases e⟩
theorem n5 {f:Nat} {a c:List AV} (h:den r (.fn f a c)=some u):∃ a' c',bc r a=some a'∧bc r c=some c'∧u= .func (.func f) a'.toArray c'.toArray:=by
 simp only [den] at h;split at h
 · rename_i a' c' ha A; exact ⟨a',c',ha,A,(gJ h).symm⟩
 · cases h
theorem vP {t:Nat} {v:AV} (h:den r (.jU t v)=some u):∃ A,den r v=some A∧u= .iface t A:=by
 simp only [den] at h;split at h
 · rename_i A C; exact ⟨A,C,(gJ h).symm⟩
 · cases h
theorem tz {l:List AV} (h:den r (.agg l)=some u):∃ us,bc r l=some us∧u= .agg us.toArray:=by
 simp only [den] at h;split at h
 · rename_i C A; exact ⟨C,A,(gJ h).symm⟩
 · cases h
theorem Du {l:List AV} (h:den r (.dg l)=some u):∃ us,bc r l=some us∧u= .tuple us.toArray:=by
 simp only [den] at h;split at h
 · rename_i C A; exact ⟨C,A,(gJ h).symm⟩
 · cases h
end
def zV (k:bX):Int→Bool
 | .ofNat m=>match k with
   | .i64=>ba m 9223372036854775808
   | .u8=>ba m 256
   | .u64=>ba m 18446744073709551616
   | .i32=>ba m 2147483648
   | .u32=>ba m 4294967296
   | .u16=>ba m 65536
   | _=>false
 | .negSucc m=>match k with
   | .i64=>ba m 9223372036854775808
   | .i32=>ba m 2147483648
   | _=>false
def qa (k:bX) (n:Int):Int:=cond (zV k n) n<|k.wrap n
theorem dk {a b:Nat} :ba a b=true↔a < b:=by simp [ba,u5,vd]
theorem u16_in (n:Int) (h:0≤n∧n≤65535):IntKind.u16.wrap n=n:=by
 unfold IntKind.wrap;simp only [IntKind.bits,IntKind.signed];simp;omega
theorem MR {k:bX} {n:Int} (h:zV k n=true):k.wrap n=n:=by
 cases n with
 | ofNat m=>
   show k.wrap (m:Int)=(m:Int)
   cases k with
   | i64=>have :=dk.1 (show ba m 9223372036854775808=true from h); exact ku ⟨ag,ag⟩
   | u8=>have :=dk.1 (show ba m 256=true from h); exact BD ⟨ag,ag⟩
   | u64=>have :=dk.1 (show ba m 18446744073709551616=true from h); exact jw ⟨ag,ag⟩
   | i32=>have :=dk.1 (show ba m 2147483648=true from h); exact BA ⟨ag,ag⟩
   | u32=>have :=dk.1 (show ba m 4294967296=true from h); exact H9 ⟨ag,ag⟩
   | u16=>have :=dk.1 (show ba m 65536=true from h); exact u16_in _ ⟨ag,ag⟩
   | i8=>exact dS (show false =true from h)
   | i16=>exact dS (show false =true from h)
 | negSucc m=>
   rw [Int.negSucc_eq];cases k with
   | i64=>have :=dk.1 (show ba m 9223372036854775808=true from h); exact ku ⟨ag,ag⟩
   | i32=>have :=dk.1 (show ba m 2147483648=true from h); exact BA ⟨ag,ag⟩
   | _=>exact dS (show false =true from h)
theorem uD (k:bX) (n:Int):qa k n=k.wrap n:=by
 unfold qa;cases h:zV k n
 · rfl
 · exact (MR h).symm
def gG (k:bX):Int→Option AV
 | .ofNat 0=>some<|.int k 0
 | .ofNat (m+1)=>some<|.int k<|.ofNat<|m+1
 | .negSucc 0=>some<|.int k<|-1
 | .negSucc (m+1)=>some<|.int k<|.negSucc<|m+1
theorem hH (k:bX) (n:Int):gG k n=some (.int k n):=by
 unfold gG;split <;> rfl
def jR:List UInt8→List UInt8→Bool
 | [],[]=>true
 | a::l,b::m=>cond (bC a.toNat b.toNat) (jR l m) false
 | _,_=>false
theorem qW:∀ l m:List UInt8,jR l m=decide (l=m)
 | [],[]=>by simp [jR]
 | [],_::_=>by simp [jR]
 | _::_,[]=>by simp [jR]
 | a::l,b::m=>by
   have ih:=qW l m;simp only [jR];cases h:bC a.toNat b.toNat
   · have :a≠b:=fun e=>by subst e; simp at h
     simp [this]
   · have :a=b:=nO.1<|cP h;simp [this,ih]
def pL:List UInt8→List UInt8→Bool
 | _,[]=>false
 | [],_::_=>true
 | a::l,b::m=>cond (ba a.toNat b.toNat) true<|cond (bC a.toNat b.toNat) (pL l m) false
theorem Fc:∀ l m:List UInt8,pL l m=cn l m
 | [],[]=>rfl
 | _::_,[]=>rfl
 | [],_::_=>rfl
 | a::l,b::m=>by
   have ih:=Fc l m;rw [xE];simp only [pL];rcases u6 a.toNat b.toNat with h | h | h
   · have A:a < b:=yI.2 h;simp [dk.2 h,A]
   · have e:a=b:=nO.1 h;subst e;have A:¬a < a:=UInt8.lt_irrefl a;have C:ba a.toNat a.toNat=false :=by cases hb:ba a.toNat a.toNat; rfl; exact absurd (dk.1 hb)<|Nat.lt_irrefl _
     simp [C,A,ih]
   · have A:¬a < b:=fun E=>by have :=yI.1 E; omega
     have C:ba a.toNat b.toNat=false :=by cases hb:ba a.toNat b.toNat; rfl; exact absurd (dk.1 hb) ag
     have I:bC a.toNat b.toNat=false :=by cases hb:bC a.toNat b.toNat; rfl; exact absurd (cP hb) ag
     have J:a≠b:=fun e=>by subst e; omega
     simp [C,I,A,J]
end Go.Hb
namespace Go.Hb
def wq (op:BinOp) (k:bX) (a b:Int):Option AV:=match op with
 | .add=>gG k<|qa k<|Int.add a b
 | .sub=>gG k<|qa k<|Int.sub a b
 | .mul=>gG k<|qa k<|Int.mul a b
 | .lss=>some<|.bool<|decide (a < b)
 | .leq=>some<|.bool<|decide (a≤b)
 | .gtr=>some<|.bool<|decide (b < a)
 | .geq=>some<|.bool<|decide (b≤a)
 | .eql=>some<|.bool<|decide (a=b)
 | .neq=>some<|.bool<|decide (a≠b)
 | .quo=>match a,b with
   | .ofNat a,.ofNat (b+1)=>gG k<|qa k<|.ofNat<|a / (b+1)
   | _,_=>none
 | .rem=>match a,b with
   | .ofNat a,.ofNat (b+1)=>gG k<|.ofNat<|a % (b+1)
   | _,_=>none
 | .or =>gG k<|k.wrap (j1 k.bits a ||| j1 k.bits b).toNat
 | .and =>gG k<|k.wrap (j1 k.bits a &&& j1 k.bits b).toNat
 | _=>none
def A6 (op:BinOp) (k:bX) (a:Int) (b:Nat):Option AV:=match op with
 | .shr=>gG k<|a.fdiv<|2 ^ min b k.bits
 | .shl=>gG k<|k.wrap<|a*2 ^ min b k.bits
 | _=>none
def Bh (op:BinOp) (l m:List UInt8):Option AV:=match op with
 | .eql=>some<|.bool<|jR l m
 | .neq=>some<|.bool<|!jR l m
 | .lss=>some<|.bool<|pL l m
 | .gtr=>some<|.bool<|!(pL l m || jR l m)
 | .leq=>some<|.bool (pL l m || jR l m)
 | .geq=>some<|.bool<|!pL l m
 | .add=>cond (bL (l.length+m.length) 9223372036854775807) (some<|.str<|l++m) none
 | _=>none
def tK (P:av) (t:au):Bool:=match P.underlying t with
 | some (.pointer e)=>(P.info? e).isSome
 | _=>false
def lG (P:av) (t:au):Bool:=match P.underlying t with
 | some (.slice _)=>true
 | _=>false
def wu (P:av) (t:au):Bool:=match P.underlying t with
 | some (.func _ _ _)=>true
 | _=>false
def zX (P:av) (t:au):Bool:=match P.underlying t with
 | some .bool=>true
 | _=>false
def wv (P:av) (t:au):Bool:=match P.underlying t with
 | some (.interface _)=>true
 | _=>false
def isStr (P:av) (t:au):Bool:=match P.underlying t with
 | some .string=>true
 | _=>false
def vU (P:av) (A:Bool) (t:au) (x y:AV):Option Bool:=match x,y with
 | .ptr _ _,.jq=>cond (tK P t) (some false) none
 | .jq,.jq=>cond (tK P t) (some true) none
 | .ptr b o,.ptr b' o'=>cond (tK P t && (bC b b' && bC o o')) (some true) none
 | .sl _ _ _ _ _,.fZ=>cond (lG P t) (some false) none
 | .fZ,.fZ=>cond (lG P t) (some true) none
 | .fn _ _ _,.km=>cond (wu P t) (some false) none
 | .km,.km=>cond (wu P t) (some true) none
 | .bool a,.bool b=>cond (zX P t) (some<|a==b) none
 | .jU _ _,.fM=>cond (wv P t) (some false) none
 | .fM,.fM=>cond (wv P t && A) (some true) none
 | _,_=>none
def yV (P:av) (A:Bool) (op:BinOp) (t:au) (x y:AV):Option AV:=match x,y with
 | .int k a,.int k' b=>match op with
   | .shl | .shr=>match b with
     | .ofNat b=>A6 op k a b
     | _=>none
   | _=>cond (bC (eX k)<|eX k') (wq op k a b) none
 | .str l,.str m=>Bh op l m
 | x,y=>match op with
   | .eql=>match vU P A t x y with
     | some b=>some<|.bool b
     | none=>none
   | .neq=>match vU P A t x y with
     | some b=>some<|.bool<|!b
     | none=>none
   | _=>none
section
variable {P:av} {r:Rn} {N:Fm} {σ:Nat→ah} {dst:Option Nat} {ty:au} {pos :String} {af:Array cI} {g:Option (Nat×Bool)} {x y z:bu}
def YP (P:av) (r:Rn) (N:Fm) (σ:Nat→ah) (o:aO) (v:AV):Prop := ∃ u,den r v=some u∧∀ w,(execOp (ev N σ) o).run P w= .ok (.value u) w
theorem MX {op:BinOp} {k:bX} {a b:Int} {t E:au} {v:AV} (h:wq op k a b=some v) (A:ev N σ x= .int k a) (C:ev N σ y= .int k b):YP P r N σ ⟨dst,.binOp op t x y E,ty,pos,af,g⟩ v:=by
 unfold wq at h;split at h
 · rw [hH,uD] at h; cases h; exact ⟨_,rfl,fun w=>yS _ A C rfl⟩
 · rw [hH,uD] at h; cases h; exact ⟨_,rfl,fun w=>A1 _ A C rfl⟩
 · rw [hH,uD] at h; cases h; exact ⟨_,rfl,fun w=>Aw _ A C rfl⟩
 · cases h; exact ⟨_,rfl,fun w=>lt A C⟩
 · cases h; exact ⟨_,rfl,fun w=>le A C⟩
 · cases h; exact ⟨_,rfl,fun w=>gt A C⟩
 · cases h; exact ⟨_,rfl,fun w=>ge A C⟩
 · cases h; exact ⟨_,rfl,fun w=>DV A C⟩
 · cases h; exact ⟨_,rfl,fun w=>Fv A C⟩
 · split at h
   · rename_i a b;rw [hH,uD] at h; cases h;exact ⟨_,U,fun w=>AK _ A C ⟨ik _,IV.2<|JD _⟩ U⟩
   · cases h
 · split at h
   · rename_i a b;rw [hH] at h; cases h;exact ⟨_,U,fun w=>rm A C ⟨ik _,IV.2<|JD _⟩⟩
   · cases h
 · rw [hH] at h; cases h; exact ⟨_,rfl,fun w=>CI A C rfl⟩
 · rw [hH] at h; cases h; exact ⟨_,rfl,fun w=>dO A C rfl⟩
 · cases h
theorem PR {op:BinOp} {k E:bX} {a:Int} {b:Nat} {t I:au} {v:AV} (h:A6 op k a b=some v) (A:ev N σ x= .int k a) (C:ev N σ y= .int E (mP b)):YP P r N σ ⟨dst,.binOp op t x y I,ty,pos,af,g⟩ v:=by
 unfold A6 at h;split at h
 · rw [hH] at h; cases h; exact ⟨_,rfl,fun w=>shr A C (ik _) rfl⟩
 · rw [hH] at h; cases h; exact ⟨_,rfl,fun w=>shl A C (ik _) rfl⟩
 · cases h
theorem Qx {op:BinOp} {l m:List UInt8} {t E:au} {v:AV} (h:Bh op l m=some v) (A:ev N σ x=str l) (C:ev N σ y=str m):YP P r N σ ⟨dst,.binOp op t x y E,ty,pos,af,g⟩ v:=by
 unfold Bh at h;simp only [qW,Fc] at h;split at h
 · cases h; exact ⟨_,rfl,fun w=>DX A C⟩
 · cases h; exact ⟨.bool (decide (l≠m)),by simp [den],fun w=>Fw A C⟩
 · cases h; exact ⟨_,rfl,fun w=>Ak A C⟩
 · cases h; exact ⟨_,rfl,fun w=>MJ A C⟩
 · cases h; exact ⟨_,rfl,fun w=>Nz A C⟩
 · cases h; exact ⟨_,rfl,fun w=>MD A C⟩
 · cases hb:bL (l.length+m.length) 9223372036854775807
   · rw [hb] at h; cases h
   · rw [hb] at h; cases h; exact ⟨_,rfl,fun w=>cc A C<|cG hb⟩
 · cases h
def bj:bu→Bool
 | .const _=>true
 | _=>false
def yK (P:av) (t:au) (x y:bu) (u v:ah) (q:Bool):Prop :=
 (∀ w,(binOp .eql t u v).run P w= .ok (.bool q) w)∧(∀ w,(binOp .neq t u v).run P w= .ok (.bool<|!q) w)∧∀ op w,(eqGuard op t x y u v).run P w= .ok () w
theorem yK.of {t:au} {u v:ah} {q:Bool} (h:∀ d w,(j2 (d+1) t u v).run P w= .ok q w) (A:∀ w,(binOp .eql t u v).run P w=((oO t u v).run P w).andThen fun q w=> .ok (.bool q) w)
 (C:∀ w,(binOp .neq t u v).run P w=((oO t u v).run P w).andThen fun q w=> .ok (.bool<|!q) w) (E:∀ op w,(eqGuard op t x y u v).run P w= .ok () w):yK P t x y u v q:=by
 have e:∀ w,(oO t u v).run P w= .ok q w:=h 9999;exact ⟨fun w=>by rw [A,e]; rfl,fun w=>by rw [C,e]; rfl,E⟩
theorem DQ {Z:Bool} {t:au} {a b:AV} {u v:ah} {q:Bool} (ac:Z=true→(bj x || bj y)=true) (h:vU P Z t a b=some q) (hu:den r a=some u) (E:den r b=some v):yK P t x y u v q:=by
 have J:tK P t=true→∃ e i,P.underlying t=some (.pointer e)∧P.info? e=some i:=by
  intro hp;unfold tK at hp;split at hp
  · rename_i e he;obtain ⟨i,hi⟩:=Option.isSome_iff_exists.1 hp;exact ⟨e,i,he,hi⟩
  · cases hp
 have O:lG P t=true→∃ e,P.underlying t=some (.slice e):=by
  intro hp; unfold lG at hp; split at hp
  · exact ⟨_,by assumption⟩
  · cases hp
 have L:wu P t=true→∃ a b c,P.underlying t=some (.func a b c):=by
  intro hp; unfold wu at hp; split at hp
  · exact ⟨_,_,_,by assumption⟩
  · cases hp
 have M:wv P t=true→∃ m,P.underlying t=some (.interface m):=by
  intro hp; unfold wv at hp; split at hp
  · exact ⟨_,by assumption⟩
  · cases hp
 have B1:zX P t=true→P.underlying t=some .bool:=by
  intro hp; unfold zX at hp; split at hp
  · assumption
  · cases hp
 have I:∀ {c:Bool} {p:Option Bool} {q:Bool},cond c p none=some q→c=true∧p=some q:=by
  intro c p q h; cases c
  · cases h
  · exact ⟨U,h⟩
 unfold vU at h;split at h
 · obtain ⟨y,V,rfl⟩:=kg hu;obtain rfl :=qU E;obtain ⟨A,C⟩:=I h;cases C;obtain ⟨e,i,he,hi⟩:=J A;exact .of (fun d w=>zu d he) (fun w=>by simp [binOp]) (fun w=>by simp [binOp]) fun op w=>by simp [eqGuard]
 · obtain rfl :=qU hu;obtain rfl :=qU E;obtain ⟨A,C⟩:=I h;cases C;obtain ⟨e,i,he,hi⟩:=J A;exact .of (fun d w=>zu d he) (fun w=>by simp [binOp]) (fun w=>by simp [binOp]) fun op w=>by simp [eqGuard]
 · rename_i b o b' ag;obtain ⟨A,C⟩:=I h;cases C;simp only [bP] at A;obtain ⟨hp,aa,ab⟩:=A;obtain rfl :=cP aa;obtain rfl :=cP ab;rw [hu] at E; cases E;obtain ⟨y,V,rfl⟩:=kg hu;obtain ⟨e,i,he,hi⟩:=J hp;exact .of (fun d w=>by simp [j2,bS he,sizeOf,eh hi,sameAddr]) (fun w=>by simp [binOp]) (fun w=>by simp [binOp]) fun op w=>by simp [eqGuard]
 · obtain ⟨y,cap,V,_,rfl,_⟩:=kh hu;obtain rfl :=jQ E;obtain ⟨A,C⟩:=I h;cases C;obtain ⟨e,he⟩:=O A;exact .of (fun d w=>DY d he) (fun w=>by simp [binOp]) (fun w=>by simp [binOp]) fun op w=>by simp [eqGuard]
 · obtain rfl :=jQ hu;obtain rfl :=jQ E;obtain ⟨A,C⟩:=I h;cases C;obtain ⟨e,he⟩:=O A;exact .of (fun d w=>DY d he) (fun w=>by simp [binOp]) (fun w=>by simp [binOp]) fun op w=>by simp [eqGuard]
 · obtain ⟨a',c',ha,_,rfl⟩:=n5 hu;obtain rfl :=tA E;obtain ⟨A,C⟩:=I h;cases C;obtain ⟨_,_,_,he⟩:=L A;exact .of (fun d w=>by simp [j2,bS he]) (fun w=>by simp [binOp]) (fun w=>by simp [binOp]) fun op w=>by simp [eqGuard]
 · obtain rfl :=tA hu;obtain rfl :=tA E;obtain ⟨A,C⟩:=I h;cases C;obtain ⟨_,_,_,he⟩:=L A;exact .of (fun d w=>by simp [j2,bS he]) (fun w=>by simp [binOp]) (fun w=>by simp [binOp]) fun op w=>by simp [eqGuard]
 · obtain rfl :=kK hu;obtain rfl :=kK E;obtain ⟨A,C⟩:=I h;cases C;exact .of (fun d w=>DT d<|B1 A) (fun w=>by simp [binOp]) (fun w=>by simp [binOp]) fun op w=>by simp [eqGuard]
 · obtain ⟨ai,ae,rfl⟩:=vP hu;obtain rfl :=qT E;obtain ⟨A,C⟩:=I h;cases C;obtain ⟨_,he⟩:=M A;exact .of (fun d w=>by simp [j2,bS he]) (fun w=>by simp [binOp]) (fun w=>by simp [binOp]) fun op w=>by simp [eqGuard]
 · obtain rfl :=qT hu;obtain rfl :=qT E;obtain ⟨A,C⟩:=I h;cases C;simp only [bP] at A;obtain ⟨_,he⟩:=M A.1;have ad:=ac A.2;exact .of (fun d w=>by simp [j2,bS he]) (fun w=>by simp [binOp]) (fun w=>by simp [binOp]) (fun op w=>by
    cases x <;> cases y <;> first | (cases ad; done) | simp [eqGuard])
 · cases h
theorem Kf {Z:Bool} {op:BinOp} {t aa:au} {a b v:AV} (C:Z=true→(bj x || bj y)=true) (h:yV P Z op t a b=some v) (I:den r a=some (ev N σ x)) (J:den r b=some (ev N σ y)):YP P r N σ ⟨dst,.binOp op t x y aa,ty,pos,af,g⟩ v:=by
 unfold yV at h;split at h
 · rename_i k a V b;have A:=dF I;have O:=dF J;have key:(cond (bC (eX k)<|eX V) (wq op k a b) none)=some v→YP P r N σ ⟨dst,.binOp op t x y aa,ty,pos,af,g⟩ v:=by
    intro E;cases C:bC (eX k) (eX V)
    · rw [C] at E; cases E
    · rw [C] at E;obtain rfl :=pD C;exact MX E A O
   cases op <;> first
    | exact key h
    | (dsimp only at h
       split at h
       · exact PR h A O
       · cases h)
 · exact Qx h (jk I)<|jk J
 · split at h
   · split at h
     · rename_i q M;cases h;obtain ⟨A,_,L⟩:=DQ C M I J;exact ⟨_,U,fun w=>by simp [execOp,A,L]⟩
     · cases h
   · split at h
     · rename_i q M;cases h;obtain ⟨_,A,L⟩:=DQ C M I J;exact ⟨_,U,fun w=>by simp [execOp,A,L]⟩
     · cases h
   · cases h
end
def A8 (e b o n c:Nat) (x:Bool) (i j:Nat):Option AV:=
 cond (bL i j) (cond x (cond (bL j c) (cond (bC c i) (some<|.sl b o (j - i) (c - i) true)<|some<|.sl b (o+i*e) (j - i) (c - i) true) none)
  (cond (bL j n && (bC i 0 || ba i n)) (some<|.sl b (o+i*e) (j - i) (c+i) false) none)) none
def r6 (P:av) (t:au) (x:AV) (lo hi:Option Nat):Option AV:=match x with
 | .str l=>cond (isStr P t && (bL (lo.getD 0) (hi.getD l.length) && bL (hi.getD l.length) l.length)) (some<|.str<|(l.take<|hi.getD l.length).drop<|lo.getD 0) none
 | .sl b o n c q=>match dB P t with
   | some e=>A8 e b o n c q (lo.getD 0)<|hi.getD n
   | none=>none
 | .fZ=>match dB P t with
   | some _=>cond (bC (lo.getD 0) 0 && bC (hi.getD 0) 0) (some .fZ) none
   | none=>none
 | _=>none
def A7 (P:av) (t:au) (lo hi mx:Option bu) (xs:List AV):Option AV:=match lo,hi,mx with
 | none,some _,none=>match xs with
   | [x,.int _ (.ofNat j)]=>r6 P t x none<|some j
   | _=>none
 | some _,none,none=>match xs with
   | [x,.int _ (.ofNat i)]=>r6 P t x (some i) none
   | _=>none
 | some _,some _,none=>match xs with
   | [x,.int _ (.ofNat i),.int _ (.ofNat j)]=>r6 P t x (some i)<|some j
   | _=>none
 | none,some _,some _=>match xs with
   | [.sl b o n c q,.int _ (.ofNat j),.int _ (.ofNat m)]=>match dB P t with
     | some e=>cond (bC j m && bL m n) (some<|.sl b o j j true) none
     | none=>none
   | _=>none
 | some _,some _,some _=>match xs with
   | [.sl b o n c q,.int _ (.ofNat i),.int _ (.ofNat j),.int _ (.ofNat m)]=>match dB P t with
     | some e=>cond (bL i j && (bL j m && bL m n)) (cond (bC m i) (some<|.sl b o (j - i) (m - i) true)<|some<|.sl b (o+i*e) (j - i) (m - i) true) none
     | none=>none
   | _=>none
 | _,_,_=>none
section
variable {P:av} {r:Rn} {N:Fm} {σ:Nat→ah} {dst:Option Nat} {ty:au} {pos :String} {af:Array cI} {g:Option (Nat×Bool)} {x y z:bu}
theorem bG {α:Type} {c:Bool} {p:Option α} {q:α} (h:cond c p none=some q):c=true∧p=some q:=by
 cases c
 · cases h
 · exact ⟨U,h⟩
theorem nZ {b o n c:Nat} {q:Loc} (A:r b=some q) (h:n≤c):den r (.sl b o n c true)=some (.slice (some ⟨q.ax,q.sh+o,none⟩) n c):=by
 simp only [den,A,cond_true,B9 h]
theorem qS {b o n c:Nat} {q:Loc} (A:r b=some q) (h:c+n≤q.room):den r (.sl b o n c false)=some (.slice (some ⟨q.ax,q.sh+o,none⟩) n<|q.room - c):=by
 simp only [den,A,cond_true,cond_false,B9 h]
theorem A9 {e b o n c i j:Nat} {q:Bool} {v:AV} {u:ah} (h:A8 e b o n c q i j=some v) (hu:den r (.sl b o n c q)=some u):
 ∃ a cap,u= .slice a n cap∧n≤cap∧i≤j∧j≤cap∧den r v=some (.slice (dW a cap i e) (j - i)<|cap - i):=by
 unfold A8 at h;replace h:=bG h; obtain ⟨C,h⟩:=h;have C:=cG C;cases q
 · simp only [cond_false] at h;replace h:=bG h; obtain ⟨A,h⟩:=h;simp only [bP,lO] at A;obtain ⟨q,E,I,rfl⟩:=vQ hu;have M:=cG A.1;cases h;refine ⟨_,_,U,ag,C,ag,?_⟩;have L:dW (some ⟨q.ax,q.sh+o,none⟩) (q.room - c) i e=some ⟨q.ax,q.sh+(o+i*e),none⟩:=by
    unfold dW;rcases A.2 with A | A
    · obtain rfl :=cP A;split
      · simp
      · simp [fw]
    · have :=dk.1 A;rw [if_neg ag];simp [fw,iG]
   rw [L,qS E ag,show q.room - (c+i)=q.room - c - i from by omega]
 · simp only [cond_true] at h;replace h:=bG h; obtain ⟨A,h⟩:=h;have A:=cG A;obtain ⟨q,E,I,rfl⟩:=Dt hu;refine ⟨_,_,U,I,C,A,?_⟩;cases hb:bC c i
   · rw [hb] at h; cases h;have J:c≠i:=fun e=>by subst e; simp at hb
     rw [nZ E ag];simp only [dW,if_neg J,fg,fw,iG]
   · rw [hb] at h; cases h;obtain rfl :=cP hb;rw [nZ E ag];simp only [dW,if_true]
theorem oe {t:au} (h:isStr P t=true):P.underlying t=some .string:=by
 unfold isStr at h; split at h
 · assumption
 · cases h
theorem GS (c i e:Nat):dW none c i e=none:=by unfold dW; split <;> rfl
theorem PV (a:Option Addr) (c e:Nat):dW a c 0 e=a:=by
 unfold dW; split
 · rfl
 · cases a <;> simp [Addr.add]
theorem PX {t:au} {lo hi mx:Option bu} {xs:List AV} {v:AV} (h:A7 P t lo hi mx xs=some v) (V:bc r xs=some ((x::(lo.toList++(hi.toList++mx.toList))).map<|ev N σ)):
 YP P r N σ ⟨dst,.slice t x lo hi mx,ty,pos,af,g⟩ v:=by
 unfold A7 at h;split at h
 · rename_i z;split at h
   · rename_i a k j;obtain ⟨C,I⟩:=jN (u:=ev N σ x) (v:=ev N σ z) V;have E:=dF I;unfold r6 at h;split at h
     · replace h:=bG h; obtain ⟨A,h⟩:=h;simp only [bP,sW,jD] at A;cases h;refine ⟨_,U,fun w=>(se (oe A.1) (jk C) E ⟨ik _,?_⟩).trans ?_⟩
       · have :=cG A.2.2; simp; omega
       · simp
     · split at h
       · rename_i e he;obtain ⟨a,cap,hu,aa,J,L,M⟩:=A9 h C;simp only [sW,jD] at J L M;refine ⟨_,M,fun w=>(r9 he hu E ⟨ik _,by simp; omega⟩).trans ?_⟩;simp [PV]
       · cases h
     · split at h
       · rename_i e he;replace h:=bG h; obtain ⟨A,h⟩:=h;simp only [bP,sW,jD] at A;obtain rfl :=cP A.2;cases h;exact ⟨_,U,fun w=>r9 he (jQ C) E ⟨ik _,by simp⟩⟩
       · cases h
     · cases h
   · cases h
 · rename_i z;split at h
   · rename_i a k j;obtain ⟨C,I⟩:=jN (u:=ev N σ x) (v:=ev N σ z) V;have E:=dF I;unfold r6 at h;split at h
     · replace h:=bG h; obtain ⟨A,h⟩:=h;simp only [bP,sW,jD] at A;cases h;refine ⟨_,U,fun w=>(mD (oe A.1) (jk C) E ⟨ik _,?_⟩).trans ?_⟩
       · have :=cG A.2.1; simp; omega
       · simp
     · split at h
       · rename_i e he;obtain ⟨a,cap,hu,aa,J,L,M⟩:=A9 h C;simp only [sW,jD] at J L M;exact ⟨_,M,fun w=>um he hu E ⟨ik _,by simp; omega⟩⟩
       · cases h
     · split at h
       · rename_i e he;replace h:=bG h; obtain ⟨A,h⟩:=h;simp only [bP,sW,jD] at A;obtain rfl :=cP A.1;cases h;exact ⟨_,U,fun w=>(um he (jQ C) E ⟨ik _,by simp⟩).trans<|by simp [GS]⟩
       · cases h
     · cases h
   · cases h
 · rename_i y z;split at h
   · rename_i a k i ae j;obtain ⟨C,I,J⟩:=nY (u:=ev N σ x) (v:=ev N σ y) (t:=ev N σ z) V;have O:=dF I;have E:=dF J;unfold r6 at h;split at h
     · replace h:=bG h; obtain ⟨A,h⟩:=h;simp only [bP,jD] at A;cases h;have :=cG A.2.1;have :=cG A.2.2;exact ⟨_,U,fun w=>oG (oe A.1) (jk C) O E ⟨ik _,by simp; omega,by simp; omega⟩⟩
     · split at h
       · rename_i e he;obtain ⟨a,cap,hu,aa,L,M,ac⟩:=A9 h C;simp only [jD] at L M ac;exact ⟨_,ac,fun w=>xG he hu O E ⟨ik _,by simp; omega,by simp; omega⟩⟩
       · cases h
     · split at h
       · rename_i e he;replace h:=bG h; obtain ⟨A,h⟩:=h;simp only [bP,jD] at A;obtain rfl :=cP A.1;obtain rfl :=cP A.2;cases h;exact ⟨_,U,fun w=>(xG he (jQ C) O E ⟨ik _,by simp,by simp⟩).trans<|by simp [GS]⟩
       · cases h
     · cases h
   · cases h
 · rename_i y z;split at h
   · rename_i b o n c q k j ae m;obtain ⟨C,I,J⟩:=nY (u:=ev N σ x) (v:=ev N σ y) (t:=ev N σ z) V;have O:=dF I;have E:=dF J;split at h
     · rename_i e he;replace h:=bG h; obtain ⟨A,h⟩:=h;simp only [bP] at A;obtain rfl :=cP A.1;have :=cG A.2;cases h;obtain ⟨q,cap,ab,aa,hu,_⟩:=kh C;exact ⟨_,nZ ab (bf _),fun w=>CX he hu O E ag⟩
     · cases h
   · cases h
 · rename_i y z u;split at h
   · rename_i b o n c q k i ae j al m;obtain ⟨_,_,Z,C,L⟩:=fy V;obtain ⟨I,J,L⟩:=nY (u:=ev N σ y) (v:=ev N σ z) (t:=ev N σ u)<|by simp at Z; rw [L,← Z.2]
     have O:=dF I;have E:=dF J;have hu:=dF L;simp at Z;rw [← Z.1] at C;split at h
     · rename_i e he;replace h:=bG h; obtain ⟨A,h⟩:=h;simp only [bP] at A;have aj:=cG A.1;have ak:=cG A.2.1;have am:=cG A.2.2;obtain ⟨q,cap,ab,aa,ai,_⟩:=kh C;have ad:=fun w=>GW (dst:=dst) (ty:=ty) (pos :=pos) (af:=af) (g:=g) (w:=w) he ai O E hu ⟨aj,ak,ag⟩;cases hb:bC m i
       · rw [hb] at h; cases h;have ah:m≠i:=fun e=>by subst e; simp at hb
         refine ⟨_,nZ ab ag,fun w=>(ad w).trans ?_⟩;simp only [dW,if_neg ah,fg,fw,iG]
       · rw [hb] at h; cases h;obtain rfl :=cP hb;refine ⟨_,nZ ab ag,fun w=>(ad w).trans ?_⟩;simp only [dW,if_true]
     · cases h
   · cases h
 · cases h
end
end Go.Hb
namespace Go.Hb
def mX:AV→List AV
 | .agg l=>l
 | v=> [v]
theorem y9 {r:Rn} {v:AV} {u:ah} (h:den r v=some u):bc r (mX v)=some u.cells.toList:=by
 cases v with
 | agg l=>
   obtain ⟨us,C,rfl⟩:=tz h;simpa [mX,Value.cells] using C
 | bool b=>have :=kK h; subst this; exact fi h<|by simp [bc]
 | int k n=>have :=dF h; subst this; exact fi h<|by simp [bc]
 | str l=>have :=jk h; subst this; exact fi h<|by simp [bc]
 | ptr b o=>obtain ⟨q,A,rfl⟩:=kg h; exact fi h<|by simp [bc]
 | jq=>have :=qU h; subst this; exact fi h<|by simp [bc]
 | sl b o n c x=>obtain ⟨q,cap,A,_,rfl,_⟩:=kh h; exact fi h<|by simp [bc]
 | fZ=>have :=jQ h; subst this; exact fi h<|by simp [bc]
 | map b=>obtain ⟨q,A,rfl⟩:=ph h; exact fi h<|by simp [bc]
 | mq=>have :=Ds h; subst this; exact fi h<|by simp [bc]
 | fn f a c=>obtain ⟨_,_,_,_,rfl⟩:=n5 h; exact fi h<|by simp [bc]
 | iX l=>obtain ⟨q,A,rfl⟩:=zl h; exact fi h<|by simp [bc]
 | km=>have :=tA h; subst this; exact fi h<|by simp [bc]
 | jU t v=>obtain ⟨_,_,rfl⟩:=vP h; exact fi h<|by simp [bc]
 | fM=>have :=qT h; subst this; exact fi h<|by simp [bc]
 | dg l=>obtain ⟨_,_,rfl⟩:=Du h; exact fi h<|by simp [bc]
def xc:AV→Bool
 | .agg _ | .dg _=>false
 | _=>true
theorem On {r:Rn} {v:AV} {u:ah} (h:den r v=some u) (C:xc v=true):u.oneCell'=true :=by
 cases v with
 | agg l=>cases C
 | bool b=>have :=kK h; subst this; rfl
 | int k n=>have :=dF h; subst this; rfl
 | str l=>have :=jk h; subst this; rfl
 | ptr b o=>obtain ⟨q,A,rfl⟩:=kg h; rfl
 | jq=>have :=qU h; subst this; rfl
 | sl b o n c x=>obtain ⟨q,cap,A,_,rfl,_⟩:=kh h; rfl
 | fZ=>have :=jQ h; subst this; rfl
 | map b=>obtain ⟨q,A,rfl⟩:=ph h; rfl
 | mq=>have :=Ds h; subst this; rfl
 | fn f a c=>obtain ⟨_,_,_,_,rfl⟩:=n5 h; rfl
 | iX l=>obtain ⟨q,A,rfl⟩:=zl h; rfl
 | km=>have :=tA h; subst this; rfl
 | jU t v=>obtain ⟨_,_,rfl⟩:=vP h; rfl
 | fM=>have :=qT h; subst this; rfl
 | dg l=>cases C
def fD:List AV→Bool
 | []=>true
 | v::l=>cond (xc v) (fD l) false
theorem rC {r:Rn} :∀ {l:List AV} {us:List ah},bc r l=some us→fD l=true→∀ u∈us,u.oneCell'=true
 | [],us,h,_,u,hu=>by rw [me h] at hu; cases hu
 | v::l,us,h,h1,u,hu=>by
   obtain ⟨E,I,rfl,A,C⟩:=fy h;simp only [fD] at h1;cases hv:xc v
   · rw [hv] at h1; cases h1
   · rw [hv] at h1;rcases ej.1 hu with rfl | hu
     · exact On A hv
     · exact rC C h1 u hu
def po (pl:Nat→Option (Nat×Nat)):List AV→List (Nat×AV)→Option (List AV)
 | A,[]=>some A
 | A,(i,v)::ps=>match pl i with
   | some (off,s)=>cond (bC (mX v).length s && bL (off+s) A.length) (po pl (A.take off++(mX v++A.drop (off+s))) ps) none
   | none=>none
theorem D7:∀ (l:List ah) (m off :Nat) (cs:Array ah),off+m+l.length≤cs.size→
 (l.zipIdx m).foldl (fun (cs:Array ah) (c,j)=>cs.setIfInBounds (off+j) c) cs=(cs.toList.take (off+m)++(l++cs.toList.drop (off+m+l.length))).toArray
 | [],m,off,cs,h=>by simp
 | c::l,m,off,cs,h=>by
   simp only [List.zipIdx_cons,List.foldl_cons,cg] at h ⊢;rw [D7 l (m+1) off _ (by simp; omega)];apply sF.1;have A:off+m < cs.toList.length:=by rw [qf]; omega
   simp only [Array.toList_setIfInBounds];rw [show off+(m+1)=off+m+1 from by omega,GO A,GN ag,show off+m+1 +l.length=off+m+(l.length+1) from by omega];simp
theorem zB {r:Rn} {pl:Nat→Option (Nat×Nat)} :∀ {ps:List (Nat×AV)} {I L:List AV} {Z:List ah} {vs:List (Nat×ah)},po pl I ps=some L→bc r I=some Z→
 vs.map dj=ps.map dj→bc r (ps.map jE)=some (vs.map jE)→∃ C,bc r L=some C∧kz pl Z.toArray vs=some C.toArray
 | [],I,L,Z,vs,h,hz,A,E=>by
   simp only [po,bR] at h;subst h;obtain rfl :vs= []:=by simpa using A
   exact ⟨Z,hz,U⟩
 | (i,v)::ps,I,L,Z,vs,h,hz,A,E=>by
   cases vs with
   | nil=>simp at A
   | cons p vs=>
     obtain ⟨j,u⟩:=p;simp only [eS,j4] at A;obtain ⟨rfl,A⟩:=A;simp only [eS] at E;obtain ⟨al,am,he,ag,E⟩:=fy E;simp only [j4] at he;obtain ⟨rfl,rfl⟩:=he;simp only [po] at h;split at h
     · rename_i off s ae;replace h:=bG h; obtain ⟨J,h⟩:=h;simp only [bP] at J;have V:=cP J.1;have aj:=cG J.2;have M:=y9 ag;have ad:=eb M;have ak:=eb hz;have ai:=gL (kJ off hz)<|gL M<|lA (off+s) hz;obtain ⟨C,aa,ab⟩:=zB h ai A E;refine ⟨C,aa,?_⟩;have O:u.cells.size=s:=by rw [← qf,ad,V]
       simp only [kz,ae,O];rw [if_neg (by simp; omega),← ab];congr 1;have ac:=D7 u.cells.toList 0 off Z.toArray<|by simp; omega
       rw [show u.cells.zipIdx.foldl (fun (cs:Array ah) (c,j)=>cs.setIfInBounds (off+j) c) Z.toArray=((u.cells.toList.zipIdx 0).foldl (fun (cs:Array ah) (c,j)=>cs.setIfInBounds (off+j) c) Z.toArray) from by
        rw [← yb]; simp [Array.toList_zipIdx],ac]
       simp [O]
     · cases h
def nE:List (Nat×bu)→List AV→List (Nat×AV)
 | p::ps,v::vs=>(p.1,v)::nE ps vs
 | _,_=> []
theorem BI {r:Rn} {f:bu→ah} :∀ {ps:List (Nat×bu)} {xs:List AV},bc r xs=some ((ps.map (·.2)).map f)→
 (ps.map fun p=>(p.1,f p.2)).map dj=(nE ps xs).map dj∧bc r ((nE ps xs).map jE)=some ((ps.map fun p=>(p.1,f p.2)).map jE)
 | [],xs,h=>by
   have :=eb h;obtain rfl :xs= []:=j5<|by simpa using this.symm
   simp [nE,bc]
 | p::ps,[],h=>by have :=eb h; simp at this
 | p::ps,v::xs,h=>by
   simp only [eS] at h;obtain ⟨u,us,he,A,C⟩:=fy h;simp only [j4] at he;obtain ⟨rfl,rfl⟩:=he;obtain ⟨E,I⟩:=BI (f:=f) C;refine ⟨?_,?_⟩
   · simp only [eS,nE,j4,true_and]; exact E
   · simp only [eS,nE]; exact fi A I
def C0 (P:av) (t u:au) (n:Int):Option AV:=match P.underlying u with
 | some (.int k)=>cond (P.underlying t).isSome (gG k<|qa k n) none
 | _=>none
def yW (P:av) (b:Builtin) (A:Array au) (xs:List AV):Option AV:=match b with
 | .len=>match xs,A with
   | [.str l],⟨[t]⟩=>cond (isStr P t) (gG .i64 l.length) none
   | [.sl _ _ n _ _],⟨[t]⟩=>cond (lG P t) (gG .i64 n) none
   | [.fZ],⟨[t]⟩=>cond (lG P t) (gG .i64 0) none
   | _,_=>none
 | .min =>match xs with
   | [.int k a,.int k' b]=>cond (bC (eX k)<|eX k') (gG k<|min a b) none
   | _=>none
 | .max =>match xs with
   | [.int k a,.int k' b]=>cond (bC (eX k)<|eX k') (gG k<|max a b) none
   | _=>none
 | _=>none
def CC (P:av) (t:au):Option (Nat×Nat):=match P.underlying t with
 | some (.array n e)=>match P.info? e with
   | some i=>match dA P e with
     | some none=>some (n,i.size)
     | _=>none
   | none=>none
 | _=>none
def pP (P:av) (o:Op) (xs:List AV):Option AV:=match o with
 | .move _=>match xs with
   | [x]=>some x
   | _=>none
 | .assign _=>match xs with
   | [x]=>some x
   | _=>none
 | .pick _ _ _=>match xs with
   | [.bool true,a,_]=>some a
   | [.bool false,_,b]=>some b
   | _=>none
 | .nilCheck _=>match xs with
   | [.ptr b o]=>some<|.ptr b o
   | _=>none
 | .extract _ i=>match xs with
   | [.dg l]=>l[i]?
   | _=>none
 | .fieldAddr s _ f=>match xs with
   | [.ptr b o]=>match qZ P s f with
     | some n=>some<|.ptr b<|o+n
     | none=>none
   | _=>none
 | .field s _ f=>match xs with
   | [.agg l]=>match zz P s f with
     | some n=>l[n]?
     | none=>match zA P s f with
       | some (C,off)=>match dA P C with
         | some (some n)=>some<|.agg<|(l.drop off).take n
         | _=>none
       | none=>none
   | _=>none
 | .indexAddr s _ _=>match xs with
   | [.sl b o n _ _,.int _ (.ofNat i)]=>match dB P s with
     | some e=>cond (ba i n) (some<|.ptr b<|o+i*e) none
     | none=>none
   | [.ptr b o,.int _ (.ofNat i)]=>match mW P s with
     | some (n,e)=>cond (ba i n) (some<|.ptr b<|o+i*e) none
     | none=>none
   | _=>none
 | .index t _ _=>match xs with
   | [.str l,.int _ (.ofNat i)]=>cond (isStr P t) (match l[i]? with
     | some c=>gG .u8 c.toNat
     | none=>none) none
   | [.agg l,.int _ (.ofNat i)]=>match CC P t with
     | some (n,s)=>cond (ba i n) l[i*s]? none
     | none=>none
   | _=>none
 | .binOp op t x y _=>match xs with
   | [a,b]=>yV P (bj x || bj y) op t a b
   | _=>none
 | .unOp .not _ _=>match xs with
   | [.bool b]=>some<|.bool<|!b
   | _=>none
 | .convert t u _=>match xs with
   | [.int _ n]=>C0 P t u n
   | _=>none
 | .slice t _ lo hi mx=>A7 P t lo hi mx xs
 | .makeInterface t _=>match xs with
   | [x]=>cond (ml P t) (some<|.jU t x) none
   | _=>none
 | .typeAssert _ _ a true =>match xs with
   | [.fM]=>cond (ml P a) (match zeroV P a with
     | some z=>match kR 4 z with
       | some z=>some<|.dg [z,.bool false]
       | none=>none
     | none=>none) none
   | [.jU t v]=>cond (ml P a && bC t a) (some<|.dg [v,.bool true]) none
   | _=>none
 | .makeFunc (.func f) ⟨a⟩ _=>some<|.fn f (xs.take a.length)<|xs.drop a.length
 | .build t ⟨ps⟩=>match eG P t with
   | some (pl,A)=>match mr (kR 4) A with
     | some A=>match po (fun i=>pl.toArray[i]?) A (nE ps xs) with
       | some l=>some<|.agg l
       | none=>none
     | none=>none
   | none=>none
 | .call ⟨.builtin b,_,ts⟩=>yW P b ts xs
 | _=>none
section
variable {P:av} {r:Rn} {N:Fm} {σ:Nat→ah} {dst:Option Nat} {ty:au} {pos :String} {af:Array cI} {g:Option (Nat×Bool)} {x y z:bu}
theorem tL {t:au} (h:lG P t=true):∃ e,P.underlying t=some (.slice e):=by
 unfold lG at h; split at h
 · exact ⟨_,by assumption⟩
 · cases h
theorem Kh {b:Builtin} {l:List bu} {J:Array au} {xs:List AV} {v:AV} (h:yW P b J xs=some v) (E:bc r xs=some (l.map<|ev N σ)):YP P r N σ ⟨dst,.call ⟨.builtin b,⟨l⟩,J⟩,ty,pos,af,g⟩ v:=by
 unfold yW at h;have one:∀ {a:AV},bc r [a]=some (l.map<|ev N σ)→∃ x,l= [x]∧den r a=some (ev N σ x):=by
  intro a h;have :=eb h;simp at this;obtain ⟨x,rfl⟩:=uW.1 this;exact ⟨x,U,gn h⟩
 have two:∀ {a b:AV},bc r [a,b]=some (l.map<|ev N σ)→∃ x y,l= [x,y]∧den r a=some (ev N σ x)∧den r b=some (ev N σ y):=by
  intro a b h;have :=eb h;simp at this;obtain ⟨x,y,rfl⟩:∃ x y,l= [x,y]:=by
   match l,this with
   | [x,y],_=>exact ⟨x,y,rfl⟩
  exact ⟨x,y,U,jN h⟩
 split at h
 · split at h
   · obtain ⟨x,rfl,C⟩:=one E;replace h:=bG h; obtain ⟨A,h⟩:=h;rw [hH] at h; cases h;exact ⟨_,U,fun w=>E7 (oe A) U<|jk C⟩
   · obtain ⟨x,rfl,C⟩:=one E;replace h:=bG h; obtain ⟨A,h⟩:=h;rw [hH] at h; cases h;obtain ⟨e,he⟩:=tL A;obtain ⟨q,cap,M,_,hu,_⟩:=kh C;exact ⟨_,U,fun w=>Ae he U hu⟩
   · obtain ⟨x,rfl,C⟩:=one E;replace h:=bG h; obtain ⟨A,h⟩:=h;rw [hH] at h; cases h;obtain ⟨e,he⟩:=tL A;exact ⟨_,U,fun w=>Ae he U<|jQ C⟩
   · cases h
 · split at h
   · rename_i k a L b;obtain ⟨x,y,rfl,C,I⟩:=two E;replace h:=bG h; obtain ⟨A,h⟩:=h;obtain rfl :=pD A;rw [hH] at h; cases h;exact ⟨_,U,fun w=>mn (dF C)<|dF I⟩
   · cases h
 · split at h
   · rename_i k a L b;obtain ⟨x,y,rfl,C,I⟩:=two E;replace h:=bG h; obtain ⟨A,h⟩:=h;obtain rfl :=pD A;rw [hH] at h; cases h;exact ⟨_,U,fun w=>mx (dF C)<|dF I⟩
   · cases h
 · cases h
theorem Kg {t:au} {parts:Array (Nat×bu)} {pl:List (Nat×Nat)} {C L:List ah} (h:eG P t=some (pl,C)) (A:kz (pl.toArray[·]?) C.toArray (parts.toList.map fun p=>(p.1,ev N σ p.2))=some L.toArray) (w:ai):
 (execOp (ev N σ) ⟨dst,.build t parts,ty,pos,af,g⟩).run P w= .ok (.value<|.agg L.toArray) w:=by
 unfold eG at h;split at h
 · rename_i it fields hi hu;split at h
   · rename_i z I E hm;simp only [bR,kF] at h;obtain ⟨rfl,rfl⟩:=h;have hb:P.built t (parts.map fun p=>(p.1,ev N σ p.2)).toList=some L.toArray:=by
      simp only [Array.toArray_toList] at A;simp only [Program.built,hi,hu,E,hm,jx]; exact A
     simp [execOp,run_build w t _ _ hb]
   · cases h
 · cases h
theorem FO {o:Op} {xs:List AV} {v:AV} (h:pP P o xs=some v) (E:bc r xs=some ((iB o).map<|ev N σ)):YP P r N σ ⟨dst,o,ty,pos,af,g⟩ v:=by
 unfold pP at h;split at h
 · split at h
   · cases h; exact ⟨_,gn E,fun w=>mv⟩
   · cases h
 · split at h
   · cases h; exact ⟨_,gn E,fun w=>aU⟩
   · cases h
 · split at h
   · cases h;obtain ⟨A,I,aa⟩:=nY E;exact ⟨_,I,fun w=>rL<|kK A⟩
   · cases h;obtain ⟨A,I,aa⟩:=nY E;exact ⟨_,aa,fun w=>rK<|kK A⟩
   · cases h
 · split at h
   · cases h;have A:=gn E;obtain ⟨q,O,hu⟩:=kg A;exact ⟨_,A.trans (by rw [hu]),fun w=>nc hu⟩
   · cases h
 · split at h
   · obtain ⟨us,L,hu⟩:=Du<|gn E;obtain ⟨u,V,Z⟩:=qR L h;exact ⟨u,Z,fun w=>xt hu<|by simpa using V⟩
   · cases h
 · split at h
   · split at h
     · rename_i n hn;cases h;obtain ⟨q,O,hu⟩:=kg<|gn E;exact ⟨_,by simp only [den,O]; rfl,fun w=>(fa hn hu).trans<|by rw [iG]⟩
     · cases h
   · cases h
 · split at h
   · split at h
     · rename_i n hn;obtain ⟨us,L,hu⟩:=tz<|gn E;obtain ⟨u,V,Z⟩:=qR L h;exact ⟨u,Z,fun w=>Mm hn hu<|by simpa using V⟩
     · split at h
       · rename_i ao off aj;split at h
         · rename_i n ha;cases h;obtain ⟨us,L,hu⟩:=tz<|gn E;have A:=kJ n<|lA off L;exact ⟨_,by simp only [den,A],fun w=>Mw aj ha hu U⟩
         · cases h
       · cases h
   · cases h
 · split at h
   · split at h
     · rename_i e he;replace h:=bG h; obtain ⟨J,h⟩:=h;cases h;obtain ⟨A,I⟩:=jN E;obtain ⟨q,cap,O,L,hu,_⟩:=kh A;have :=dk.1 J;refine ⟨_,by simp only [den,O]; rfl,fun w=>(ia he hu (dF I) ⟨ik _,by simp; omega⟩).trans ?_⟩;simp [iG]
     · cases h
   · split at h
     · rename_i n e he;replace h:=bG h; obtain ⟨J,h⟩:=h;cases h;obtain ⟨A,I⟩:=jN E;obtain ⟨q,O,hu⟩:=kg A;have :=dk.1 J;refine ⟨_,by simp only [den,O]; rfl,fun w=>(pC he hu (dF I) ⟨ik _,by simp; omega⟩).trans ?_⟩;simp [iG]
     · cases h
   · cases h
 · split at h
   · rename_i t _ _ l k i;replace h:=bG h; obtain ⟨J,h⟩:=h;obtain ⟨A,I⟩:=jN E;split at h
     · rename_i c L;rw [hH] at h; cases h;obtain ⟨am,ae⟩:=dt.1 L;refine ⟨_,U,fun w=>(dc (oe J) (jk A) (dF I) am).trans ?_⟩;simp [cQ,L]
     · cases h
   · rename_i l k i;split at h
     · rename_i n s M;replace h:=bG h; obtain ⟨J,h⟩:=h;have J:=dk.1 J;obtain ⟨A,I⟩:=jN E;obtain ⟨us,L,hu⟩:=tz A;obtain ⟨u,V,Z⟩:=qR L h;have an:=dF I;unfold CC at M;split at M
       · rename_i ap e hn;split at M
         · rename_i j ak;split at M
           · rename_i ha;cases M;refine ⟨u,Z,fun w=> ?_⟩;have ae:us.toArray[i*j.size]? =some u:=by simpa using V
             have h0:(0:Int)≤mP i∧mP i < (n:Int):=⟨ik _,by simp; omega⟩
             simp only [execOp,Instr.index,hu,an,asIntOf,iE,kA,ij,bS hn,Sem.run_ite,h0,and_self,if_true,sizeOf,eh ak,part,Gx ha];simp [ae]
           · cases M
         · cases M
       · cases M
     · cases h
   · cases h
 · split at h
   · obtain ⟨A,I⟩:=jN E;exact Kf (fun h=>h) h A I
   · cases h
 · split at h
   · cases h; exact ⟨_,rfl,fun w=>no<|kK<|gn E⟩
   · cases h
 · split at h
   · unfold C0 at h;split at h
     · rename_i k al;replace h:=bG h; obtain ⟨J,h⟩:=h;rw [hH,uD] at h; cases h;exact ⟨_,U,fun w=>Ld al J (dF<|gn E) U⟩
     · cases h
   · cases h
 · exact PX h E
 · split at h
   · replace h:=bG h; obtain ⟨J,h⟩:=h;cases h;have A:=gn E;exact ⟨_,by simp only [den,A],fun w=>Av J U⟩
   · cases h
 · split at h
   · replace h:=bG h; obtain ⟨J,h⟩:=h;split at h
     · rename_i z ab;split at h
       · rename_i au ac;cases h;have aa:=oy (r:=r) 4 ac;exact ⟨_,by simp [den,bc,aa],fun w=>Hr J ab<|qT<|gn E⟩
       · cases h
     · cases h
   · replace h:=bG h; obtain ⟨J,h⟩:=h;simp only [bP] at J;obtain rfl :=cP J.2;cases h;obtain ⟨ar,A,I⟩:=vP<|gn E;exact ⟨_,by simp [den,bc,A],fun w=>Hq J.1 I⟩
   · cases h
 · rename_i f a c;cases h;simp only [iB,kE] at E;obtain ⟨c⟩:=c;simp only at E;have A:=kJ a.length E;have I:=lA a.length E;rw [List.take_left' (by simp)] at A;rw [List.drop_left' (by simp)] at I;exact ⟨_,by simp only [den,A,I],fun w=>rq⟩
 · rename_i t ps;split at h
   · rename_i pl av M;split at h
     · rename_i aw ab;split at h
       · rename_i l ah;cases h;have ac:=rB (r:=r) (fun v a=>oy 4) ab;obtain ⟨A,I⟩:=BI (f:=ev N σ) E;obtain ⟨C,ag,ai⟩:=zB ah ac A I;exact ⟨.agg C.toArray,by simp only [den,ag],fun w=>Kg M ai w⟩
       · cases h
     · cases h
   · cases h
 · rename_i b ad aq;obtain ⟨ad⟩:=ad;exact Kh h E
 · cases h
end
end Go.Hb
namespace Go.Hb
theorem Fg {r s:Rn} (h:r.le s):∀ {l:List (AV×AV)} {es:List MapEntry},iy r l es→iy s l es
 | [],[],_=>trivial
 | p::l,m::es,hm=>⟨m8 h hm.1,m8 h hm.2.1,Fg h hm.2.2⟩
 | [],_::_,hm=>hm.elim
 | _::_,[],hm=>hm.elim
theorem OR.le {P:av} {r s:Rn} (h:r.le s) {q:Loc} {o:AO} {ob:Option Obj} (I:OR P r q o ob):OR P s q o ob:=by
 cases o with
 | cells l e fz ex=>obtain ⟨c,fr,us,A,C,E⟩:=I; exact ⟨c,fr,us,A,jO h C,E⟩
 | map l=>obtain ⟨es,c,A,C,E⟩:=I; exact ⟨es,c,A,Fg h C,E⟩
 | loop st U n fr ps aU body D=>
   obtain ⟨fn,L,O,A,⟨x,C,E⟩,h4,h5⟩:=I;refine ⟨fn,L,O,A,⟨x,h _ _ C,E⟩,h4,fun i hi=> ?_⟩;have J:=h5 i hi;have M:i < L.size:=ag;rw [qe M] at J ⊢;exact m8 h J
 | m9 b=>exact I
 | Bi l p=>exact I
structure HR (P:av) (G:Nat) (r:Rn) (T:Nat) (h:Hp) (w:ai):Prop where
 live:∀ i o,h.t.get i=some o→∃ q,r i=some q∧OR P r q o w.heap[q.ax]?
 inj:∀ i j o o' q q',h.t.get i=some o→h.t.get j=some o'→r i=some q→r j=some q'→q.ax=q'.ax→i=j
 new:∀ i,h.nx≤i→i < T→r i=none
 gZ:qF G r
 base:G≤h.nx
def Fr (G:Nat) (r:Rn) (h:Hp) (k:Nat):Prop := ∃ i o q,G≤i∧h.t.get i=some o∧r i=some q∧q.ax=k
structure St (P:av) (G T:Nat) (r:Rn) (h:Hp) (w:ai) (r':Rn) (h':Hp) (w':ai):Prop where
 le:r.le r'
 hr:HR P G r' T h' w'
 nx:h.nx≤h'.nx
 md:Md (Fr G r h) w w'
 fC:∀ g,g≤G→∀ k,k < w.heap.size→Fr g r' h' k→Fr g r h k
 out:∀ i,h'.nx≤i→r' i=r i
theorem St.trans {P:av} {G T:Nat} {r r' L:Rn} {h E I:Hp} {w w' w'':ai} (a:St P G T r h w r' E w') (b:St P G T r' E w' L I w''):St P G T r h w L I w'':=
 ⟨Rn.le_trans a.le b.le,b.hr,cR a.nx b.nx,Md.trans' a.md b.md (fun k A C=>a.fC G (bf _) k A C),fun g J k A C=>a.fC g J k A (b.fC g J k (oT A a.md.size) C),fun i hi=>(b.out i hi).trans<|a.out i<|cR b.nx hi⟩
theorem St.refl {P:av} {G T:Nat} {r:Rn} {h:Hp} {w:ai} (hr:HR P G r T h w):St P G T r h w r h w:=⟨Rn.le_refl r,hr,bf _,Md.refl _ _,fun _ _ _ _ h=>h,fun _ _=>rfl⟩
theorem St.drew {P:av} {G T:Nat} {r r':Rn} {h A:Hp} {w w':ai} (a:St P G T r h w.drew r' A w'):St P G T r h w r' A w':=⟨a.le,a.hr,a.nx,⟨a.md.os,a.md.output,a.md.size,a.md.dC⟩,a.fC,a.out⟩
section
variable {P:av} {G:Nat} {r:Rn} {T:Nat} {h:Hp} {w:ai}
theorem HR.drew (hr:HR P G r T h w):HR P G r T h w.drew:=⟨hr.live,hr.inj,hr.new,hr.gZ,hr.base⟩
theorem HR.cells (hr:HR P G r T h w) {b:Nat} {l:List AV} {e fz:Nat} {ex:Ck} (hb:h.t.get b=some (.cells l e fz ex)):
 ∃ q us,r b=some q∧bc r l=some us∧(∀ j u,us[j]? =some u→aH w.heap q.ax (q.sh+j)=some u)∧∃ c fr,w.heap[q.ax]? =some (.cells c e fr):=by
 obtain ⟨q,J,c,fr,us,A,C,L,E,_⟩:=hr.live b _ hb;exact ⟨q,us,J,C,fun j u I=>by rw [eB A]; exact E j u I,c,fr,A⟩
def YL (P:av) (r:Rn) (N:Fm) (σ:Nat→ah) (o:aO) (w:ai) (v:AV):Prop := ∃ u,den r v=some u∧(execOp (ev N σ) o).run P w= .ok (.value u) w
end
def pY:List AV→Option (List UInt8)
 | []=>some []
 | .int .u8 (.ofNat n)::l=>match pY l with
   | some m=>cond (ba n 256) (some (gi n::m)) none
   | none=>none
 | _=>none
theorem Bp {r:Rn} :∀ {l:List AV} {m:List UInt8} {us:List ah},pY l=some m→bc r l=some us→us=U8 m
 | [],m,us,h,hd=>by simp only [pY,bR] at h; subst h; rw [me hd]; rfl
 | a::l,m,us,h,hd=>by
   unfold pY at h;split at h
   · rename_i h0; cases h0
   · rename_i n I h0;cases h0;split at h
     · rename_i J hm;replace h:=bG h; obtain ⟨E,h⟩:=h;cases h;obtain ⟨u,L,rfl,A,C⟩:=fy hd;obtain rfl :=dF A;obtain rfl :=Bp hm C;have :=dk.1 E;simp only [U8,eS,j4,and_true];congr 1;exact (QP n this).symm
     · cases h
   · cases h
inductive KK | s | i (k:bX) | bs
def pH (P:av) (k:au) (a:AV):Option KK:=match a with
 | .str _=>cond (isStr P k) (some .s) none
 | .int q _=>match P.underlying k with
   | some (.int _)=>some<|.i q
   | _=>none
 | .agg _=>cond (pb P k) (some .bs) none
 | _=>none
def eO (A:KK) (a:AV):Bool:=match A,a with
 | .s,.str _=>true
 | .i k,.int k' _=>bC (eX k)<|eX k'
 | .bs,.agg [.bool _,.str _]=>true
 | _,_=>false
def gF (A:KK):List (AV×AV)→Bool
 | []=>true
 | p::l=>cond (eO A p.1) (gF A l) false
def re:KK→ah→Prop
 | .s=>M1
 | .i k=>EH k
 | .bs=>zY
where M1 (v:ah):Prop := ∃ s:List UInt8,v=str s
def iw (a b:AV):Bool:=match a,b with
 | .str l,.str m=>jR l m
 | .int _ a,.int _ b=>decide (a=b)
 | .agg [.bool a,.str l],.agg [.bool b,.str m]=>cond (a==b) (jR l m) false
 | _,_=>false
def oh (x:AV):List (AV×AV)→Option AV
 | []=>none
 | p::l=>cond (iw p.1 x) (some p.2)<|oh x l
section
variable {P:av} {r:Rn}
theorem wy {C:KK} {a:AV} {u:ah} (h:eO C a=true) (A:den r a=some u):re C u:=by
 unfold eO at h;split at h
 · exact ⟨_,jk A⟩
 · rename_i k O n;obtain rfl :=pD h;exact ⟨_,dF A⟩
 · obtain ⟨us,E,rfl⟩:=tz A;obtain ⟨V,aa,rfl,I,J⟩:=fy E;obtain ⟨Z,ab,rfl,L,M⟩:=fy J;obtain rfl :=me M;obtain rfl :=kK I;obtain rfl :=jk L;exact ⟨_,_,U⟩
 · cases h
theorem ET {a:AV} (h:eO .s a=true):∃ l,a= .str l:=by
 cases a with
 | str l=>exact ⟨l,rfl⟩
 | _=>exact dS (show false =true from h)
theorem ES {k:bX} {a:AV} (h:eO (.i k) a=true):∃ n,a= .int k n:=by
 cases a with
 | int A n=>exact ⟨n,by rw [pD (show bC (eX k) (eX A)=true from h)]⟩
 | _=>exact dS (show false =true from h)
theorem ER {a:AV} (h:eO .bs a=true):∃ f l,a= .agg [.bool f,.str l]:=by
 unfold eO at h;split at h <;> first
  | exact ⟨_,_,rfl⟩
  | contradiction
  | (exfalso; cases h; done)
  | (rename_i A; cases A; done)
  | (rename_i A _; cases A; done)
theorem Dr {f:Bool} {l:List UInt8} {u:ah} (h:den r (.agg [.bool f,.str l])=some u):u= .agg #[.bool f,str l]:=by simpa [den,bc] using h.symm
theorem str_inj {l m:List UInt8} (h:str l=str m):l=m:=by unfold str at h; cases h; rfl
theorem nj {I:KK} {a b:AV} {u v:ah} (A:eO I a=true) (C:eO I b=true) (hu:den r a=some u) (E:den r b=some v):iw a b=true↔u=v:=by
 cases I with
 | s=>
   obtain ⟨l,rfl⟩:=ET A;obtain ⟨m,rfl⟩:=ET C;rw [jk hu,jk E];simp only [iw,qW,decide_eq_true_iff];exact ⟨fun h=>by rw [h],str_inj⟩
 | i k=>
   obtain ⟨l,rfl⟩:=ES A;obtain ⟨m,rfl⟩:=ES C;rw [dF hu,dF E];simp only [iw,decide_eq_true_iff];exact ⟨fun h=>by rw [h],fun h=>by cases h; rfl⟩
 | bs=>
   obtain ⟨f,l,rfl⟩:=ER A;obtain ⟨g,m,rfl⟩:=ER C;rw [Dr hu,Dr E];simp only [iw,qW];cases hab:(f==g)
   · have :f≠g:=by simpa using hab
     exact ⟨fun h=>dS h,fun h=>by simp at h; exact absurd h.1 this⟩
   · obtain rfl :f=g:=by simpa using hab
     simp only [cond_true,decide_eq_true_iff];exact ⟨fun h=>by rw [h],fun h=>by simp at h; exact str_inj h⟩
theorem z6 {k:au} {a:AV} {C:KK} (h:pH P k a=some C):qG P k (re C):=by
 unfold pH at h;split at h
 · replace h:=bG h; obtain ⟨A,h⟩:=h;cases h;exact (z1<|oe A).key
 · split at h
   · cases h; exact (EO<|by assumption).key
   · cases h
 · replace h:=bG h; obtain ⟨A,h⟩:=h;cases h;exact Nf A
 · cases h
theorem wS {A:KK} :∀ {l:List (AV×AV)} {es:List MapEntry},iy r l es→gF A l=true→∀ p∈es.map (fun e=>(e.key,e.val)),re A p.1
 | [],[],_,_,p,hp=>by simp at hp
 | q::l,m::es,hm,hk,p,hp=>by
   simp only [gF] at hk;cases h1:eO A q.1
   · rw [h1] at hk; cases hk
   · rw [h1] at hk;rcases ej.1 hp with rfl | hp
     · exact wy h1 hm.1
     · exact wS hm.2.2 hk p hp
 | [],_::_,hm,_,_,_=>hm.elim
 | _::_,[],hm,_,_,_=>hm.elim
theorem EN {E:KK} {x v:AV} {kx:ah} (C:eO E x=true) (A:den r x=some kx):∀ {l:List (AV×AV)} {es:List MapEntry},iy r l es→gF E l=true→oh x l=some v→∃ u,den r v=some u∧(kx,u)∈es.map (fun e=>(e.key,e.val))
 | [],_,_,_,h=>by cases h
 | q::l,[],hm,_,_=>hm.elim
 | q::l,m::es,hm,hk,h=>by
   simp only [gF] at hk;cases h1:eO E q.1
   · rw [h1] at hk; cases hk
   · rw [h1] at hk;simp only [oh] at h;cases he:iw q.1 x
     case true =>
      have he:=(nj h1 C hm.1 A).1 he;rw [(nj h1 C hm.1 A).2 he] at h;cases h;exact ⟨m.val,hm.2.1,by rw [← he]; exact lS⟩
     case false =>
      rw [he] at h;obtain ⟨u,I,J⟩:=EN C A hm.2.2 hk h;exact ⟨u,I,mQ _ J⟩
theorem zZ {C:KK} {x:AV} {kx:ah} (I:eO C x=true) (E:den r x=some kx):∀ {l:List (AV×AV)} {es:List MapEntry},iy r l es→gF C l=true→oh x l=none→∀ v,(kx,v)∉es.map (fun e=>(e.key,e.val))
 | [],[],_,_,_,v=>by simp
 | [],_::_,hm,_,_,_=>hm.elim
 | q::l,[],hm,_,_,_=>hm.elim
 | q::l,m::es,hm,hk,h,v=>by
   simp only [gF] at hk;cases h1:eO C q.1
   · rw [h1] at hk; cases hk
   · rw [h1] at hk;simp only [oh] at h;cases he:iw q.1 x
     case true =>rw [he] at h; cases h
     case false =>
      rw [he] at h;intro J;rcases ej.1 J with A | A
      · cases A; have :=(nj h1 I hm.1 E).2 rfl; rw [he] at this; cases this
      · exact zZ I E hm.2.2 hk h v A
end
end Go.Hb
namespace Go.Hb
def C1 (P:av) (t u:au) (x:AV) (h:Hp):Option AV:=match x with
 | .sl _ _ 0 _ _=>match P.underlying t with
   | some (.slice e)=>cond (nX P t e u) (some<|.str []) none
   | _=>none
 | .sl b o n _ _=>match h.t.get b with
   | some (.cells l e _ _)=>cond (nX P t e u && bL (o+n) l.length) (match pY ((l.drop o).take n) with
     | some m=>some<|.str m
     | none=>none) none
   | _=>none
 | .fZ=>match P.underlying t with
   | some (.slice e)=>cond (nX P t e u) (some<|.str []) none
   | _=>none
 | .ptr b 0=>match h.t.get b with
   | some (.cells l e 0 .x)=>cond (pZ P t u e l.length || pZ P u t e l.length) (some<|.ptr b 0) none
   | _=>none
 | _=>none
def wz (P:av) (t:au) (x:AV) (h:Hp):Option AV:=match x with
 | .ptr b o=>match h.t.get b with
   | some (.cells l _ _ _)=>match dA P t with
     | some none=>l[o]?
     | some (some n)=>cond (bL (o+n) l.length) (some<|.agg<|(l.drop o).take n) none
     | none=>none
   | _=>none
 | _=>none
def kU (P:av) (o:Op) (xs:List AV) (h:Hp):Option AV:=match o with
 | .load t _=>match xs with
   | [x]=>wz P t x h
   | _=>none
 | .lookup t _ _ ok=>match xs with
   | [.map b,k]=>match h.t.get b with
     | some (.map l)=>match P.underlying t with
       | some (.map kt e)=>match pH P kt k with
         | some A=>cond (eO A k && gF A l) (match oh k l with
           | some v=>some<|cond ok (.dg [v,.bool true]) v
           | none=>match zeroV P e with
             | some z=>match kR 4 z with
               | some z=>some<|cond ok (.dg [z,.bool false]) z
               | none=>none
             | none=>none) none
         | none=>none
       | _=>none
     | _=>none
   | _=>none
 | .convert t u _=>match xs with
   | [x]=>C1 P t u x h
   | _=>none
 | .slice t _ none none none=>match xs with
   | [.ptr b 0]=>match h.t.get b with
     | some (.cells _ _ _ .x)=>match mW P t with
       | some (n,_)=>some<|.sl b 0 n n true
       | none=>none
     | _=>none
   | _=>none
 | .call ⟨.builtin .len,_,⟨[t]⟩⟩=>match xs with
   | [.map b]=>match h.t.get b with
     | some (.map l)=>match P.underlying t with
       | some (.map _ _)=>gG .i64 l.length
       | _=>none
     | _=>none
   | _=>none
 | _=>none
section
variable {P:av} {G:Nat} {r:Rn} {T:Nat} {h:Hp} {w:ai} {N:Fm} {σ:Nat→ah} {dst:Option Nat} {ty:au} {pos :String} {af:Array cI} {g:Option (Nat×Bool)} {x y z:bu}
theorem Fh:∀ {l:List (AV×AV)} {es:List MapEntry},iy r l es→es.length=l.length
 | [],[],_=>rfl
 | p::l,m::es,hm=>by simp [Fh hm.2.2]
 | [],_::_,hm=>hm.elim
 | _::_,[],hm=>hm.elim
theorem HR.map (hr:HR P G r T h w) {b:Nat} {l:List (AV×AV)} (hb:h.t.get b=some (.map l)):∃ q es c,r b=some q∧w.heap[q.ax]? =some (.map es c)∧iy r l es.toList∧(es.toList.map fun e=>e.key).Nodup:=by
 obtain ⟨q,I,es,c,A,C,E⟩:=hr.live b _ hb;exact ⟨q,es,c,I,A,C,E⟩
theorem EZ (hr:HR P G r T h w) {t:au} {a v:AV} {v0:ah} (A:wz P t a h=some v) (V:den r a=some v0):∃ b off u,v0= .pointer (some ⟨b,off,none⟩)∧den r v=some u∧
 ((dA P t=some none∧aH w.heap b off =some u)∨∃ (n:Nat) (cs:List ah),dA P t=some (some n)∧u= .agg cs.toArray∧cs.length=n∧∀ j,j < n→aH w.heap b (off+j)=cs[j]?):=by
 unfold wz at A;split at A
 · rename_i b o;split at A
   · rename_i l _ _ _ hb;obtain ⟨q,us,aa,E,I,_⟩:=hr.cells hb;obtain ⟨q',L,rfl⟩:=kg V;rw [aa] at L; cases L;split at A
     · rename_i ha;obtain ⟨u,C,M⟩:=qR E A;exact ⟨_,_,u,U,M,.inl ⟨ha,I _ _ C⟩⟩
     · rename_i n ha;replace A:=bG A; obtain ⟨O,A⟩:=A;have hle:=cG O;cases A;have C:=kJ n<|lA o E;have hlen:=eb E;refine ⟨_,_,.agg ((us.drop o).take n).toArray,U,by simp only [den,C],.inr ⟨n,_,ha,U,by simp; omega,fun j Z=> ?_⟩⟩;rw [j6,if_pos Z,kD];have J:o+j < us.length:=ag;rw [iG,cr J];exact I _ _<|cr J
     · cases A
   · cases A
 · cases A
theorem FN (hr:HR P G r T h w) {o:Op} {xs:List AV} {v:AV} (A:kU P o xs h=some v) (Z:bc r xs=some ((iB o).map<|ev N σ)):YL P r N σ ⟨dst,o,ty,pos,af,g⟩ w v:=by
 unfold kU at A;split at A
 · split at A
   · obtain ⟨b,off,u,O,hu,J⟩:=EZ hr A<|gn Z;rcases J with ⟨ha,E⟩ | ⟨n,cs,ha,rfl,aa,E⟩
     · exact ⟨u,hu,ld ha O E⟩
     · exact ⟨_,hu,eZ ha O aa E⟩
   · cases A
 · rename_i t a b ok;split at A
   · rename_i b k;split at A
     · rename_i l hb;obtain ⟨q,es,c,L,hw,hm,hn⟩:=hr.map hb;obtain ⟨J,M⟩:=jN Z;obtain ⟨q',C,hu⟩:=ph J;rw [L] at C; cases C;split at A
       · rename_i kt e ae;split at A
         · rename_i ay ar;replace A:=bG A; obtain ⟨E,A⟩:=A;simp only [bP] at E;have aj:=z6 ar;have al:lW w.heap q.ax (es.toList.map fun e=>(e.key,e.val)):=⟨es,c,hw,rfl⟩
           have ak:=wS hm E.2;have hi:=wy E.1 M;split at A
           · rename_i az ai;cases A;obtain ⟨u,V,ab⟩:=EN E.1 M hm E.2 ai;refine ⟨if ok then .tuple #[u,.bool true] else u,?_,E3 ae aj al ak hu U hi (by rw [yx]; exact hn) ab⟩;cases ok
             · exact V
             · simp [den,bc,V]
           · rename_i ai;have ab:=zZ E.1 M hm E.2 ai;split at A
             · rename_i z av;split at A
               · rename_i aA aw;cases A;have V:=oy (r:=r) 4 aw;refine ⟨if ok then .tuple #[z,.bool false] else z,?_,E4 ae av aj al ak hu U hi ab⟩;cases ok
                 · exact V
                 · simp [den,bc,V]
               · cases A
             · cases A
         · cases A
       · cases A
     · cases A
   · cases A
 · rename_i t u a;split at A
   · rename_i x;have O:=gn Z;unfold C1 at A;split at A
     · split at A
       · rename_i e he;replace A:=bG A; obtain ⟨I,A⟩:=A;cases A;obtain ⟨q',cap,C,hn,hu,_⟩:=kh O;exact ⟨_,U,mc I hu (aT.nil _ _) U⟩
       · cases A
     · rename_i b o n c q _;split at A
       · rename_i l e _ _ hb;obtain ⟨q,us,L,aa,E,_⟩:=hr.cells hb;obtain ⟨q',cap,C,hn,hu,_⟩:=kh O;rw [L] at C; cases C;replace A:=bG A; obtain ⟨I,A⟩:=A;simp only [bP] at I;have hle:=cG I.2;split at A
         · rename_i m hm;cases A;have J:=kJ n<|lA o aa;have M:=Bp hm J;have hlen:=eb aa;have au:m.length=n:=by
            have :=congrArg jC M;simp [vy] at this;omega
           refine ⟨_,U,mc I.1 hu ⟨fun _=>rfl,fun j u ac=> ?_⟩ au⟩;rw [← M,j6] at ac;split at ac
           · rw [kD] at ac;show aH w.heap q.ax (q.sh+o+j)=some u;rw [iG]; exact E _ _ ac
           · cases ac
         · cases A
       · cases A
     · split at A
       · rename_i e he;replace A:=bG A; obtain ⟨I,A⟩:=A;cases A;exact ⟨_,U,mc I (jQ O) (aT.nil _ _) U⟩
       · cases A
     · rename_i b;split at A
       · rename_i l e hb;replace A:=bG A; obtain ⟨I,A⟩:=A;cases A;obtain ⟨q,L,c,fr,us,J,M,V,ab,an,ao,ah,ap⟩:=hr.live b _ hb;obtain ⟨ad,am,rfl⟩:=ah.1 rfl;obtain ⟨q',C,hu⟩:=kg O;rw [L] at C; cases C;rw [ad] at hu;have aq:c=c.toList.toArray:=by simp
         rw [aq] at J;refine ⟨_,O.trans (congrArg some hu),?_⟩;rcases Ip.1 I with I | I
         · exact Hx I hu J<|by simpa using am
         · exact Ep I hu J<|by simpa using am
       · cases A
     · cases A
   · cases A
 · split at A
   · rename_i b;split at A
     · rename_i hb;split at A
       · rename_i n _ hn;cases A;obtain ⟨q,L,c,fr,us,J,M,V,ab,an,ao,ah,ap⟩:=hr.live b _ hb;obtain ⟨ad,_,_⟩:=ah.1 rfl;obtain ⟨q',C,hu⟩:=kg<|gn Z;rw [L] at C; cases C;rw [ad] at hu;exact ⟨_,by rw [nZ L (bf _),ad],J7 hn hu⟩
       · cases A
     · cases A
   · cases A
 · rename_i ag t;split at A
   · rename_i b;split at A
     · rename_i l hb;obtain ⟨q,es,c,L,hw,hm,hn⟩:=hr.map hb;split at A
       · rename_i ae;rw [hH] at A; cases A;obtain ⟨ag⟩:=ag;have aa:=eb Z;obtain ⟨x,rfl⟩:∃ x,ag= [x]:=uW.1<|by simpa [iB] using aa
         obtain ⟨q',C,hu⟩:=ph<|gn Z;rw [L] at C; cases C;refine ⟨_,U,?_⟩;have :=E6 (dst:=dst) (ty:=ty) (pos :=pos) (af:=af) (g:=g) (P:=P) ae rfl hu hw;rw [this];have :=Fh hm;rw [qf] at this;rw [this]
       · cases A
     · cases A
   · cases A
 · cases A
end
end Go.Hb
namespace Go.Hb
def Rn.ext (r:Rn) (i:Nat) (q:Loc):Rn:=fun k=>if k=i then some q else r k
theorem Rn.jl (r:Rn) (i:Nat) (q:Loc):r.ext i q i=some q:=if_pos rfl
theorem Rn.lE (r:Rn) {i k:Nat} (q:Loc) (h:k≠i):r.ext i q k=r k:=if_neg h
theorem Rn.tN {r:Rn} {i:Nat} (q:Loc) (h:r i=none):r.le (r.ext i q):=fun k x A=>by
 by_cases e:k=i
 · subst e; rw [h] at A; cases A
 · rw [Rn.lE r q e]; exact A
theorem OR.obj {P:av} {r:Rn} {q:Loc} {o:AO} {ob:Option Obj} (h:OR P r q o ob):∃ b,ob=some b:=by
 cases o with
 | cells l e fz ex=>obtain ⟨c,fr,us,A,_⟩:=h; exact ⟨_,A⟩
 | map l=>obtain ⟨es,c,A,_⟩:=h; exact ⟨_,A⟩
 | loop st C n fr ps aU body D=>obtain ⟨_,_,_,A,_⟩:=h; exact ⟨_,A⟩
 | m9 b=>exact ⟨_,h⟩
 | Bi l p=>exact ⟨_,h⟩
section
variable {P:av} {G:Nat} {r:Rn} {T:Nat} {h:Hp} {w:ai}
theorem qF.le {r s:Rn} (A:qF G r) (h:r.le s):qF G s:=fun g C=>let ⟨m,hm⟩:=A g C; ⟨m,h _ _ hm⟩
theorem HR.lt (hr:HR P G r T h w) {i:Nat} {o:AO} {q:Loc} (hi:h.t.get i=some o) (E:r i=some q):q.ax < w.heap.size:=by
 obtain ⟨q',A,C⟩:=hr.live i o hi;rw [E] at A; cases A;obtain ⟨b,hb⟩:=C.obj;exact (cx.1 hb).1
theorem HR.put (hr:HR P G r T h w) {i Z:Nat} {o:AO} {q:Loc} {r':Rn} {w':ai} (hle:r.le r') (hi:ba i di=true) (V:r' i=some q) (ad:OR P r' q o w'.heap[q.ax]?)
 (hw:∀ k,k≠q.ax→k < w.heap.size→w'.heap[k]? =w.heap[k]?) (U:∀ j L q',j≠i→h.t.get j=some L→r j=some q'→q'.ax≠q.ax)
 (ac:h.nx≤Z) (ab:∀ k,Z≤k→k < T→r' k=none):HR P G r' T ⟨h.t.set i o,Z⟩ w':=by
 refine ⟨fun j L A=> ?_,fun j k M O ag ah A I C J he=> ?_,ab,hr.gZ.le hle,cR hr.base ac⟩
 · rw [Tr.n9 _ _ _ _ hi] at A;split at A
   · rename_i e; subst e; cases A; exact ⟨q,V,ad⟩
   · rename_i e;obtain ⟨q',C,E⟩:=hr.live j L A;refine ⟨q',hle _ _ C,?_⟩;rw [hw _ (U j L q' e A C) (hr.lt A C)];exact E.le hle
 · simp only [Tr.n9 _ _ _ _ hi] at A I;split at A
   · rename_i e;split at I
     · rename_i e'; rw [e,e']
     · rename_i e';exfalso;subst e;rw [V] at C; cases C;obtain ⟨q',E,_⟩:=hr.live k O I;rw [hle _ _ E] at J; cases J;exact U k O _ e' I E he.symm
   · rename_i e;split at I
     · rename_i e';exfalso;subst e';rw [V] at J; cases J;obtain ⟨q',E,_⟩:=hr.live j M A;rw [hle _ _ E] at C; cases C;exact U j M _ e A E he
     · obtain ⟨q',E,_⟩:=hr.live j M A;obtain ⟨ae,aa,_⟩:=hr.live k O I;rw [hle _ _ E] at C; cases C;rw [hle _ _ aa] at J; cases J;exact hr.inj j k M O _ _ A I E aa he
theorem HR.del (hr:HR P G r T h w) {i:Nat} (hi:ba i di=true):HR P G r T ⟨h.t.del i,h.nx⟩ w:=by
 refine ⟨fun j o A=> ?_,fun j k E I J L A C=> ?_,hr.new,hr.gZ,hr.base⟩
 · rw [Tr.q9 _ _ _ hi] at A;split at A
   · cases A
   · exact hr.live j o A
 · simp only [Tr.q9 _ _ _ hi] at A C;split at A
   · cases A
   · split at C
     · cases C
     · exact hr.inj j k E I J L A C
theorem Fr.set {g:Nat} {r':Rn} {i O:Nat} {o:AO} {q:Loc} (hi:ba i di=true) (M:r' i=some q) (hle:r.le r') (hr:HR P G r T h w) {k:Nat} (L:Fr g r' ⟨h.t.set i o,O⟩ k):k=q.ax∨Fr g r h k:=by
 obtain ⟨j,I,q',J,A,C,rfl⟩:=L;rw [Tr.n9 _ _ _ _ hi] at A;split at A
 · rename_i e; subst e; rw [M] at C; cases C; exact .inl rfl
 · obtain ⟨V,E,_⟩:=hr.live j I A;have :=hle _ _ E;rw [C] at this; cases this;exact .inr ⟨j,I,_,J,A,E,U⟩
def YM (P:av) (G:Nat) (r:Rn) (T:Nat) (N:Fm) (σ:Nat→ah) (o:aO) (h:Hp) (w:ai) (v:AV) (A:Hp):Prop :=
 ∃ r' u w',den r' v=some u∧((execOp (ev N σ) o).run P w= .ok (.value u) w'∨(execOp (ev N σ) o).run P w= .ok .skip w'∧u=undef)∧St P G T r h w r' A w'
def dP (h:Hp) (o:AO):Option Hp:=cond (ba h.nx di) (some ⟨h.t.set h.nx o,h.nx+1⟩) none
theorem N0 (w:ai) (ob:Obj) (F:Nat→Prop):Md F w {w with heap:=w.heap.push ob} :=
 ⟨rfl,rfl,by simp,fun k A _=>by simp only [ye]; rw [if_neg ag]⟩
theorem HR.dP (hr:HR P G r T h w) {o:AO} {C:Hp} (hn:dP h o=some C) (hT:C.nx≤T) (room:Nat) {w':ai} {ob:Obj} (I:w'.heap=w.heap.push ob) (aa:w'.os=w.os) (ab:w'.output=w.output) (Z:∀ r',r.le r'→r' h.nx=some ⟨w.heap.size,0,room⟩→OR P r' ⟨w.heap.size,0,room⟩ o (some ob)):
 ∃ r',r' h.nx=some ⟨w.heap.size,0,room⟩∧St P G T r h w r' C w':=by
 unfold Hb.dP at hn;replace hn:=bG hn; obtain ⟨J,hn⟩:=hn;cases hn;simp only at hT;have hle:=Rn.tN (i:=h.nx) ⟨w.heap.size,0,room⟩<|hr.new h.nx (bf _) ag;have L:∀ k,k < w.heap.size→w'.heap[k]? =w.heap[k]? :=fun k A=>by rw [I,ye,if_neg ag]
 refine ⟨r.ext h.nx ⟨w.heap.size,0,room⟩,Rn.jl _ _ _,hle,hr.put hle J (Rn.jl _ _ _) ?_ (fun k _ V=>L k V) (fun j ae q' ad O ac=> ?_) (nM _) (fun k A U=> ?_),nM _,⟨aa,ab,by rw [I]; simp,fun k A _=>L k A⟩,fun g _ k A M=> ?_,fun k A=>Rn.lE _ _<|by simp only at A; omega⟩
 · rw [I]; simp only [ye,if_true]; exact Z _ hle<|Rn.jl _ _ _
 · have :=hr.lt O ac; simp only; omega
 · rw [Rn.lE _ _ ag]; exact hr.new k ag U
 · rcases Fr.set J (Rn.jl _ _ _) hle hr M with E | E
   · simp only at E; omega
   · exact E
theorem AJ {r':Rn} {l:List AV} {us:List ah} {e b:Nat} (A:bc r' l=some us) (C:fD l=true):OR P r' ⟨b,0,0⟩ (.cells l e 0 .x) (some<|.cells us.toArray e (0,0)):=
 ⟨us.toArray,(0,0),us,rfl,A,by simp [eb A],fun j u E=>by simpa using E,bf _,rC A C,⟨fun _=>⟨rfl,by simp [eb A],rfl⟩,fun _=>rfl⟩,fun s _=>by simp⟩
variable {N:Fm} {σ:Nat→ah} {dst:Option Nat} {ty:au} {pos :String} {af:Array cI} {g:Option (Nat×Bool)} {x y z:bu}
theorem YM.new (hr:HR P G r T h w) {o:aO} {l:List AV} {us:List ah} {e:Nat} {A:Hp} {v:AV} {f:Nat→ah} (hn:Hb.dP h (.cells l e 0 .x)=some A) (hT:A.nx≤T) (E:bc r l=some us) (C:fD l=true)
 (L:(execOp (ev N σ) o).run P w= .ok (.value<|f w.heap.size) {w with heap:=w.heap.push<|.cells us.toArray e (0,0)}) (M:∀ r':Rn,r' h.nx=some ⟨w.heap.size,0,0⟩→den r' v=some (f w.heap.size)):YM P G r T N σ o h w v A:=by
 obtain ⟨r',I,J⟩:=hr.dP hn hT 0 (w':= {w with heap:=w.heap.push<|.cells us.toArray e (0,0)}) rfl rfl rfl fun r' hle _=>AJ (jO hle E) C;exact ⟨r',_,_,M r' I,.inl L,J⟩
theorem HR.nq (hr:HR P G r T h w) {i:Nat} {o L:AO} {q:Loc} {w':ai} (hi:h.t.get i=some L) (hb:ba i di=true) (E:r i=some q) (M:G≤i) (Z:OR P r q o w'.heap[q.ax]?) (hm:Md (fun k=>k=q.ax) w w'):
 St P G T r h w r ⟨h.t.set i o,h.nx⟩ w':=by
 have J:∀ g,g≤G→Fr g r h q.ax:=fun g C=>⟨i,L,q,cR C M,hi,E,rfl⟩
 refine ⟨Rn.le_refl r,hr.put (Rn.le_refl r) hb E Z (fun k I V=>hm.dC k V I) (fun j aa ab U C A he=>U<|hr.inj j i _ _ _ _ C hi A E he) (bf _) hr.new,bf _,hm.mono fun k _ I=>by rw [I]; exact J G (bf _),fun g C k _ O=> ?_,fun _ _=>rfl⟩;rcases Fr.set hb E (Rn.le_refl r) hr O with A | A
 · rw [A]; exact J g C
 · exact A
end
end Go.Hb
namespace Go.Hb
def pG (x v:AV):List (AV×AV)→List (AV×AV)
 | []=> [(x,v)]
 | p::l=>cond (iw p.1 x) ((p.1,v)::l) (p::pG x v l)
def EU:KK→Bool
 | .bs=>false
 | _=>true
def rM (P:av) (t:au) (b:Nat) (k v:AV) (h:Hp):Option Hp:=match h.t.get b with
 | some (.map l)=>match P.underlying t with
   | some (.map kt e)=>match pH P kt k with
     | some A=>cond (ba b di && (bL h.nx b==false) && (eO A k && gF A l) && (EU A || (oh k l).isNone)) (some ⟨h.t.set b (.map<|pG k v l),h.nx⟩) none
     | none=>none
   | _=>none
 | _=>none
section
variable {P:av} {G:Nat} {r:Rn} {T:Nat} {h:Hp} {w:ai}
theorem Fi {x v:AV} {kx u:ah} {C:KK} (J:eO C x=true) (A:den r x=some kx) (I:den r v=some u) {m:MapEntry} (zT:m.key=kx) (E:m.val=u):∀ {l:List (AV×AV)} {es:List MapEntry},iy r l es→gF C l=true→(∀ e∈es,e.key≠kx)→iy r (pG x v l) (es++ [m])
 | [],[],_,_,_=>⟨by rw [zT]; exact A,by rw [E]; exact I,trivial⟩
 | [],_::_,hm,_,_=>hm.elim
 | _::_,[],hm,_,_=>hm.elim
 | q::l,e::es,hm,hk,hn=>by
   simp only [gF] at hk;cases h1:eO C q.1
   · rw [h1] at hk; cases hk
   · rw [h1] at hk;have he:iw q.1 x=false :=by
      cases hq:iw q.1 x
      · rfl
      · exact absurd ((nj h1 J hm.1 A).1 hq)<|hn e lS
     simp only [pG,he,cond_false];exact ⟨hm.1,hm.2.1,Fi J A I zT E hm.2.2 hk fun e he=>hn e<|mQ _ he⟩
theorem Fj {x v:AV} {kx u:ah} {A:KK} (E:eO A x=true) (C:den r x=some kx) (J:den r v=some u) {f:MapEntry→MapEntry} (I:∀ e,e.key=kx→(f e).key=kx∧(f e).val=u):∀ {l:List (AV×AV)} {es:List MapEntry} {j:Nat} {e':MapEntry},iy r l es→gF A l=true→
 es[j]? =some e'→e'.key=kx→(es.map fun e=>e.key).Nodup→iy r (pG x v l) (es.modify j f)
 | [],[],j,e',_,_,hj,_,_=>by simp at hj
 | [],_::_,_,_,hm,_,_,_,_=>hm.elim
 | _::_,[],_,_,hm,_,_,_,_=>hm.elim
 | q::l,e::es,0,e',hm,hk,hj,hk',_=>by
   simp only [gF] at hk;cases h1:eO A q.1
   · rw [h1] at hk; cases hk
   · simp only [jB,bR] at hj;subst hj;simp only [pG,(nj h1 E hm.1 C).2 hk',cond_true];obtain ⟨L,M⟩:=I e hk';exact ⟨by show den r q.1=some (f e).key; rw [hm.1,L,hk'],by show den r v=some (f e).val; rw [M]; exact J,hm.2.2⟩
 | q::l,e::es,j+1,e',hm,hk,hj,hk',hn=>by
   simp only [gF] at hk;cases h1:eO A q.1
   · rw [h1] at hk; cases hk
   · rw [h1] at hk;simp only [jA] at hj;simp only [eS,sP] at hn;have he:iw q.1 x=false :=by
      cases hq:iw q.1 x
      · rfl
      · have :=(nj h1 E hm.1 C).1 hq;exact absurd (iZ.2 ⟨e',lj hj,hk'.trans this.symm⟩) hn.1
     simp only [pG,he,cond_false];exact ⟨hm.1,hm.2.1,Fj E C J I hm.2.2 hk hj hk' hn.2⟩
theorem Nk {k:au} {a:AV} {A:KK} (h:pH P k a=some A) (E:EU A=true):∀ w v,re A v→(uK v v).run P w= .ok v w:=by
 unfold pH at h;split at h
 · replace h:=bG h; obtain ⟨C,h⟩:=h;cases h;exact (z1<|oe C).stays
 · split at h
   · cases h; exact (EO<|by assumption).stays
   · cases h
 · replace h:=bG h; obtain ⟨C,h⟩:=h;cases h;cases E
 · cases h
theorem F6 (hr:HR P G r T h w) {t:au} {b:Nat} {k v:AV} {V:Hp} {q:Loc} {kx u:ah} (Z:G≤b) (hp:rM P t b k v h=some V) (O:r b=some q) (E:den r k=some kx) (al:den r v=some u):
 ∃ w',(sJ t (.map<|some q.ax) kx u).run P w= .ok () w'∧St P G T r h w r V w':=by
 unfold rM at hp;split at hp
 · rename_i l hb;split at hp
   · rename_i kt e ak;split at hp
     · rename_i ar ae;replace hp:=bG hp; obtain ⟨ac,hp⟩:=hp;simp only [bP] at ac;obtain ⟨⟨⟨ab,_⟩,hka,hkl⟩,hstay⟩:=ac;cases hp;obtain ⟨q',es,c,aj,hw,hm,hn⟩:=hr.map hb;rw [O] at aj; cases aj;have J:=z6 ae;have hi:=wy hka E;have an:∀ e∈es.toList,re ar e.key:=vX rfl (wS hm hkl);have ag:=(cx.1 hw).1;rcases J.find w kx es.toList hi an with ⟨L,ai⟩ | ⟨j,e',L,C,A⟩
       · refine ⟨{w with heap:=w.heap.setIfInBounds q.ax<|.map (es.push {key:=kx,val:=u,born:=c})<|c+1},by simp [sJ,bS ak,run_getObj_map hw,J.check _ w kx hi,L,setObj,lQ,hw],?_⟩;refine hr.nq hb ab O Z ?_ ⟨U,U,by simp,fun i _ M=>by simp only; rw [nF (fun e=>M e.symm)]⟩;refine ⟨_,_,by simp only; rw [oL ag],?_,?_⟩
         · simp only [yg];exact Fi hka E al U U hm hkl ai
         · simp only [yg,kE,eS,List.map_nil];rw [List.nodup_append];refine ⟨hn,by simp,?_⟩;intro a ha b' aa am;simp at aa;subst am aa;obtain ⟨p,hp,aq⟩:=iZ.1 ha;exact ai p hp aq
       · have ap:(uK kx kx).run P w= .ok kx w:=by
          rcases Ip.1 hstay with I | I
          · exact Nk ae I w kx hi
          · exfalso;cases hg:oh k l with
            | none=>exact zZ hka E hm hkl hg e'.val<|by rw [← A]; exact iZ.2 ⟨e',lj C,rfl⟩
            | some v=>rw [hg] at I; cases I
         have ao:es[j]? =some e':=by simpa using C
         refine ⟨{w with heap:=w.heap.setIfInBounds q.ax<|.map (es.modify j fun e=> {e with key:=kx,val:=u}) c},?_,?_⟩
         · simp [sJ,bS ak,run_getObj_map hw,J.check _ w kx hi,L,ao,A,ap,setObj,lQ,hw]
         · refine hr.nq hb ab O Z ?_ ⟨U,U,by simp,fun i _ M=>by simp only; rw [nF (fun e=>M e.symm)]⟩;refine ⟨_,_,by simp only; rw [oL ag],?_,?_⟩
           · rw [uG];exact Fj hka E al (fun e _=>⟨U,U⟩) hm hkl C A hn
           · rw [uG];have :(es.toList.modify j fun e=> {e with key:=kx,val:=u}).map (fun e=>e.key)=es.toList.map fun e=>e.key:=by
              apply yt;intro i;simp only [gy,List.getElem?_modify];by_cases ad:j=i
              · subst ad; rw [C]; simp [A]
              · simp [ad]
             rw [this]; exact hn
     · cases hp
   · cases hp
 · cases hp
end
def mA (A:List AV):Nat→List AV
 | 0=> []
 | n+1=>A++mA A n
def uq (P:av) (G:Nat) (t:au) (b o:Nat) (v:AV) (h:Hp):Option Hp:=match h.t.get b with
 | some (.cells l e fz ex)=>match cO P t with
   | some n=>cond ((bC (mX v).length n && bL (o+n) l.length) && (bL fz o && (fD (mX v) && (bL G b && ba b di)))) (some ⟨h.t.set b (.cells (l.take o++(mX v++l.drop (o+n))) e fz ex),h.nx⟩) none
   | none=>none
 | _=>none
def r8 (P:av) (t:au):Option (Nat×Nat×Nat×List AV):=match P.underlying t with
 | some (.slice e)=>match P.info? e with
   | some i=>match i.zero with
     | some z=>match mr (kR 4) z.cells.toList with
       | some A=>cond (bC A.length i.size && (ba 0 i.size && fD A)) (some (e,i.size,i.bytes,A)) none
       | none=>none
     | none=>none
   | none=>none
 | _=>none
def rE (P:av) (G:Nat) (o:Op) (xs:List AV) (h:Hp):Option (AV×Hp):=match o with
 | .alloc e=>match zeroOf P e with
   | some (some C)=>match mr (kR 4) C with
     | some l=>cond (fD l) (match dP h (.cells l e 0 .x) with
       | some A=>some (.ptr h.nx 0,A)
       | none=>none) none
     | none=>none
   | _=>none
 | .box e _=>match xs with
   | [x]=>cond (fD<|mX x) (match dP h (.cells (mX x) e 0 .x) with
     | some A=>some (.ptr h.nx 0,A)
     | none=>none) none
   | _=>none
 | .makeMap _ none=>match dP h (.map []) with
   | some A=>some (.map h.nx,A)
   | none=>none
 | .buildSlice t n ⟨ps⟩=>match r8 P t with
   | some (e,s,_,C)=>cond (bL (n*s) 16777216) (match po (fun i=>some (i*s,s)) (mA C n) (nE ps xs) with
     | some l=>cond (fD l) (match dP h (.cells l e 0 .x) with
       | some A=>some (.sl h.nx 0 n n true,A)
       | none=>none) none
     | none=>none) none
   | none=>none
 | .makeSlice t _ _=>match xs with
   | [.int .i64 (.ofNat n),.int .i64 (.ofNat c)]=>match r8 P t with
     | some (e,s,by_,C)=>cond (bL n c && (bL (by_*c) 281474976710656 && ba c 9223372036854775808)) (match dP h (.cells (mA C c) e 0 .x) with
       | some A=>some (.sl h.nx 0 n c true,A)
       | none=>none) none
     | none=>none
   | _=>none
 | .store t _ _=>match xs with
   | [.ptr b o,v]=>match uq P G t b o v h with
     | some A=>some (.dg [],A)
     | none=>none
   | _=>none
 | .mapUpdate t _ _ _=>match xs with
   | [.map b,k,v]=>cond (bL G b) (match rM P t b k v h with
     | some A=>some (.dg [],A)
     | none=>none) none
   | _=>none
 | .insert t _ _ _=>match xs with
   | [.map b,k,v]=>cond (bL G b) (match rM P t b k v h with
     | some A=>some (.dg [],A)
     | none=>none) none
   | _=>none
 | _=>none
section
variable {P:av} {G:Nat} {r:Rn} {T:Nat} {h:Hp} {w:ai} {N:Fm} {σ:Nat→ah} {dst:Option Nat} {ty:au} {pos :String} {af:Array cI} {g:Option (Nat×Bool)} {x y z:bu}
theorem kf (r:Rn):den r (.dg [])=some undef:=by simp [den,bc]; rfl
theorem xm {r:Rn} {A:List AV} {Z:List ah} (h:bc r A=some Z):∀ n,bc r (mA A n)=some ((eM n Z).flatten)
 | 0=>by simp [mA,bc]
 | n+1=>by simp only [mA,Jq,sO]; exact gL h<|xm h n
theorem FL:∀ {l m:List AV},fD l=true→fD m=true→fD (l++m)=true
 | [],m,_,h=>h
 | a::l,m,h,h'=>by
   simp only [fD,List.cons_append] at h ⊢;cases ha:xc a
   · rw [ha] at h; cases h
   · rw [ha] at h; exact FL h h'
theorem AN {A:List AV} (h:fD A=true):∀ n,fD (mA A n)=true
 | 0=>rfl
 | n+1=>FL h<|AN h n
theorem AL (Z:Array ah) (A:0 < Z.size):∀ n,(nG<|n*Z.size).map (Z[· % Z.size]!)=((eM n Z.toList).flatten).toArray:=by
 intro n;apply sF.1;simp only [jx,Array.toList_range]
 induction n with
 | zero=>simp
 | succ n ih=>
   rw [Nat.succ_mul,yF,List.range_add,kE,Jq,sO,yx];congr 1
   · apply yt;intro i;simp only [gy];by_cases hi:i < Z.size
     · rw [List.getElem?_range hi,fg,Nat.mod_eq_of_lt hi];rw [getElem!_pos Z i hi];simp [hi]
     · rw [qy (by simp; omega),qy (by simp; omega)]; rfl
   · rw [← ih];apply List.map_congr_left;intro i _;simp
theorem xF {r:Rn} {t e s E:Nat} {C:List AV} (h:r8 P t=some (e,s,E,C)):∃ i z,P.underlying t=some (.slice e)∧P.info? e=some i∧i.zero=some z∧i.size=s∧i.bytes=E∧z.cells.size=s∧0 < s∧bc r C=some z.cells.toList∧fD C=true∧C.length=s:=by
 unfold r8 at h;split at h
 · rename_i e' hu;split at h
   · rename_i i hi;split at h
     · rename_i z L;split at h
       · rename_i O M;replace h:=bG h; obtain ⟨A,h⟩:=h;simp only [bP] at A;cases h;have I:=rB (r:=r) (fun v a=>oy 4) M;have J:=cP A.1;have :=eb I;exact ⟨i,z,hu,hi,L,U,U,by rw [← qf]; omega,dk.1 A.2.1,I,A.2.2,J⟩
       · cases h
     · cases h
   · cases h
 · cases h
theorem Qp (hr:HR P G r T h w) {t b o:Nat} {v:AV} {aa:Hp} {u:ah} (A:uq P G t b o v h=some aa) (ay:den r v=some u) (az:den r (.ptr b o)=some (ev N σ x)) (aA:ev N σ y=u):YM P G r T N σ ⟨dst,.store t x y,ty,pos,af,g⟩ h w (.dg []) aa:=by
 unfold uq at A;split at A
 · rename_i l e fz ex hb;split at A
   · rename_i n hn;replace A:=bG A; obtain ⟨ai,A⟩:=A;simp only [bP] at ai;obtain ⟨⟨I,c2⟩,c3,c4,J,c6⟩:=ai;have I:=cP I;have c2:=cG c2;have c3:=cG c3;have J:=cG J;cases A;obtain ⟨q,ak,c,fr,us,ab,M,aC,ac,ap,ad,ae,aq⟩:=hr.live b _ hb;obtain ⟨q',al,hu⟩:=kg az;rw [ak] at al; cases al;have V:=y9 ay;have av:=eb V;have aE:=eb M;have aj:=rC V c4;have hlen:u.cells.toList.length=n:=by rw [av,I]
     have bK:=run_storeCells_atF P q.ax (q.sh+o) e fr u.cells.toList 0 c w ab ag ag aj;unfold cO at hn;simp only [il] at hn;obtain ⟨i,hi,A⟩:=hn;have aw:u.cells.size=n:=by rw [← qf,hlen]
     obtain ⟨L,O⟩:∃ L,c.toList.take (q.sh+o+0)++u.cells.toList++c.toList.drop (q.sh+o+0 +u.cells.toList.length)=L:=⟨_,rfl⟩
     rw [O] at bK;have aD:L.length=c.size:=by rw [← O]; simp; omega
     have ar:∀ k,L[k]? =if k < q.sh+o then c[k]? else if k < q.sh+o+n then u.cells.toList[k - (q.sh+o)]? else c[k]? :=by
      intro k;rw [← O,lT];by_cases E:k < q.sh+o
      · rw [if_pos E,iF,eR (by simp; omega),j6,if_pos E]; simp
      · rw [if_neg E];by_cases Z:k < q.sh+o+n
        · rw [if_pos Z,eR (by simp; omega),eC (by simp; omega)];congr 1; simp; omega
        · rw [if_neg Z,eC (by simp; omega),kD];simp only [bo,bY,qf,sC];congr 1; omega
     refine ⟨r,undef,w.setRow q.ax L.toArray,kf r,.inr ⟨?_,U⟩,?_⟩
     · simp [execOp,Instr.storeAt,hu,aA,Instr.sureAddr,storeVar,sizeOf,eh hi,A,aw,bK]
     · refine hr.nq hb c6 ak J ?_ ⟨U,U,by simp,fun k _ au=>setRow_other w q.ax k _ au⟩;rw [setRow_heap w q.ax _ _ e _ ab];refine ⟨L.toArray,fr,us.take o++(u.cells.toList++us.drop (o+n)),U,gL (kJ o M) (gL V<|lA (o+n) M),?_,fun j a C=> ?_,ap,?_,⟨fun hex=> ?_,ae.2⟩,fun s A=> ?_⟩
       · simp only [bo,bY,gh,fS]; omega
       · rw [nJ,ar];by_cases E:j < o
         · rw [eR (by simp; omega),j6,if_pos E] at C;rw [if_pos ag]; exact ac _ _ C
         · rw [eC (by simp; omega)] at C;rw [if_neg ag];have am:(us.take o).length=o:=by simp; omega
           rw [am] at C;by_cases Z:j < o+n
           · rw [eR ag] at C;rw [if_pos ag,show q.sh+j - (q.sh+o)=j - o from by omega]; exact C
           · rw [eC ag,kD,hlen] at C;rw [if_neg ag];refine ac j a ?_;rw [← C]; congr 1; omega
       · intro a ha;rcases dz.1 ha with ha | ha
         · exact ad a<|yA ha
         · rcases dz.1 ha with ha | ha
           · exact aj a ha
           · exact ad a<|yz ha
       · obtain ⟨an,aB,ao⟩:=ae.1 hex;refine ⟨an,?_,ao⟩;simp only [bo,bY,gh,fS]; omega
       · have :=aq s A;simp only [fS]; omega
   · cases A
 · cases A
end
end Go.Hb
namespace Go.Hb
section
variable {P:av} {G:Nat} {r:Rn} {T:Nat} {h:Hp} {w:ai} {N:Fm} {σ:Nat→ah} {dst:Option Nat} {ty:au} {pos :String} {af:Array cI} {g:Option (Nat×Bool)} {x y z:bu}
theorem Dn {r':Rn} {i b room n c:Nat} (hi:r' i=some ⟨b,0,room⟩) (hn:n≤c):den r' (.sl i 0 n c true)=some (.slice (some ⟨b,0,none⟩) n c):=by
 rw [nZ hi hn]
theorem Mq {t e s n:Nat} {A L:List AV} {Z:ah} {ps:List (Nat×bu)} {xs:List AV} (ab:0 < s) (aa:Z.cells.size=s) (V:bc r A=some Z.cells.toList) (O:po (fun i=>some (i*s,s)) (mA A n) (nE ps xs)=some L) (M:bc r xs=some ((ps.map (·.2)).map<|ev N σ)):
 ∃ C,bc r L=some C∧kz (fun i=>some (i*s,s)) ((nG<|n*s).map (Z.cells[· % Z.cells.size]!)) (ps.map fun p=>(p.1,ev N σ p.2))=some C.toArray:=by
 obtain ⟨E,I⟩:=BI (f:=ev N σ) M;obtain ⟨C,J,U⟩:=zB O (xm V n) E I;refine ⟨C,J,?_⟩;rw [← U];congr 1;have :=AL Z.cells ag n;rw [aa] at this ⊢;exact this
theorem Ov (hr:HR P G r T h w) {o:Op} {xs:List AV} {v:AV} {aa:Hp} (A:rE P G o xs h=some (v,aa)) (hT:aa.nx≤T) (V:bc r xs=some ((iB o).map<|ev N σ)):YM P G r T N σ ⟨dst,o,ty,pos,af,g⟩ h w v aa:=by
 unfold rE at A;split at A
 · rename_i e;split at A
   · rename_i ap O;split at A
     · rename_i l ay;replace A:=bG A; obtain ⟨E,A⟩:=A;split at A
       · rename_i L hn;cases A;have aw:=rB (r:=r) (fun v a=>oy 4) ay;unfold zeroOf at O;simp only [il] at O;obtain ⟨i,hi,zv,aF,rfl⟩:=O;refine YM.new hr (f:=fun b=> .pointer<|some ⟨b,0,none⟩) hn hT aw E ?_ fun r' I=>by simp only [den,I]
         simp [execOp,ym,zeroValue,eh hi,aF,newVar,newRow]
       · cases A
     · cases A
   · cases A
 · rename_i e _;split at A
   · rename_i x;replace A:=bG A; obtain ⟨E,A⟩:=A;split at A
     · rename_i L hn;cases A;have J:=gn V;refine YM.new hr (f:=fun b=> .pointer<|some ⟨b,0,none⟩) hn hT (y9 J) E ?_ fun r' I=>by simp only [den,I]
       simp [execOp,Instr.box,newVar,newRow]
     · cases A
   · cases A
 · split at A
   · rename_i L hn;cases A;obtain ⟨r',aA,I⟩:=hr.dP hn hT 0 (w':= {w with heap:=w.heap.push<|.map #[] 0}) rfl rfl rfl fun r' hle _=>⟨#[],0,rfl,trivial,by simp⟩
     refine ⟨r',.map (some w.heap.size),_,by simp only [den,aA],.inl ?_,I⟩;simp [execOp,Instr.makeMap]
   · cases A
 · rename_i t n ps;split at A
   · rename_i e s aq ap O;replace A:=bG A; obtain ⟨E,A⟩:=A;have E:=cG E;split at A
     · rename_i l ax;replace A:=bG A; obtain ⟨J,A⟩:=A;split at A
       · rename_i L hn;cases A;obtain ⟨i,zv,hu,hi,ai,rfl,rfl,Z,am,aj,ao,aE⟩:=xF (r:=r) O;obtain ⟨C,av,ac⟩:=Mq (N:=N) (σ:=σ) (t:=t) (e:=e) am Z aj ax V;refine YM.new hr (f:=fun b=> .slice (some ⟨b,0,none⟩) n n) hn hT av J ?_ fun r' I=>Dn I<|bf _;have aG:(ps.toArray.map fun p=>(p.1,ev N σ p.2)).toList=ps.map fun p=>(p.1,ev N σ p.2):=by simp
         by_cases al:n*i.size=0
         · have az:n=0:=by rcases Nat.mul_eq_zero.1 al with h | h; exact h; omega
           subst az;have ak:∀ f:Nat→ah,Array.map f (nG 0)= #[]:=fun f=>Array.eq_empty_of_size_eq_zero<|by simp
           rw [sV,ak] at ac;simp [execOp,uJ,bS hu,sizeOf,eh hi,ak,ac,newRow]
         · simp only [execOp,uJ,iE,bS hu,ij,sizeOf,eh hi,kA,Sem.run_ite,zeroValue,ai,jx,ac];rw [if_neg (by rw [show (2:Nat) ^ 24=16777216 from rfl]; omega),if_neg al];simp [newRow]
       · cases A
     · cases A
   · cases A
 · rename_i t _ _;split at A
   · rename_i n c;split at A
     · rename_i e s aq ap O;replace A:=bG A; obtain ⟨E,A⟩:=A;simp only [bP] at E;have ar:=cG E.1;have c2:=cG E.2.1;have c3:=dk.1 E.2.2;split at A
       · rename_i L hn;cases A;obtain ⟨i,zv,hu,hi,ai,rfl,rfl,Z,am,aj,ao,aE⟩:=xF (r:=r) O;have an:=run_make (P:=P) w t e i zv hu hi ai .i64 .i64 n c ag ag (by rw [← Int.natCast_mul]; omega) ag;have au:madeCells zv.cells (c*i.size)=((eM c zv.cells.toList).flatten).toArray:=by
          have :=AL zv.cells ag c;rw [Z] at this;rw [← this]; unfold madeCells; rw [Z]
         rw [IX,IX,au] at an;refine YM.new hr (f:=fun b=> .slice (some ⟨b,0,none⟩) n c) hn hT (xm aj c) (AN ao c) ?_ fun r' I=>Dn I ar;obtain ⟨J,M⟩:=jN V;have aC:=dF J;have aD:=dF M;simp [execOp,aC,aD,an]
       · cases A
     · cases A
   · cases A
 · split at A
   · split at A
     · rename_i L aB;cases A;obtain ⟨J,M⟩:=jN V;exact Qp hr aB M J U
     · cases A
   · cases A
 · split at A
   · replace A:=bG A; obtain ⟨E,A⟩:=A;split at A
     · rename_i L hp;cases A;obtain ⟨J,M,ab⟩:=nY V;obtain ⟨q,ad,hu⟩:=ph J;obtain ⟨w',ae,I⟩:=F6 hr (cG E) hp ad M ab;exact ⟨r,undef,w',kf r,.inr ⟨by simp [execOp,hu,ae],U⟩,I⟩
     · cases A
   · cases A
 · split at A
   · replace A:=bG A; obtain ⟨E,A⟩:=A;split at A
     · rename_i L hp;cases A;obtain ⟨J,M,ab⟩:=nY V;obtain ⟨q,ad,hu⟩:=ph J;obtain ⟨w',ae,I⟩:=F6 hr (cG E) hp ad M ab;exact ⟨r,undef,w',kf r,.inr ⟨by simp [execOp,hu,ae],U⟩,I⟩
     · cases A
   · cases A
 · cases A
end
end Go.Hb
namespace Go.Hb
def xN:List UInt8→List AV
 | []=> []
 | c::l=> .int .u8 (mP c.toNat)::xN l
def tw (o:Nat):Ck→Ck
 | .a=> .a
 | _=>match o with
   | 0=> .z
   | _=> .a
theorem CW {o:Nat} {e:Ck} :tw o e≠.x:=by
 cases e <;> simp only [tw] <;> first | (intro h; cases h; done) | (split <;> intro h <;> cases h)
theorem KR {o:Nat} {e:Ck} (h:tw o e≠.a):e≠.a∧o=0:=by
 cases e with
 | a=>exact absurd rfl h
 | _=>
   refine ⟨fun h=>(by cases h),?_⟩;simp only [tw] at h;split at h
   · rfl
   · exact absurd U h
def Bf (P:av) (s:Nat) (A:au) (x:AV) (h:Hp):Option (Nat×List AV):=match x with
 | .sl b o n _ _=>match h.t.get b with
   | some (.cells l _ _ _)=>cond (lG P A && bL (o+n*s) l.length) (some (n,(l.drop o).take (n*s))) none
   | _=>none
 | .fZ=>cond (lG P A) (some (0,[])) none
 | .str l=>cond (isStr P A && bC s 1) (some (l.length,xN l)) none
 | _=>none
def yT (P:av) (G:Nat) (t E:au) (C I:AV) (h:Hp):Option (AV×Hp):=match r8 P t with
 | some (e,s,by_,_)=>match Bf P s E I h with
   | some (m,news)=>cond (fD news) (match C with
     | .fZ=>match m with
       | 0=>some (.fZ,h)
       | _=>cond (bL (m*by_) 140737488355328 && bL m 1000000000) (match dP h (.cells news e 0 .z) with
         | some A=>some (.sl h.nx 0 m 0 false,A)
         | none=>none) none
     | .sl b o n c x=>match m with
       | 0=>some (.sl b o n c x,h)
       | _=>match h.t.get b with
         | some (.cells l e' fz ex)=>cond ((bC e e' && (bL ((n+m)*by_) 140737488355328 && bL (n+m) 1000000000)) && (bL (o+n*s) l.length && (bL G b && ba b di)))
           (cond x (cond (bL (n+m) c)
            (cond (bL (o+(n+m)*s) l.length && bL fz (o+n*s)) (some (.sl b o (n+m) c true,⟨h.t.set b (.cells (l.take (o+n*s)++(news++l.drop (o+(n+m)*s))) e fz ex),h.nx⟩)) none)
            (match dP h (.cells ((l.drop o).take (n*s)++news) e 0 .z) with
             | some A=>some (.sl h.nx 0 (n+m) 0 false,A)
             | none=>none))
            (cond (bC o (c*s) && bL fz (o+n*s)) (match dP ⟨h.t.del b,h.nx⟩ (.cells ((l.drop o).take (n*s)++news) e (fz - o)<|tw o ex) with
             | some A=>some (.sl h.nx 0 (n+m) 0 false,A)
             | none=>none) none)) none
         | _=>none
     | _=>none) none
   | none=>none
 | none=>none
section
variable {P:av} {G:Nat} {r:Rn} {T:Nat} {h:Hp} {w:ai} {N:Fm} {σ:Nat→ah} {dst:Option Nat} {ty:au} {pos :String} {af:Array cI} {g:Option (Nat×Bool)} {x y z:bu}
theorem HH:∀ l:List UInt8,bc r (xN l)=some (U8 l)
 | []=>by simp [xN,bc,U8]
 | c::l=>fi rfl (HH l)
theorem P7 (hr:HR P G r T h w) {s m:Nat} {M:au} {x:AV} {news:List AV} {u:ah} (he:Bf P s M x h=some (m,news)) (O:fD news=true) (hu:den r x=some u):∃ N,bc r news=some N∧Src P s M u m N w:=by
 unfold Bf at he;split at he
 · rename_i b o n Z aa;split at he
   · rename_i l _ _ _ hb;replace he:=bG he; obtain ⟨A,he⟩:=he;simp only [bP] at A;cases he;obtain ⟨q,us,V,J,U,_⟩:=hr.cells hb;obtain ⟨q',cap,L,hn,rfl,_⟩:=kh hu;rw [V] at L; cases L;obtain ⟨e',E⟩:=tL A.1;have hle:=cG A.2;have hlen:=eb J;have I:=kJ (m*s)<|lA o J;refine ⟨_,I,Src.ofSlice w E _ _ _ _ (by simp; omega) (fun j u C=> ?_)<|rC I O⟩;rw [fw,jK,iG];rw [j6] at C;split at C
     · rw [kD] at C; exact U _ _ C
     · cases C
   · cases he
 · replace he:=bG he; obtain ⟨A,he⟩:=he;cases he;obtain rfl :=jQ hu;obtain ⟨e',E⟩:=tL A;exact ⟨[],by simp [bc],Src.ofNil w E 0⟩
 · replace he:=bG he; obtain ⟨A,he⟩:=he;simp only [bP] at A;cases he;obtain rfl :=jk hu;obtain rfl :=cP A.2;exact ⟨_,HH _,Src.ofString w (oe A.1) ⟨⟨_⟩⟩⟩
 · cases he
theorem Cx {t J ty e:au} {i:TypeInfo} (I:P.underlying t=some (.slice e)) (hi:P.info? e=some i) {x:ah} {news:List ah} (A:Src P i.size J x 0 news w) {base:Option Addr} {n c:Nat} (hn:n≤c):
 (lP #[t,J] ty #[.slice base n c,x]).run P w= .ok (.slice base n c) w:=by
 have L:news= []:=j5<|by rw [A.newsLen]; simp
 subst L;have E:=A.cells;cases base with
 | none=>rcases A.kind with ⟨e',C⟩ | C <;> simp [lP,run_underlying I,run_underlying C,sizeOf,typeInfo,hi,A.len,hn,E]
 | some a=>rcases A.kind with ⟨e',C⟩ | C <;> simp [lP,run_underlying I,run_underlying C,sizeOf,typeInfo,hi,A.len,hn,E,storeCells]
theorem Cy {t E ty e:au} {i:TypeInfo} (I:P.underlying t=some (.slice e)) (hi:P.info? e=some i) {x:ah} {m:Nat} {news:List ah} (A:Src P i.size E x m news w) {b off n c:Nat} {cur:Array ah} {fz:Nat×Nat} (hn:n+m≤c)
 (hb:w.heap[b]? =some (.cells cur e fz)) (J:fz.2≤off+n*i.size) (L:off+n*i.size+news.length≤cur.size):
 (lP #[t,E] ty #[.slice (some ⟨b,off,none⟩) n c,x]).run P w= .ok (.slice (some ⟨b,off,none⟩) (n+m) c) (w.setRow b (cur.toList.take (off+n*i.size)++news++cur.toList.drop (off+n*i.size+news.length)).toArray):=by
 have bK:=run_storeCells_atF P b (off+n*i.size) e fz news 0 cur w hb ag ag A.one;simp only [lT] at bK;rcases A.kind with ⟨e',C⟩ | C <;> simp [lP,run_underlying I,run_underlying C,sizeOf,typeInfo,hi,A.len,hn,A.cells,Addr.add_lit,bK]
theorem A2 (L X:List ah) (a:Nat) (h:a+X.length≤L.length) (k:Nat):(L.take a++X++L.drop (a+X.length))[k]? =if k < a then L[k]? else if k < a+X.length then X[k - a]? else L[k]? :=by
 by_cases A:k < a
 · rw [if_pos A,iF,eR (by simp; omega),j6,if_pos A]
 · rw [if_neg A];by_cases C:k < a+X.length
   · rw [if_pos C,eR (by simp; omega),eC (by simp; omega)];congr 1; simp; omega
   · rw [if_neg C,eC (by simp; omega),kD];simp only [bo,bY];congr 1; omega
theorem Cw {t A ty e:au} {i:TypeInfo} {z:ah} (L:P.underlying t=some (.slice e)) (hi:P.info? e=some i) (M:i.zero=some z) (O:z.cells.size=i.size) (Z:0 < i.size) {x:ah} {m:Nat} {olds news:List ah} (I:Src P i.size A x m news w) {base:Option Addr} {n c:Nat}
 (J:olds.length=n*i.size) (hold:(yj i.size n<|.slice base n c).run P w.drew= .ok olds.toArray w.drew) (V:∀ u∈olds,u.oneCell'=true) (C:c < n+m) (U:n+m≤1000000000) (hb:(n+m)*i.bytes≤140737488355328):
 ∃ (cap:Nat) (cs:Array ah),n+m≤cap∧cap*i.size=cs.size∧(∀ (j:Nat) (u:ah),(olds++news)[j]? =some u→cs[j]? =some u)∧(lP #[t,A] ty #[.slice base n c,x]).run P w= .ok (.slice (some ⟨w.heap.size,0,none⟩) (n+m) cap) {w.drew with heap:=w.heap.push<|.cells cs e (0,0)} :=by
 have hr:=run_append_grow_src (P:=P) w t A ty e i z L hi M base n c olds hold x m news I C ag<|growslice_fits C hb;refine ⟨_,_,grownCap_ge w (n+m) c e,?_,?_,hr⟩
 · have :=grownCap_ge w (n+m) c e;simp only [Array.size_append,fS,size_zeroCells,O,bo,J,I.newsLen,← oS];congr 1; omega
 · intro j u E;rw [Array.getElem?_append_left (by have :=(dt.1 E).1; simpa using this)];simpa using E
theorem Ms (hr:HR P G r T h w) {b o n c s:Nat} {x:Bool} {l:List AV} {e fz:Nat} {ex:Ck} {us:List ah} {q:Loc} (hb:h.t.get b=some (.cells l e fz ex)) (L:r b=some q) (C:bc r l=some us) (hle:o+n*s≤l.length) (cap:Nat):
 (yj s n<|.slice (some ⟨q.ax,q.sh+o,none⟩) n cap).run P w.drew= .ok ((us.drop o).take<|n*s).toArray w.drew:=by
 obtain ⟨q',M,I,E,J,_⟩:=hr.cells hb;rw [L] at I; cases I;rw [C] at E; cases E;have hlen:=eb C;refine run_firstCells_some (P:=P) w.drew s n _ n cap _ (by simp; omega) fun j u A=> ?_;rw [fw,jK,iG];rw [j6] at A;split at A
 · rw [kD] at A; exact J _ _ A
 · cases A
theorem J5 (hr:HR P G r T h w) {t an:au} {aX aZ v:AV} {az:Hp} (ha:yT P G t an aX aZ h=some (v,az)) (hT:az.nx≤T) (av:den r aX=some (ev N σ x)) (bp:den r aZ=some (ev N σ y)):YM P G r T N σ ⟨dst,.call ⟨.builtin .append,#[x,y],#[t,an]⟩,ty,pos,af,g⟩ h w v az:=by
 have ae:∀ {u:ah} {w':ai},(lP #[t,an] ty #[ev N σ x,ev N σ y]).run P w= .ok u w'→(execOp (ev N σ) ⟨dst,.call ⟨.builtin .append,#[x,y],#[t,an]⟩,ty,pos,af,g⟩).run P w= .ok (.value u) w':=by
  intro u w' h;simp [execOp,resolve,invoke,builtin,h]
 unfold yT at ha;split at ha
 · rename_i e s bu bH bq;obtain ⟨i,zv,hu,hi,aU,rfl,rfl,aV,aS,bC,bE,bD⟩:=xF (r:=r) bq;split at ha
   · rename_i m news bm;replace ha:=bG ha; obtain ⟨aQ,ha⟩:=ha;obtain ⟨Nw,al,V⟩:=P7 hr bm aQ bp;have a7:=eb al;have aI:=rC al aQ;split at ha
     · have ab:=jQ av;split at ha
       · cases ha;exact ⟨r,_,w,av,.inl (ae<|by rw [ab]; exact Cx hu hi V<|bf _),St.refl hr⟩
       · rename_i aG;replace ha:=bG ha; obtain ⟨C,ha⟩:=ha;simp only [bP] at C;have aw:=cG C.1;have c2:=cG C.2;have hm:0 < m:=JC fun e=>aG<|by rw [e]
         split at ha
         · rename_i Z hn;cases ha;obtain ⟨cap,cs,g1,g2,g3,g4⟩:=Cw (w:=w) (ty:=ty) (base:=none) (n:=0) (c:=0) (olds:= []) hu hi aU aV aS V (by simp) (run_firstCells_none (P:=P) w.drew i.size 0 0 0) (by simp) ag ag<|by rw [du]; exact aw
           rw [du] at g1 g4;rw [List.nil_append] at g3;obtain ⟨r',aq,bK⟩:=hr.dP hn hT cap (w':= {w.drew with heap:=w.heap.push<|.cells cs e (0,0)}) rfl rfl rfl fun r' hle _=>by
            refine ⟨cs,(0,0),Nw,U,jO hle al,?_,fun j u A=>by rw [du]; exact g3 j u A,by simp,aI,⟨(fun h=>by cases h),fun _=>rfl⟩,fun s E=> ?_⟩
            · rw [du,← a7,V.newsLen,← g2]; exact qB _ g1
            · have :s=i.size:=by unfold cO at E; rw [hi] at E; simpa using E.symm
              rw [this,du,g2]; exact bf _
           refine ⟨r',_,_,?_,.inl (ae<|by rw [ab]; exact g4),bK⟩;rw [qS aq (by simpa using g1)]; simp
         · cases ha
     · rename_i b o n c aY;obtain ⟨q,cap,ac,bh,ab,ba,a9⟩:=kh av;split at ha
       · cases ha;exact ⟨r,_,w,av,.inl (ae<|by rw [ab]; exact Cx hu hi V bh),St.refl hr⟩
       · rename_i aG;have hm:0 < m:=JC fun e=>aG<|by rw [e]
         split at ha
         · rename_i l e' fz ex hb;replace ha:=bG ha; obtain ⟨C,ha⟩:=ha;simp only [bP] at C;obtain ⟨⟨aw,c2,c3⟩,ay,ao,c6⟩:=C;obtain rfl :=cP aw;have c2:=cG c2;have c3:=cG c3;have ay:=cG ay;have ao:=cG ao;obtain ⟨q',ad,cc,fr,us,O,aa,bx,aA,a4,aB,aC,aL⟩:=hr.live b _ hb;rw [ac] at ad; cases ad;have bB:=eb aa;have bc:=Ms (s:=i.size) (x:=aY) (c:=c) hr hb ac aa ay;have holds:=kJ (n*i.size)<|lA o aa;have aH:((us.drop o).take<|n*i.size).length=n*i.size:=by simp; omega
           have aR:∀ u∈(us.drop o).take (n*i.size),u.oneCell'=true :=fun u hu=>aB u<|yz<|yA hu;have ap:=gL holds al;have aN:∀ u∈(us.drop o).take (n*i.size)++Nw,u.oneCell'=true :=fun u hu=>(dz.1 hu).elim (aR u)<|aI u;have aO:∀ s,cO P e=some s→s=i.size:=fun s E=>by unfold cO at E; rw [hi] at E; simpa using E.symm
           have aP:((us.drop o).take (n*i.size)++Nw).length=(n+m)*i.size:=by rw [bo,aH,V.newsLen,oS]
           have grow:∀ {h0 Z:Hp} {aK:Nat} {ck:Ck},ck≠.x→HR P G r T h0 w→St P G T r h w r h0 w→h0.nx=h.nx→cap < n+m→Hb.dP h0 (.cells ((l.drop o).take (n*i.size)++news) e aK ck)=some Z→Z.nx≤T→
            YM P G r T N σ ⟨dst,.call ⟨.builtin .append,#[x,y],#[t,an]⟩,ty,pos,af,g⟩ h w (.sl h.nx 0 (n+m) 0 false) Z:=by
            intro h0 Z aK ck a8 bj bn bi J hn hT;obtain ⟨a0,cs,g1,g2,g3,g4⟩:=Cw (w:=w) (ty:=ty) (base:=some ⟨q.ax,q.sh+o,none⟩) (n:=n) (c:=cap) hu hi aU aV aS V aH (bc cap) aR J c3 c2;obtain ⟨r',aq,bK⟩:=bj.dP hn hT a0 (w':= {w.drew with heap:=w.heap.push<|.cells cs e (0,0)}) rfl rfl rfl fun r' hle _=>by
             refine ⟨cs,(0,0),_,U,jO hle ap,?_,fun j u A=>by rw [du]; exact g3 j u A,by simp,aN,⟨fun h=>absurd h a8,fun _=>rfl⟩,fun s E=> ?_⟩
             · rw [du,← eb ap,aP,← g2]; exact qB _ g1
             · rw [aO s E,du,g2]; exact bf _
            rw [bi] at aq;refine ⟨r',_,_,?_,.inl (ae<|by rw [ab]; exact g4),St.trans bn bK⟩;rw [qS aq (by simpa using g1)]; simp
           cases aY
           · obtain ⟨rfl,bA⟩:=a9 rfl;simp only [cond_false] at ha;replace ha:=bG ha; obtain ⟨C,ha⟩:=ha;simp only [bP] at C;have d1:=cP C.1;have d2:=cG C.2;split at ha
             · rename_i Z hn;cases ha;have ar:=hr.del c6;have aT:St P G T r h w r ⟨h.t.del b,h.nx⟩ w:=⟨Rn.le_refl r,ar,bf _,Md.refl _ _,fun g _ k _ aE=>by
                obtain ⟨j,aW,q',a5,A,ad,rfl⟩:=aE;rw [Tr.q9 _ _ _ c6] at A;split at A
                · cases A
                · exact ⟨j,aW,q',a5,A,ad,U⟩,fun _ _=>rfl⟩
               by_cases M:n+m≤q.room - c
               ·
                have bz:=aL i.size<|by unfold cO; rw [hi]; rfl
                have bv:q.sh+o+(n+m)*i.size≤cc.size:=by
                 have :(c+(n+m))*i.size≤q.room*i.size:=qB _ ag;rw [oS] at this;omega
                have a1:Nw.length=m*i.size:=V.newsLen;have a2:(n+m)*i.size=n*i.size+m*i.size:=oS _ _ _;have am:=Cy (w:=w) (ty:=ty) (off :=q.sh+o) hu hi V M O ag ag;unfold Hb.dP at hn;replace hn:=bG hn; obtain ⟨aD,hn⟩:=hn;cases hn;simp only at hT aD;have hle:=Rn.tN (i:=h.nx) ⟨q.ax,q.sh+o,q.room - c⟩<|hr.new h.nx (bf _) ag;obtain ⟨L,aj⟩:∃ L,cc.toList.take (q.sh+o+n*i.size)++Nw++cc.toList.drop (q.sh+o+n*i.size+Nw.length)=L:=⟨_,rfl⟩
                have ak:=A2 cc.toList Nw (q.sh+o+n*i.size)<|by simp; omega
                rw [aj] at am ak;have a6:L.length=cc.size:=by rw [← aj]; simp; omega
                have aF:=setRow_heap w q.ax _ L.toArray e _ O;have aM:∀ g,g≤G→Fr g r h q.ax:=fun g J=>⟨b,_,q,cR J ao,hb,ac,rfl⟩
                refine ⟨r.ext h.nx ⟨q.ax,q.sh+o,q.room - c⟩,_,w.setRow q.ax L.toArray,?_,.inl (ae<|by rw [ab]; exact am),⟨hle,ar.put hle aD (Rn.jl _ _ _) ?_ (fun k I _=>setRow_other w q.ax k _ I) ?_ (nM _) (fun k I bg=> ?_),nM _,⟨U,U,by simp,fun k _ I=>setRow_other w q.ax k _ fun e=>I<|by rw [e]; exact aM G<|bf _⟩,fun g J k I aE=> ?_,fun k I=>Rn.lE _ _<|by simp only at I; omega⟩⟩
                · rw [qS (Rn.jl _ _ _) (by simpa using M)]; simp
                · rw [aF];refine ⟨L.toArray,fr,_,U,jO hle ap,?_,fun j u A=> ?_,by simp only; omega,aN,⟨fun h=>absurd h CW,fun h=>by obtain ⟨O,aa⟩:=KR h; simp only; rw [aC.2 O,aa]⟩,fun s E=> ?_⟩
                  · rw [← eb ap,aP]; simp only [fS]; omega
                  · simp only [nJ];rw [ak];by_cases aJ:j < n*i.size
                    · rw [eR ag,j6,if_pos aJ,kD] at A;rw [if_pos ag,sC,iG]; exact aA _ _ A
                    · rw [eC ag,aH] at A;have :=(dt.1 A).1;rw [if_neg ag,if_pos ag,show q.sh+o+j - (q.sh+o+n*i.size)=j - n*i.size from by omega]; exact A
                  · rw [aO s E];simp only [fS];have :(c+(q.room - c))*i.size=q.room*i.size:=by congr 1; omega
                    rw [oS] at this;omega
                · intro j aW q' A J ad he;rw [Tr.q9 _ _ _ c6] at J;split at J
                  · cases J
                  · rename_i bd;exact bd<|hr.inj j b _ _ _ _ J hb ad ac he
                · rw [Rn.lE _ _ (by simp only at I; omega)]; exact hr.new k (by simp only at I; omega) bg
                · rcases Fr.set aD (Rn.jl _ _ _) hle ar aE with O | O
                  · rw [O]; exact aM g J
                  · exact aT.fC g J k I O
               · exact grow CW ar aT U ag hn hT
             · cases ha
           · obtain rfl :=ba rfl;simp only [cond_true] at ha;cases M:bL (n+m) cap
             · rw [M] at ha;simp only [cond_false] at ha;split at ha
               · rename_i Z hn;cases ha;exact grow (fun h=>by cases h) hr (St.refl hr) U (by
                  rcases dM cap (n+m) with h | h
                  · exact h
                  · rw [B9 h] at M; cases M) hn hT
               · cases ha
             · rw [M] at ha;simp only [cond_true] at ha;replace ha:=bG ha; obtain ⟨C,ha⟩:=ha;simp only [bP] at C;have d1:=cG C.1;have d2:=cG C.2;have M:=cG M;cases ha;have a1:Nw.length=m*i.size:=V.newsLen;have a2:(n+m)*i.size=n*i.size+m*i.size:=oS _ _ _;have am:=Cy (w:=w) (ty:=ty) (off :=q.sh+o) hu hi V M O ag ag;obtain ⟨L,aj⟩:∃ L,cc.toList.take (q.sh+o+n*i.size)++Nw++cc.toList.drop (q.sh+o+n*i.size+Nw.length)=L:=⟨_,rfl⟩
               have ak:=A2 cc.toList Nw (q.sh+o+n*i.size)<|by simp; omega
               rw [aj] at am ak;have a6:L.length=cc.size:=by rw [← aj]; simp; omega
               have aF:=setRow_heap w q.ax _ L.toArray e _ O;refine ⟨r,_,w.setRow q.ax L.toArray,nZ ac M,.inl (ae<|by rw [ab]; exact am),hr.nq hb c6 ac ao ?_ ⟨U,U,by simp,fun k _ I=>setRow_other w q.ax k _ I⟩⟩;rw [aF];have bb:=gL (kJ (o+n*i.size) aa)<|gL al<|lA (o+(n+m)*i.size) aa;refine ⟨L.toArray,fr,_,U,bb,?_,fun j u A=> ?_,a4,?_,⟨fun hex=> ?_,aC.2⟩,fun s E=> ?_⟩
               · simp only [bo,bY,gh,fS]; omega
               · simp only [nJ];rw [ak];by_cases aJ:j < o+n*i.size
                 · rw [eR (by simp; omega),j6,if_pos aJ] at A;rw [if_pos ag,sC]; exact aA _ _ A
                 · rw [eC (by simp; omega)] at A;have a3:(us.take<|o+n*i.size).length=o+n*i.size:=by simp; omega
                   rw [a3] at A;rw [if_neg ag];by_cases bF:j < o+(n+m)*i.size
                   · rw [eR ag] at A;rw [if_pos ag,show q.sh+j - (q.sh+o+n*i.size)=j - (o+n*i.size) from by omega]; exact A
                   · rw [eC ag,kD] at A;rw [if_neg ag,sC];refine aA j u ?_;rw [← A]; congr 1; omega
               · intro a ha;rcases dz.1 ha with ha | ha
                 · exact aB a<|yA ha
                 · rcases dz.1 ha with ha | ha
                   · exact aI a ha
                   · exact aB a<|yz ha
               · obtain ⟨br,x2,bt⟩:=aC.1 hex;refine ⟨br,?_,bt⟩;simp only [bo,bY,gh,fS]; omega
               · have :=aL s E;simp only [fS]; omega
         · cases ha
     · cases ha
   · cases ha
 · cases ha
end
end Go.Hb
namespace Go.Hb
def Bj (P:av) (G:Nat) (t:au) (b o n c i:Nat) (h:Hp):Option (AV×Hp):=match dB P t with
 | some e=>cond (bC i n && (bL G b && ba b di)) (match h.t.get b with
   | some (.cells l A fz ex)=>match cO P A with
     | some e'=>cond (bC e e' && (bC o (c*e) && bL (o+n*e) l.length)) (match dP ⟨h.t.del b,h.nx⟩ (.cells [] A fz .a) with
       | some C=>some (.sl h.nx 0 0 0 false,C)
       | none=>none) none
     | none=>none
   | _=>none) none
 | none=>none
def AA (P:av) (t:au) (n i j:Nat) (h:Hp):Option (AV×Hp):=match dB P t with
 | some _=>cond (bC i n && (bC j n && ba h.nx di)) (some (.sl h.nx 0 0 0 false,⟨h.t,h.nx+1⟩)) none
 | none=>none
def zb (P:av) (G:Nat) (t:au) (x:AV) (h:Hp):Option (AV×Hp):=match x with
 | .fZ=>cond (lG P t) (some (.dg [],h)) none
 | .sl b o n c q=>match r8 P t with
   | some (e,s,_,zs)=>match n with
     | 0=>some (.dg [],h)
     | _=>match h.t.get b with
       | some (.cells l e' fz ex)=>cond ((bL (o+n*s) l.length && bL fz o) && (bL G b && ba b di)) (some (.dg [],⟨h.t.set b (.cells (l.take o++(mA zs n++l.drop (o+n*s))) e' fz ex),h.nx⟩)) none
       | _=>none
   | none=>none
 | _=>none
def ni (x:AV):List (AV×AV)→List (AV×AV)
 | []=> []
 | p::l=>cond (iw p.1 x) l (p::ni x l)
def zk (P:av) (G:Nat) (t:au) (b:Nat) (k:AV) (h:Hp):Option (AV×Hp):=match h.t.get b with
 | some (.map l)=>match P.underlying t with
   | some (.map kt e)=>match pH P kt k with
     | some A=>cond ((bL G b && ba b di) && (eO A k && gF A l)) (some (.dg [],⟨h.t.set b (.map<|ni k l),h.nx⟩)) none
     | none=>none
   | _=>none
 | _=>none
def Bw (P:av) (G:Nat) (A:au) (x y:AV) (h:Hp):Option (AV×Hp):=match x,y with
 | .ptr _ _,.int .i64 0=>some (.str [],h)
 | .jq,.int .i64 0=>some (.str [],h)
 | .ptr b 0,.int .i64 (.ofNat n)=>match h.t.get b with
   | some (.cells l e fz ex)=>match ex with
     | .a=>none
     | _=>cond ((ptrTo P A e && (bL n l.length && (ba 0 n && ba n 1000000000))) && (bL G b && ba b di)) (match pY (l.take n) with
       | some m=>some (.str m,⟨h.t.set b (.cells l e (max fz n) .z),h.nx⟩)
       | none=>none) none
   | _=>none
 | _,_=>none
def xf (P:av) (G:Nat) (o:Op) (xs:List AV) (h:Hp):Option (AV×Hp):=match o with
 | .call ⟨.builtin .append,_,⟨[t,tx]⟩⟩=>match xs with
   | [s,x]=>yT P G t tx s x h
   | _=>none
 | .call ⟨.builtin .clear,_,⟨[t]⟩⟩=>match xs with
   | [x]=>zb P G t x h
   | _=>none
 | .call ⟨.builtin .delete,_,⟨[t,_]⟩⟩=>match xs with
   | [.map b,k]=>zk P G t b k h
   | _=>none
 | .call ⟨.builtin .unsafeSliceData,_,_⟩=>match xs with
   | [.fZ]=>some (.jq,h)
   | [.sl b o n c x]=>cond (ba 0 n) (some (.ptr b o,h)) none
   | _=>none
 | .call ⟨.builtin .unsafeString,_,⟨[pt,_]⟩⟩=>match xs with
   | [x,y]=>Bw P G pt x y h
   | _=>none
 | .slice t _ (some _) none none=>match xs with
   | [.sl b o n c false,.int _ (.ofNat i)]=>Bj P G t b o n c i h
   | _=>none
 | .slice t _ (some _) (some _) none=>match xs with
   | [.sl b o n c false,.int _ (.ofNat i),.int _ (.ofNat j)]=>AA P t n i j h
   | _=>none
 | _=>none
inductive AD | mark (D:Nat) | fn (f:Nat) (args:List AV)
inductive EX | cE | ret | ext (id:Nat)
inductive Tk
 | cd (rd:Option Nat) (n:Nat) (c:cm) (fr:Tr AV) (D:List AD) (h:Hp)
 | lp (rd:Option Nat) (n:Nat) (c:cm) (fr:Tr AV) (D:List AD) (h:Hp)
 | cl (f:Nat) (args:List AV) (h:Hp)
 | yl (l:Nat) (args:List AV) (h:Hp)
 | df (f:Nat) (args:List AV) (h:Hp)
inductive Rs | no | cd (e:EX) (fr:Tr AV) (D:List AD) (h:Hp) | rv (v:AV) (h:Hp)
inductive Ro | no | v (x:AV) (h:Hp) | d (a:AD)
abbrev Xt:=Nat→Option (List AV→Hp→Option (AV×Hp))
def ic (n:Nat) (fr:Tr AV) (d:Option Nat) (v:AV):Option (Tr AV):=match d with
 | none=>some fr
 | some d=>cond (ba d n && ba d di) (some<|fr.set d v) none
def vH (X:Xt) (ih:Tk→Rs) (f:AV) (args:List AV) (h:Hp):Ro:=match f with
 | .fn f a c=>match X f with
   | some e=>match e (a++(args++c)) h with
     | some (v,h)=> .v v h
     | none=> .no
   | none=>match ih (.cl f (a++(args++c)) h) with
     | .rv v h=> .v v h
     | _=> .no
 | .iX l=>match ih (.yl l args h) with
   | .rv v h=> .v v h
   | _=> .no
 | _=> .no
def tX (P:av) (G:Nat) (X:Xt) (ih:Tk→Rs) (o:Op) (xs:List AV) (h:Hp):Ro:=match pP P o xs with
 | some v=> .v v h
 | none=>match kU P o xs h with
   | some v=> .v v h
   | none=>match o with
     | .call ⟨.value _,_,_⟩=>match xs with
       | f::args=>vH X ih f args h
       | []=> .no
     | .defer ⟨.value _,_,_⟩=>match xs with
       | .fn f a c::args=> .d<|.fn f<|a++(args++c)
       | _=> .no
     | _=>match rE P G o xs h with
       | some (v,h)=> .v v h
       | none=>match xf P G o xs h with
         | some (v,h')=>cond (bL h.nx h'.nx) (.v v h') .no
         | none=> .no
inductive Gd | y | n | no
def lF (n:Nat) (ops:List aO) (fr:Tr AV) (g:Option (Nat×Bool)):Gd:=match g with
 | none=> .y
 | some (j,want)=>match ops[j]? with
   | some o=>match o.dst with
     | some t=>cond (ba t n) (match ee fr t with
       | .bool b=>cond (b==want) .y .n
       | .dg []=> .n
       | _=> .no) .no
     | none=> .no
   | none=> .no
def lL (P:av) (G:Nat) (X:Xt) (ih:Tk→Rs) (rd:Option Nat) (n:Nat) (ops:List aO):List aO→Tr AV→List AD→Hp→Rs
 | [],fr,D,h=> .cd .cE fr D h
 | o::l,fr,D,h=>match lF n ops fr o.guard with
   | .y=>match mz G n fr (iB o.op) with
     | some xs=>match tX P G X ih o.op xs h with
       | .v v h=>match ic n fr o.dst v with
         | some fr=>lL P G X ih rd n ops l fr D h
         | none=> .no
       | .d a=>match rd with
         | none=>match ic n fr o.dst (.dg []) with
           | some fr=>lL P G X ih rd n ops l fr (a::D) h
           | none=> .no
         | some _=> .no
       | .no=> .no
     | none=> .no
   | .n=>match ic n fr o.dst (.dg []) with
     | some fr=>lL P G X ih rd n ops l fr D h
     | none=> .no
   | .no=> .no
def ki:Nat→List AV→Tr AV→Tr AV
 | _,[],fr=>fr
 | i,v::l,fr=>ki (i+1) l<|fr.set i v
def pU (n:Nat):List Nat→List AV→Tr AV→Option (Tr AV)
 | [],[],fr=>some fr
 | p::ps,v::vs,fr=>match ic n fr (some p) v with
   | some fr=>pU n ps vs fr
   | none=>none
 | _,_,_=>none
def kn (P:av) (n:Nat) (fr:Tr AV) (h:Hp):List ResultVar→Option (List AV)
 | []=>some []
 | .tmp t::l=>match kn P n fr h l with
   | some vs=>cond (ba t n) (some (ee fr t::vs)) none
   | none=>none
 | .cell a t::l=>match kn P n fr h l with
   | some vs=>cond (ba a n) (match wz P t (ee fr a) h with
     | some v=>some (v::vs)
     | none=>none) none
   | none=>none
def pR:List AV→AV
 | [v]=>v
 | vs=> .dg vs
def lJ (G:Nat) (ih:Tk→Rs):List AD→Hp→Option Hp
 | [],h=>some h
 | .mark d::l,h=>match h.t.get d with
   | some (.m9 true)=>cond (bL G d && ba d di) (lJ G ih l ⟨h.t.set d (.m9 false),h.nx⟩) none
   | _=>none
 | .fn f args::l,h=>match ih (.df f args h) with
   | .rv _ h=>lJ G ih l h
   | _=>none
def D4:EX→Option cm
 | .cE=>none
 | .ret=>some .ret
 | .ext i=>some<|.exit i
def qV (G:Nat) (ih:Tk→Rs) (rd:Option Nat) (n:Nat) (fr:Tr AV) (D:List AD) (l:Nat) (h:Hp):Rs:=match h.t.get l with
 | some (.loop st A m C ps aU body d)=>match st with
   | .busy=> .no
   | _=>cond (bL G l && ba l di) (match A with
     | none=> .cd .cE fr D ⟨h.t.set l (.loop .exhausted A m C ps aU body d),h.nx⟩
     | some c=>ih (.cd rd n c fr D ⟨h.t.set l (.loop .exhausted A m C ps aU body d),h.nx⟩)) .no
 | _=> .no
def rQ (ih:Tk→Rs) (G:Nat) (rd:Option Nat) (n:Nat) (g:bu) (ps:List Nat) (aU body:cm) (fr:Tr AV) (D:List AD) (h:Hp):Rs:=match my G n fr g with
 | some (.fn f a c)=>match rd with
   | none=>match dP h (.m9 true) with
     | some A=>match dP A (.loop .ready none n fr ps aU body h.nx) with
       | some C=>match ih (.cl f (a++(.iX A.nx::c)) C) with
         | .rv _ E=>qV G ih rd n fr (.mark h.nx::D) A.nx E
         | _=> .no
       | none=> .no
     | none=> .no
   | some I=>match h.t.get I with
     | some (.loop _ _ _ _ _ _ _ d)=>match dP h (.loop .ready none n fr ps aU body d) with
       | some C=>match ih (.cl f (a++(.iX h.nx::c)) C) with
         | .rv _ E=>qV G ih rd n fr D h.nx E
         | _=> .no
       | none=> .no
     | _=> .no
 | _=> .no
def uE (G:Nat) (ih:Tk→Rs) (l:Nat) (args:List AV) (h:Hp):Rs:=match h.t.get l with
 | some (.loop .ready J n fr ps aU body d)=>match pU n ps args fr with
   | some fr=>match ih (.cd (some l) n aU fr [] h) with
     | .cd .cE fr [] h=>match h.t.get l with
       | some (.loop .ready L C A M E I d1)=>cond (bL G l && ba l di) (match ih (.cd (some l) n body fr [] ⟨h.t.set l (.loop .busy L C A M E I d1),h.nx⟩) with
         | .cd e fr [] h=>match h.t.get l with
           | some (.loop .busy J C A ps aU body d)=>match e with
             | .cE=> .rv (.bool true) ⟨h.t.set l (.loop .ready none C A ps aU body d),h.nx⟩
             | e=> .rv (.bool false) ⟨h.t.set l (.loop .done (D4 e) C A ps aU body d),h.nx⟩
           | _=> .no
         | _=> .no) .no
       | _=> .no
     | _=> .no
   | none=> .no
 | _=> .no
mutual
def iL:AV→AV→Bool
 | .bool a,.bool b=>a==b
 | .int k a,.int k' b=>cond (bC (eX k)<|eX k') (decide (a=b)) false
 | .str l,.str m=>jR l m
 | .ptr b o,.ptr b' o'=>bC b b' && bC o o'
 | .jq,.jq=>true
 | .sl b o n c x,.sl b' o' n' c' x'=>(bC b b' && bC o o') && (bC n n' && (bC c c' && (x==x')))
 | .fZ,.fZ=>true
 | .map b,.map b'=>bC b b'
 | .mq,.mq=>true
 | .fn f a c,.fn f' a' c'=>bC f f' && (nb a a' && nb c c')
 | .iX l,.iX l'=>bC l l'
 | .km,.km=>true
 | .jU t v,.jU t' v'=>bC t t' && iL v v'
 | .fM,.fM=>true
 | .agg l,.agg m=>nb l m
 | .dg l,.dg m=>nb l m
 | _,_=>false
def nb:List AV→List AV→Bool
 | [],[]=>true
 | a::l,b::m=>cond (iL a b) (nb l m) false
 | _,_=>false
end
def sd:List bu→List Nat
 | []=> []
 | .tmp t::l=>t::sd l
 | _::l=>sd l
def zP (ops:List aO) (g:Option (Nat×Bool)):List Nat:=match g with
 | none=> []
 | some (j,_)=>match ops[j]? with
   | some q=>match q.dst with
     | some t=> [t]
     | none=> []
   | none=> []
def rP (ops:List aO) (o:aO):List Nat:=zP ops o.guard++sd (iB o.op)
def tT (t:Nat):List Nat→Bool
 | []=>false
 | u::l=>cond (bC t u) true<|tT t l
def wU (d:Option Nat) (l:List Nat):Bool:=match d with
 | some t=>tT t l
 | none=>false
def ox (l:List Nat) (i:Nat):Nat:=nk l i 0
def ot (acc:List Nat):List cI→Nat
 | []=>0
 | e::l=>cond (eQ .any e && ba e.on acc.length) (Nat.lor (Nat.lor (Nat.pow 2 e.on)<|ox acc e.on)<|ot acc l)<|ot acc l
def jP:List aO→List Nat→List Nat
 | [],acc=>acc
 | o::l,acc=>jP l<|acc++ [ot acc o.after.toList]
def ln (A:List Nat) (i j:Nat):Bool:=vf (ox A i) j
def tB (i:Nat):List cI→Bool
 | []=>true
 | e::l=>cond (eQ .any e && !(ba e.on i)) false<|tB i l
def DP (a b:Option Nat):Bool:=match a,b with
 | some a,some b=>bC a b
 | _,_=>false
def vJ (ops:List aO) (E:List Nat) (i:Nat) (A:aO):Nat→List aO→Bool
 | _,[]=>true
 | j,C::l=>cond (ba j i) ((!(DP A.dst C.dst) && (ln E i j || (!(wU C.dst<|rP ops A) && !(wU A.dst<|rP ops C)))) && vJ ops E i A (j+1) l) true
def qP (ops:List aO) (A:List Nat):Nat→List aO→Bool
 | _,[]=>true
 | i,C::l=>(tB i C.after.toList && vJ ops A i C 0 ops) && qP ops A (i+1) l
inductive Cs | s | p | l | a | c
structure Rec where
 k:Cs
 xs:List AV
 v:AV
 hb:Hp
 ha:Hp
def vB (P:av) (e:au):Option (List AV):=match zeroOf P e with
 | some (some A)=>match mr (kR 4) A with
   | some l=>cond (fD l) (some l) none
   | none=>none
 | _=>none
def early (A:List Nat) (i:Nat) (last:Option Nat):Bool:=match last with
 | some c=> !(ln A i c)
 | none=>false
def AM (P:av) (G:Nat) (X:Xt) (ih:Tk→Rs) (fr:Bool) (o:Op) (xs:List AV) (h:Hp):Option Rec:=match pP P o xs with
 | some v=>some ⟨.p,xs,v,h,h⟩
 | none=>match kU P o xs h with
   | some v=>some ⟨.l,xs,v,h,h⟩
   | none=>match fr,o with
     | true,.alloc e=>match vB P e with
       | some l=>match dP h (.cells l e 0 .x) with
         | some A=>some ⟨.a,xs,.ptr h.nx 0,h,A⟩
         | none=>none
       | none=>none
     | _,_=>match tX P G X ih o xs h with
       | .v v A=>some ⟨.c,xs,v,h,A⟩
       | _=>none
def Np (i:Nat) (last:Option Nat):Cs→Option Nat
 | .c=>some i
 | _=>last
def nv (P:av) (G:Nat) (X:Xt) (ih:Tk→Rs) (n:Nat) (ops:List aO) (A:List Nat):Nat→Option Nat→List aO→Tr AV→Hp→Option (List Rec×Tr AV×Hp)
 | _,_,[],fr,h=>some ([],fr,h)
 | i,last,o::l,fr,h=>match lF n ops fr o.guard with
   | .y=>match mz G n fr (iB o.op) with
     | some xs=>match AM P G X ih (early A i last) o.op xs h with
       | some r=>match ic n fr o.dst r.v with
         | some fr=>match nv P G X ih n ops A (i+1) (Np i last r.k) l fr r.ha with
           | some (rs,fr,h)=>some (r::rs,fr,h)
           | none=>none
         | none=>none
       | none=>none
     | none=>none
   | .n=>match ic n fr o.dst (.dg []) with
     | some fr=>match nv P G X ih n ops A (i+1) last l fr h with
       | some (rs,fr,h')=>some (⟨.s,[],.dg [],h,h⟩::rs,fr,h')
       | none=>none
     | none=>none
   | .no=>none
def zt (a:Option AV) (v:AV):Bool:=match a with
 | some a=>iL a v
 | none=>false
def tV (P:av) (A:List Nat) (i:Nat) (o:Op) (xs:List AV) (v:AV):Nat→List Rec→Bool
 | _,[]=>true
 | j,q::l=>cond (match q.k with
   | .c=>cond (ba j i) (ln A i j || zt (kU P o xs q.hb) v) (ln A j i || zt (kU P o xs q.ha) v)
   | .a=> !(ba j i)
   | _=>true) (tV P A i o xs v (j+1) l) false
def tU (A:List Nat) (i:Nat):Nat→List Rec→Bool
 | _,[]=>true
 | j,q::l=>cond (match q.k with
   | .c=>cond (ba j i) (ln A i j) true
   | .a=>cond (ba j i) (ln A i j) true
   | _=>true) (tU A i (j+1) l) false
def np (P:av) (A:List Nat) (rs:List Rec):Nat→List aO→List Rec→Bool
 | _,[],[]=>true
 | i,o::l,q::m=>cond (match q.k with
   | .l=>tV P A i o.op q.xs q.v 0 rs
   | .c=>tU A i 0 rs
   | _=>true) (np P A rs (i+1) l m) false
 | _,_,_=>false
def vR (P:av) (G:Nat) (X:Xt) (ih:Tk→Rs) (n:Nat) (ops:List aO) (fr:Tr AV) (D:List AD) (h:Hp):Rs:=match jP ops [] with
 | A=>cond (qP ops A 0 ops) (match nv P G X ih n ops A 0 none ops fr h with
   | some (rs,fr,h)=>cond (np P A rs 0 ops rs) (.cd .cE fr D h) .no
   | none=> .no) .no
def gU (P:av) (G:Nat) (X:Xt) (ih:Tk→Rs):Tk→Rs
 | .cd rd n c fr D h=>match c with
   | .skip => .cd .cE fr D h
   | .region _ ⟨ops⟩ draw=>cond draw (vR P G X ih n ops fr D h)<|lL P G X ih rd n ops ops fr D h
   | .seq a b=>match ih (.cd rd n a fr D h) with
     | .cd .cE fr D h=>ih<|.cd rd n b fr D h
     | r=>r
   | .cond x a b=>match my G n fr x with
     | some (.bool true)=>ih<|.cd rd n a fr D h
     | some (.bool false)=>ih<|.cd rd n b fr D h
     | _=> .no
   | .block id c=>match ih (.cd rd n c fr D h) with
     | .cd (.ext j) fr D h=>cond (bC j id) (.cd .cE fr D h)<|.cd (.ext j) fr D h
     | r=>r
   | .loop c=>ih<|.lp rd n c fr D h
   | .rangeFunc g ⟨ps⟩ aU body=>rQ ih G rd n g ps aU body fr D h
   | .exit id=> .cd (.ext id) fr D h
   | .ret=> .cd .ret fr D h
   | _=> .no
 | .lp rd n c fr D h=>match ih (.cd rd n c fr D h) with
   | .cd .cE fr D h=>ih<|.lp rd n c fr D h
   | r=>r
 | .cl f args h=>match P.funcs[f]? with
   | some fn=>match fn.body with
     | some c=>cond (bL args.length fn.ntmps && ba fn.ntmps di) (match ih (.cd none fn.ntmps c (ki 0 args .nil) [] h) with
       | .cd (.ext _) _ _ _=> .no
       | .cd _ fr D h=>match lJ G ih D h with
         | some h=>match kn P fn.ntmps fr h fn.results.toList with
           | some vs=> .rv (pR vs) h
           | none=> .no
         | none=> .no
       | _=> .no) .no
     | none=> .no
   | none=> .no
 | .yl l args h=>uE G ih l args h
 | .df f args h=>match P.funcs[f]? with
   | some fn=>match fn.body with
     | some c=>cond (bL args.length fn.ntmps && ba fn.ntmps di) (match (match c with
       | .seq (.region _ ⟨⟨some d,.call ⟨.builtin .recover,⟨[]⟩,⟨[]⟩⟩,ty,pos,af,none⟩::rest⟩ false) y=>match ic fn.ntmps (ki 0 args .nil) (some d) .fM with
         | some fr=>match lL P G X ih none fn.ntmps (⟨some d,.call ⟨.builtin .recover,⟨[]⟩,⟨[]⟩⟩,ty,pos,af,none⟩::rest) rest fr [] h with
           | .cd .cE fr [] h=>ih<|.cd none fn.ntmps y fr [] h
           | _=> .no
         | none=> .no
       | c=>ih (.cd none fn.ntmps c (ki 0 args .nil) [] h)) with
       | .cd (.ext _) _ _ _=> .no
       | .cd _ fr [] h=>match kn P fn.ntmps fr h fn.results.toList with
         | some vs=> .rv (pR vs) h
         | none=> .no
       | _=> .no) .no
     | none=> .no
   | none=> .no
def jT (P:av) (G:Nat) (X:Xt):Nat→Tk→Rs
 | 0,_=> .no
 | n+1,t=>gU P G X (jT P G X n) t
def tJ (c:Nat):List UInt8→Nat→Int
 | [],_=> -1
 | b::l,i=>cond (bC b.toNat c) (mP i)<|tJ c l<|i+1
def BG (xs:List AV) (h:Hp):Option (AV×Hp):=match xs with
 | [.str l,.int .u8 (.ofNat c)]=>cond (ba c 256) (match gG .i64 (tJ c l 0) with
   | some v=>some (v,h)
   | none=>none) none
 | _=>none
def BE (xs:List AV) (h:Hp):Option (AV×Hp):=match xs with
 | [x]=>some (x,h)
 | _=>none
end Go.Hb
namespace Go.Hb
section
variable {P:av} {G:Nat} {r:Rn} {T:Nat} {h:Hp} {w:ai} {N:Fm} {σ:Nat→ah} {dst:Option Nat} {ty:au} {pos :String} {af:Array cI} {g:Option (Nat×Bool)} {x y z:bu}
theorem HR.GG (hr:HR P G r T h w) {b o:Nat} {l news:List AV} {e fz:Nat} {ex:Ck} {q:Loc} {Nw:List ah} (hb:h.t.get b=some (.cells l e fz ex)) (ak:bL G b=true) (al:ba b di=true) (O:r b=some q) (E:bc r news=some Nw) (aj:fD news=true) (hle:o+news.length≤l.length) (au:fz≤o):
 ∃ c fr,w.heap[q.ax]? =some (.cells c e fr)∧fr.2≤q.sh+o∧q.sh+o+Nw.length≤c.size∧(∀ u∈Nw,u.oneCell'=true)∧
   St P G T r h w r ⟨h.t.set b (.cells (l.take o++(news++l.drop (o+news.length))) e fz ex),h.nx⟩ (w.setRow q.ax (c.toList.take (q.sh+o)++Nw++c.toList.drop (q.sh+o+Nw.length)).toArray):=by
 obtain ⟨q',V,c,fr,us,Z,I,ay,aa,ao,ab,ac,ap⟩:=hr.live b _ hb;rw [O] at V; cases V;have av:=eb E;have aw:=eb I;have M:=rC E aj;obtain ⟨L,C⟩:∃ L,c.toList.take (q.sh+o)++Nw++c.toList.drop (q.sh+o+Nw.length)=L:=⟨_,rfl⟩
 have J:=A2 c.toList Nw (q.sh+o)<|by have :=qf (xs:=c); omega
 rw [C] at J;have ar:L.length=c.size:=by rw [← C]; simp; omega
 refine ⟨c,fr,Z,ag,ag,M,?_⟩;rw [C];refine hr.nq hb al O (cG ak) ?_ ⟨U,U,by simp,fun k _ am=>setRow_other w q.ax k _ am⟩;rw [setRow_heap w q.ax _ _ e _ Z];refine ⟨L.toArray,fr,_,U,gL (kJ o I) (gL E<|lA (o+news.length) I),?_,fun j a A=> ?_,ao,?_,⟨fun hex=> ?_,ac.2⟩,fun s an=> ?_⟩
 · simp only [bo,bY,gh,fS]; omega
 · rw [nJ,J];have ad:(us.take o).length=o:=by simp; omega
   by_cases m1:j < o
   · rw [eR ag,j6,if_pos m1] at A;rw [if_pos ag,sC]; exact aa _ _ A
   · rw [eC ag,ad] at A;rw [if_neg ag];by_cases az:j < o+Nw.length
     · rw [eR ag] at A;rw [if_pos ag,show q.sh+j - (q.sh+o)=j - o from by omega]; exact A
     · rw [eC ag,kD] at A;rw [if_neg ag,sC];refine aa j a ?_;rw [← A]; congr 1; omega
 · intro a ha;rcases dz.1 ha with ha | ha
   · exact ab a<|yA ha
   · rcases dz.1 ha with ha | ha
     · exact M a ha
     · exact ab a<|yz ha
 · obtain ⟨ae,aq,ai⟩:=ac.1 hex;refine ⟨ae,?_,ai⟩;simp only [bo,bY,gh,fS]; omega
 · have :=ap s an;simp only [fS]; omega
theorem Oe (hr:HR P G r T h w) {t b o n c i j:Nat} {L:Hp} {v:AV} {k an:bX} (hn:AA P t n i j h=some (v,L)) (hT:L.nx≤T) (ak:den r (.sl b o n c false)=some (ev N σ x)) (al:ev N σ y= .int k (mP i)) (am:ev N σ z= .int an (mP j)):YM P G r T N σ ⟨dst,.slice t x (some y) (some z) none,ty,pos,af,g⟩ h w v L:=by
 unfold AA at hn;split at hn
 · rename_i e he;replace hn:=bG hn; obtain ⟨M,hn⟩:=hn;simp only [bP] at M;obtain rfl :=cP M.1;obtain rfl :=cP M.2.1;cases hn;simp only at hT;obtain ⟨q,ar,aq,hu⟩:=vQ ak;have aj:=xG (dst:=dst) (ty:=ty) (pos :=pos) (af:=af) (g:=g) (w:=w) he hu al am ⟨ik _,Int.le_refl _,by simp; omega⟩;obtain ⟨ad,ac⟩:∃ ad:Nat,dW (some ⟨q.ax,q.sh+o,none⟩) (q.room - c) j e=some ⟨q.ax,ad,none⟩:=by
    unfold dW; split
    · exact ⟨_,U⟩
    · exact ⟨_,by rw [fg,fw]⟩
   have hle:=Rn.tN (i:=h.nx) ⟨q.ax,ad,q.room - c - j⟩<|hr.new h.nx (bf _) ag;refine ⟨r.ext h.nx ⟨q.ax,ad,q.room - c - j⟩,_,w,?_,.inl aj,hle,⟨fun j J C=> ?_,fun j k Z aa av ao C E I A he=> ?_,fun k E ah=> ?_,hr.gZ.le hle,cR hr.base<|nM _⟩,nM _,Md.refl _ _,fun g ap k E ae=> ?_,fun k E=>Rn.lE _ _<|by simp only at E; omega⟩
   · rw [qS (Rn.jl _ _ _) (by simp)];simp [ac]
   · obtain ⟨q',I,A⟩:=hr.live j J C;exact ⟨q',hle _ _ I,A.le hle⟩
   · obtain ⟨q',O,_⟩:=hr.live j Z C;obtain ⟨au,V,_⟩:=hr.live k aa E;rw [hle _ _ O] at I; cases I;rw [hle _ _ V] at A; cases A;exact hr.inj j k Z aa _ _ C E O V he
   · simp only at E; rw [Rn.lE _ _ ag]; exact hr.new k ag ah
   · obtain ⟨j,J,q',ab,C,ai,rfl⟩:=ae;obtain ⟨ao,A,_⟩:=hr.live j J C;have :=hle _ _ A;rw [ai] at this; cases this;exact ⟨j,J,_,ab,C,A,U⟩
 · cases hn
theorem HR.LJ (hr:HR P G r T h w) {b:Nat} (hb:ba b di=true):St P G T r h w r ⟨h.t.del b,h.nx⟩ w:=
 ⟨Rn.le_refl r,hr.del hb,bf _,Md.refl _ _,fun g _ k _ E=>by
  obtain ⟨j,J,q',C,A,I,rfl⟩:=E;rw [Tr.q9 _ _ _ hb] at A;split at A
  · cases A
  · exact ⟨j,J,q',C,A,I,U⟩,fun _ _=>rfl⟩
theorem HR.N4 (hr:HR P G r T h w) {b:Nat} {o:AO} {q q':Loc} {E:Hp} {ob:AO} (hb:h.t.get b=some ob) (L:ba b di=true) (O:r b=some q) (Z:bL G b=true) (J:q'.ax=q.ax) (hn:Hb.dP ⟨h.t.del b,h.nx⟩ o=some E) (hT:E.nx≤T) (ad:∀ r',r.le r'→OR P r' q' o w.heap[q.ax]?):
 ∃ r',r' h.nx=some q'∧St P G T r h w r' E w:=by
 have U:=hr.del L;have ah:=hr.LJ L;unfold Hb.dP at hn;replace hn:=bG hn; obtain ⟨M,hn⟩:=hn;cases hn;simp only at hT M;have hle:=Rn.tN (i:=h.nx) q'<|hr.new h.nx (bf _) ag;have V:∀ g,g≤G→Fr g r h q.ax:=fun g A=>⟨b,_,q,cR A (cG Z),hb,O,rfl⟩
 refine ⟨r.ext h.nx q',Rn.jl _ _ _,hle,U.put hle M (Rn.jl _ _ _) (by rw [J]; exact ad _ hle) (fun _ _ _=>rfl) (fun j aj ak ai A ae he=> ?_) (nM _) (fun k C ac=> ?_),nM _,Md.refl _ _,fun g A k C aa=> ?_,fun k C=>Rn.lE _ _<|by simp only at C; omega⟩
 · rw [Tr.q9 _ _ _ L] at A;split at A
   · cases A
   · rename_i ab;exact ab<|hr.inj j b _ _ _ _ A hb ae O<|by rw [he,J]
 · simp only at C; rw [Rn.lE _ _ ag]; exact hr.new k ag ac
 · rcases Fr.set M (Rn.jl _ _ _) hle U aa with I | I
   · rw [I,J]; exact V g A
   · exact ah.fC g A k C I
theorem QB (hr:HR P G r T h w) {t b o n c i:Nat} {C:Hp} {v:AV} {k:bX} (hn:Bj P G t b o n c i h=some (v,C)) (hT:C.nx≤T) (aj:den r (.sl b o n c false)=some (ev N σ x)) (ak:ev N σ y= .int k (mP i)):YM P G r T N σ ⟨dst,.slice t x (some y) none none,ty,pos,af,g⟩ h w v C:=by
 unfold Bj at hn;split at hn
 · rename_i e he;replace hn:=bG hn; obtain ⟨E,hn⟩:=hn;simp only [bP] at E;obtain rfl :=cP E.1;obtain ⟨_,O,V⟩:=E;split at hn
   · rename_i l aA fz ex hb;split at hn
     · rename_i e' I;replace hn:=bG hn; obtain ⟨A,hn⟩:=hn;simp only [bP] at A;obtain rfl :=cP A.1;have d1:=cP A.2.1;have d2:=cG A.2.2;split at hn
       · rename_i an ac;cases hn;obtain ⟨q,J,ap,hu⟩:=vQ aj;obtain ⟨q',L,cc,fr,us,al,aq,ar,au,av,aw,ay,am⟩:=hr.live b _ hb;rw [J] at L; cases L;have az:=am e I;have ai:=um (dst:=dst) (ty:=ty) (pos :=pos) (af:=af) (g:=g) (w:=w) he hu ak ⟨ik _,Int.le_refl _⟩;have ah:(c+i+(q.room - c - i))*e=q.room*e:=by congr 1; omega
         rw [oS,oS] at ah;obtain ⟨ad,Z,ao,aa⟩:∃ ad:Nat,dW (some ⟨q.ax,q.sh+o,none⟩) (q.room - c) i e=some ⟨q.ax,ad,none⟩∧q.sh≤ad∧ad+(q.room - c - i)*e≤cc.size:=by
          unfold dW; split
          · rename_i h0;refine ⟨_,U,ag,?_⟩;rw [show q.room - c - i=0 from by omega,sV]; omega
          · exact ⟨q.sh+o+i*e,by rw [fg,fw],ag,ag⟩
         obtain ⟨r',ae,bK⟩:=hr.N4 (q':=⟨q.ax,ad,q.room - c - i⟩) hb V J O rfl ac hT fun r' hle=>by
          refine ⟨cc,fr,[],al,by simp [bc],by simp only [fu,lT]; omega,fun j u ab=>by simp at ab,by simp only; omega,fun u hu=>by simp at hu,⟨(fun h=>by cases h),fun h=>absurd U h⟩,fun s M=> ?_⟩;rw [I] at M; cases M;exact aa
         refine ⟨r',_,w,?_,.inl ai,bK⟩;rw [qS ae (by simp)];simp [Z]
       · cases hn
     · cases hn
   · cases hn
 · cases hn
theorem KX (hr:HR P G r T h w) {t:au} {a v:AV} {I:Hp} (hn:zb P G t a h=some (v,I)) (O:den r a=some (ev N σ x)):YM P G r T N σ ⟨dst,.call ⟨.builtin .clear,#[x],#[t]⟩,ty,pos,af,g⟩ h w v I:=by
 have E:∀ {u:ah} {w':ai},(yi #[t] ty #[ev N σ x]).run P w= .ok u w'→(execOp (ev N σ) ⟨dst,.call ⟨.builtin .clear,#[x],#[t]⟩,ty,pos,af,g⟩).run P w= .ok (.value u) w':=by
  intro u w' h;simp [execOp,resolve,invoke,builtin,h]
 unfold zb at hn;split at hn
 · replace hn:=bG hn; obtain ⟨A,hn⟩:=hn;cases hn;obtain ⟨e,he⟩:=tL A;have hu:=jQ O;exact ⟨r,undef,w,kf r,.inl (E<|by rw [hu]; simp [yi,bS he]; rfl),St.refl hr⟩
 · rename_i b o n c q;split at hn
   · rename_i e s ao an ab;obtain ⟨i,zv,hu,hi,ac,rfl,rfl,ak,ar,ae,aj,av⟩:=xF (r:=r) ab;obtain ⟨V,cap,aa,ap,U,_⟩:=kh O;split at hn
     · cases hn;exact ⟨r,undef,w,kf r,.inl (E<|by rw [U]; simp [yi,bS hu]; rfl),St.refl hr⟩
     · rename_i Z;split at hn
       · rename_i l e' fz ex hb;replace hn:=bG hn; obtain ⟨A,hn⟩:=hn;simp only [bP] at A;obtain ⟨⟨C,c2⟩,c3,c4⟩:=A;have C:=cG C;have c2:=cG c2;cases hn;have J:=xm ae n;have hlen:=eb J;have L:(mA an n).length=n*i.size:=by
          rw [← hlen]; simp [List.length_flatten,ak]
         obtain ⟨cc,fr,al,aw,ay,am,bK⟩:=hr.GG (o:=o) hb c3 c4 aa J (AN aj n) (by rw [L]; exact C) c2;have M:=run_storeCells_atF P V.ax (V.sh+o) e' fr _ 0 cc w al ag ag am;simp only [lT] at M;rw [L] at bK;refine ⟨r,undef,_,kf r,.inl (E ?_),bK⟩;rw [U];have ad:(It zv.cells n).toList=(eM n zv.cells.toList).flatten:=by
          have :=AL zv.cells ag n;have :=congrArg Array.toList this;simpa [It] using this
         have aq:n≠0:=fun h=>Z<|by rw [h]
         obtain ⟨m,rfl⟩:∃ m,n=m+1:=⟨n - 1,ag⟩
         simp [yi,bS hu,zeroValue,eh hi,ac,ad,M];rfl
       · cases hn
   · cases hn
 · cases hn
theorem Ff {x:AV} {kx:ah} {A:KK} (E:eO A x=true) (C:den r x=some kx):∀ {l:List (AV×AV)} {es:List MapEntry} {j:Nat} {e':MapEntry},iy r l es→gF A l=true→
 es[j]? =some e'→e'.key=kx→(es.map fun e=>e.key).Nodup→iy r (ni x l) (es.eraseIdx j)
 | [],[],j,e',_,_,hj,_,_=>by simp at hj
 | [],_::_,_,_,hm,_,_,_,_=>hm.elim
 | _::_,[],_,_,hm,_,_,_,_=>hm.elim
 | q::l,e::es,0,e',hm,hk,hj,hk',_=>by
   simp only [gF] at hk;cases h1:eO A q.1
   · rw [h1] at hk; cases hk
   · simp only [jB,bR] at hj;subst hj;simp only [ni,(nj h1 E hm.1 C).2 hk',cond_true];exact hm.2.2
 | q::l,e::es,j+1,e',hm,hk,hj,hk',hn=>by
   simp only [gF] at hk;cases h1:eO A q.1
   · rw [h1] at hk; cases hk
   · rw [h1] at hk;simp only [jA] at hj;simp only [eS,sP] at hn;have he:iw q.1 x=false :=by
      cases hq:iw q.1 x
      · rfl
      · have :=(nj h1 E hm.1 C).1 hq;exact absurd (iZ.2 ⟨e',lj hj,hk'.trans this.symm⟩) hn.1
     simp only [ni,he,cond_false];exact ⟨hm.1,hm.2.1,Ff E C hm.2.2 hk hj hk' hn.2⟩
theorem EM {x:AV} {kx:ah} {A:KK} (E:eO A x=true) (C:den r x=some kx):∀ {l:List (AV×AV)} {es:List MapEntry},iy r l es→gF A l=true→(∀ e∈es,e.key≠kx)→ni x l=l
 | [],_,_,_,_=>rfl
 | q::l,[],hm,_,_=>hm.elim
 | q::l,e::es,hm,hk,hn=>by
   simp only [gF] at hk;cases h1:eO A q.1
   · rw [h1] at hk; cases hk
   · rw [h1] at hk;have he:iw q.1 x=false :=by
      cases hq:iw q.1 x
      · rfl
      · exact absurd ((nj h1 E hm.1 C).1 hq)<|hn e lS
     simp only [ni,he,cond_false,EM E C hm.2.2 hk (fun e he=>hn e<|mQ _ he)]
theorem LH (hr:HR P G r T h w) {t I:au} {b:Nat} {k v:AV} {J:Hp} (hp:zk P G t b k h=some (v,J)) (am:den r (.map b)=some (ev N σ x)) (E:den r k=some (ev N σ y)):YM P G r T N σ ⟨dst,.call ⟨.builtin .delete,#[x,y],#[t,I]⟩,ty,pos,af,g⟩ h w v J:=by
 have Z:∀ {u:ah} {w':ai},(sI #[t,I] ty #[ev N σ x,ev N σ y]).run P w= .ok u w'→(execOp (ev N σ) ⟨dst,.call ⟨.builtin .delete,#[x,y],#[t,I]⟩,ty,pos,af,g⟩).run P w= .ok (.value u) w':=by
  intro u w' h;simp [execOp,resolve,invoke,builtin,h]
 unfold zk at hp;split at hp
 · rename_i l hb;split at hp
   · rename_i kt e aa;split at hp
     · rename_i an ag;replace hp:=bG hp; obtain ⟨L,hp⟩:=hp;simp only [bP] at L;obtain ⟨⟨ac,ad⟩,hka,hkl⟩:=L;cases hp;obtain ⟨q,es,c,U,hw,hm,hn⟩:=hr.map hb;obtain ⟨q',V,hu⟩:=ph am;rw [U] at V; cases V;have A:=z6 ag;have hi:=wy hka E;have ae:∀ e∈es.toList,re an e.key:=vX rfl (wS hm hkl);have aj:=(cx.1 hw).1;have st:∀ (es':Array MapEntry),iy r (ni k l) es'.toList→(es'.toList.map fun e=>e.key).Nodup→St P G T r h w r ⟨h.t.set b (.map<|ni k l),h.nx⟩ {w with heap:=w.heap.setIfInBounds q.ax<|.map es' c} :=fun es' g1 g2=>
        hr.nq hb ad U (cG ac) ⟨es',c,by simp only; rw [oL aj],g1,g2⟩ ⟨rfl,rfl,by simp,fun i _ ak=>by simp only; rw [nF (fun e=>ak e.symm)]⟩
       rcases A.find w (ev N σ y) es.toList hi ae with ⟨C,al⟩ | ⟨j,e',C,O,ab⟩
       · refine ⟨r,undef,_,kf r,.inl (Z ?_),st es (by rw [EM hka E hm hkl al]; exact hm) hn⟩;rw [hu];simp [sI,bS aa,run_getObj_map hw,A.check _ w _ hi,C,setObj,lQ,hw];rfl
       · have ao:=(dt.1 O).1;have M:(es.eraseIdxIfInBounds j).toList=es.toList.eraseIdx j:=by simp
         refine ⟨r,undef,_,kf r,.inl (Z ?_),st (es.eraseIdxIfInBounds j) (by rw [M]; exact Ff hka E hm hkl O ab hn) (by
          rw [M];exact List.Nodup.sublist (BV _<|List.eraseIdx_sublist _ _) hn)⟩
         rw [hu];simp [sI,bS aa,run_getObj_map hw,A.check _ w _ hi,C,setObj,lQ,hw];rfl
     · cases hp
   · cases hp
 · cases hp
theorem Q8 (hr:HR P G r T h w) {A it:au} {a b v:AV} {J:Hp} (hp:Bw P G A a b h=some (v,J)) (aa:den r a=some (ev N σ x)) (ab:den r b=some (ev N σ y)):YM P G r T N σ ⟨dst,.call ⟨.builtin .unsafeString,#[x,y],#[A,it]⟩,ty,pos,af,g⟩ h w v J:=by
 have V:∀ {u:ah} {w':ai},(Builtin.unsafeString_ #[A,it] ty #[ev N σ x,ev N σ y]).run P w= .ok u w'→(execOp (ev N σ) ⟨dst,.call ⟨.builtin .unsafeString,#[x,y],#[A,it]⟩,ty,pos,af,g⟩).run P w= .ok (.value u) w':=by
  intro u w' h;simp [execOp,resolve,invoke,builtin,h]
 have al:den r (.str [])=some (.string .empty):=rfl;unfold Bw at hp;split at hp
 · cases hp;obtain ⟨q,O,hu⟩:=kg aa;have E:=dF ab;exact ⟨r,_,w,al,.inl (V<|by rw [hu,E]; exact IM w A it ty _),St.refl hr⟩
 · cases hp;have hu:=qU aa;have E:=dF ab;exact ⟨r,_,w,al,.inl (V<|by rw [hu,E]; exact IM w A it ty _),St.refl hr⟩
 · rename_i I n _;split at hp
   · rename_i l e fz ex hb;have key:ex≠.a→cond ((ptrTo P A e && (bL n l.length && (ba 0 n && ba n 1000000000))) && (bL G I && ba I di)) (match pY (l.take n) with
      | some m=>some (AV.str m,(⟨h.t.set I (.cells l e (max fz n) .z),h.nx⟩:Hp))
      | none=>none) none=some (v,J)→YM P G r T N σ ⟨dst,.call ⟨.builtin .unsafeString,#[x,y],#[A,it]⟩,ty,pos,af,g⟩ h w v J:=by
      intro hex hp;replace hp:=bG hp; obtain ⟨ak,hp⟩:=hp;simp only [bP] at ak;obtain ⟨⟨C,ae,c2,c3⟩,hG,hbm⟩:=ak;have ae:=cG ae;have c2:=dk.1 c2;have c3:=dk.1 c3;split at hp
      · rename_i m hm;cases hp;obtain ⟨q,O,cc,fr,us,ac,ad,aC,ao,aD,aE,aF,aG⟩:=hr.live I _ hb;have Z:=aF.2 hex;obtain ⟨q',an,hu⟩:=kg aa;rw [O] at an; cases an;have E:=dF ab;rw [Z] at hu;have av:=kJ n ad;have aj:=Bp hm av;have aH:=eb ad;have L:m.length=n:=by
         have :=congrArg jC aj;simp [vy] at this;omega
        unfold ptrTo at C;split at C
        · rename_i e' aw;simp only [bP,beq_iff_eq] at C;obtain ⟨rfl,aq⟩:=C;have aB:w.shape? q.ax=some (e',cc.size):=by simp [World.shape?,ac]
          have M:m≠[]:=fun h=>by rw [h] at L; simp at L; omega
          have ar:=Lib.run_unsafeString_row (P:=P) w A it ty e' aw aq q.ax cc.size aB m M ag ag (fun j u ay=>by
           have ap:us[j]? =some (.int .u8 u.toNat):=by
            have :(us.take n)[j]? =some (.int .u8 u.toNat):=by rw [aj]; simp [U8,ay]
            rw [j6] at this;split at this
            · exact this
            · cases this
           rw [fw,jK,eB ac,du];have :=ao j _ ap;rwa [Z,du] at this)
          have am:nI w ⟨q.ax,0,none⟩ m.length= {w with heap:=w.heap.modify q.ax fun
           | .cells c elem (lo,hi)=> .cells c elem (if lo==hi then (0,0 +m.length) else (min lo 0,max hi (0 +m.length)))
           | o=>o} :=by
           unfold nI;rw [if_neg ag];rfl
          obtain ⟨lo,hi⟩:=fr;have aA:(nI w ⟨q.ax,0,none⟩ m.length).heap[q.ax]? =some (.cells cc e' (if lo==hi then (0,0 +m.length) else (min lo 0,max hi (0 +m.length)))):=by
           rw [am];simp only [yd,if_true,ac];rfl
          refine ⟨r,.string ⟨m.toArray⟩,nI w ⟨q.ax,0,none⟩ m.length,U,.inl (V ?_),hr.nq hb hbm O (cG hG) ?_ ?_⟩
          · rw [hu,E,← L]; exact ar
          · rw [aA];refine ⟨cc,_,us,U,ad,aC,ao,?_,aE,⟨(fun h=>by cases h),fun _=>Z⟩,aG⟩;simp only at aD;split <;> simp only <;> omega
          · rw [am];exact ⟨U,U,by simp,fun k _ az=>by simp only [yd]; rw [if_neg (fun e=>az e.symm)]⟩
        · cases C
      · cases hp
     split at hp
     · cases hp
     · rename_i M;exact key M hp
   · cases hp
 · cases hp
theorem Ow (hr:HR P G r T h w) {o:Op} {xs:List AV} {v:AV} {L:Hp} (A:xf P G o xs h=some (v,L)) (hT:L.nx≤T) (I:bc r xs=some ((iB o).map<|ev N σ)):YM P G r T N σ ⟨dst,o,ty,pos,af,g⟩ h w v L:=by
 have two:∀ {a b:AV} {l:List bu},bc r [a,b]=some (l.map<|ev N σ)→∃ x y,l= [x,y]∧den r a=some (ev N σ x)∧den r b=some (ev N σ y):=by
  intro a b l h;have :=eb h;simp at this;obtain ⟨x,y,rfl⟩:∃ x y,l= [x,y]:=by
   match l,this with
   | [x,y],_=>exact ⟨x,y,rfl⟩
  exact ⟨x,y,U,jN h⟩
 have one:∀ {a:AV} {l:List bu},bc r [a]=some (l.map<|ev N σ)→∃ x,l= [x]∧den r a=some (ev N σ x):=by
  intro a l h;have :=eb h;simp at this;obtain ⟨x,rfl⟩:=uW.1 this;exact ⟨x,U,gn h⟩
 unfold xf at A;split at A
 · rename_i C t ad;split at A
   · obtain ⟨C⟩:=C;obtain ⟨x,y,rfl,E,J⟩:=two I;exact J5 hr A hT E J
   · cases A
 · rename_i C t;split at A
   · obtain ⟨C⟩:=C;obtain ⟨x,rfl,E⟩:=one I;exact KX hr A E
   · cases A
 · rename_i C t kt;split at A
   · obtain ⟨C⟩:=C;obtain ⟨x,y,rfl,E,J⟩:=two I;exact LH hr A E J
   · cases A
 · rename_i C ac;obtain ⟨C⟩:=C;split at A
   · cases A;obtain ⟨x,rfl,E⟩:=one I;exact ⟨r,_,w,U,.inl (Bv (v:= .nilFunc) (jQ E)<|.inl U),St.refl hr⟩
   · replace A:=bG A; obtain ⟨V,A⟩:=A;have V:=dk.1 V;cases A;obtain ⟨x,rfl,E⟩:=one I;obtain ⟨q,cap,aa,hn,hu,_⟩:=kh E;exact ⟨r,_,w,by simp only [den,aa],.inl (Bv (v:= .nilFunc) hu<|.inr ag),St.refl hr⟩
   · cases A
 · rename_i C ab it;split at A
   · obtain ⟨C⟩:=C;obtain ⟨x,y,rfl,E,J⟩:=two I;exact Q8 hr A E J
   · cases A
 · split at A
   · obtain ⟨M,O⟩:=jN I;exact QB hr A hT M<|dF O
   · cases A
 · split at A
   · obtain ⟨M,O,Z⟩:=nY I;exact Oe hr A hT M (dF O)<|dF Z
   · cases A
 · cases A
end
end Go.Hb
namespace Go.Hb
def lD:EX→bM
 | .cE=> .normal
 | .ret=> .ret
 | .ext i=> .exit i
def lB (r:Rn):List AD→List Deferred→Prop
 | [],[]=>True
 | .mark d::l,x::m=>(∃ q,r d=some q∧x= {target:= .collected q.ax,args:= #[]})∧lB r l m
 | .fn f args::l,x::m=>(∃ (a:List ah) (cap A:Array ah),bc r args=some a∧x= {target:= .fn (.func f) cap,args:=A}∧A++cap=a.toArray)∧lB r l m
 | _,_=>False
def uf (r:Rn):Option Nat→Option Nat→Prop
 | none,none=>True
 | some l,some k=> ∃ q,r l=some q∧q.ax=k
 | _,_=>False
theorem pf {r s:Rn} (h:r.le s):∀ {D:List AD} {m:List Deferred},lB r D m→lB s D m
 | [],[],_=>trivial
 | [],_::_,h'=>h'.elim
 | .mark d::l,[],h'=>h'.elim
 | .fn f args::l,[],h'=>h'.elim
 | .mark d::l,x::m,⟨⟨q,h1,h2⟩,h3⟩=>⟨⟨q,h _ _ h1,h2⟩,pf h h3⟩
 | .fn f args::l,x::m,⟨⟨a,cap,as_,h1,h2⟩,h3⟩=>⟨⟨a,cap,as_,jO h h1,h2⟩,pf h h3⟩
theorem Ge {r s:Rn} (h:r.le s) {a b:Option Nat} (hr:uf r a b):uf s a b:=by
 cases a <;> cases b
 · trivial
 · exact hr.elim
 · exact hr.elim
 · obtain ⟨q,A,C⟩:=hr; exact ⟨q,h _ _ A,C⟩
theorem fJ.le {r s:Rn} (h:r.le s) {n:Nat} {fr:Tr AV} {σ:Nat→ah} (A:fJ r n fr σ):fJ s n fr σ:=fun i hi=>m8 h<|A i hi
def eI (P:av) (G:Nat) (rd:Option Nat) (n:Nat) (W:Option Nat→(bM→Act→ai→Prop)→Act→ai→Prop) (fr:Tr AV) (D:List AD) (h:Hp) (e:EX) (I:Tr AV) (E:List AD) (A:Hp):Prop :=
 h.nx≤A.nx∧∀ (T:Nat) (r:Rn) (w:ai) (σ:Nat→ah) (Dl:List Deferred) (rr:Option Nat) (Q:bM→Act→ai→Prop),A.nx≤T→HR P G r T h w→fJ r n fr σ→lB r D Dl→uf r rd rr→
  (∀ (r':Rn) (w':ai) (σ':Nat→ah) (C:List Deferred),St P G T r h w r' A w'→fJ r' n I σ'→lB r' E C→Q (lD e) (act ⟨n,C,[],rr⟩ σ') w')→W rr Q (act ⟨n,Dl,[],rr⟩ σ) w
def Cf (P:av) (G:Nat) (f:Nat) (args:List AV) (h:Hp) (v:AV) (A:Hp):Prop :=
 h.nx≤A.nx∧∀ (T:Nat) (r:Rn) (w:ai) (L:List ah),A.nx≤T→HR P G r T h w→bc r args=some L→aZ P f L.toArray w fun u w'=> ∃ r',den r' v=some u∧St P G T r h w r' A w'
def yO (P:av) (G:Nat) (l:Nat) (args:List AV) (h:Hp) (v:AV) (A:Hp):Prop :=
 h.nx≤A.nx∧∀ (T:Nat) (r:Rn) (w:ai) (L:List ah) (q:Loc),A.nx≤T→HR P G r T h w→bc r args=some L→r l=some q→YieldAt ga 0 P q.ax L.toArray w fun e w'=> ∃ u r',e= .returned u∧den r' v=some u∧St P G T r h w r' A w'
def JN (P:av) (G:Nat) (f:Nat) (args:List AV) (h A:Hp):Prop :=
 h.nx≤A.nx∧∀ (T:Nat) (r:Rn) (w:ai) (L:List ah),A.nx≤T→HR P G r T h w→bc r args=some L→CallsDIn ga 0 P f L.toArray .returning w fun e C w'=> ∃ v,e= .returned v∧C= .returning∧∃ r',St P G T r h w r' A w'
def xV (P:av) (c:cm) (rr:Option Nat) (Q:bM→Act→ai→Prop) (a:Act) (w:ai):Prop :=
 ∀ (b:Frame) (k:List Item) (cs:List Frame),b.roundOf=(fe rr).round→(fe rr).fn b.fn→(fe rr).room (cs.length+1 +0)→
   ∃ e a' w',Q e a' w'∧ArrivesIn (Machine.fenced P<|fe rr) P (lone (b.atR a (.code c:: .inLoop c::k)) cs w) b k cs e a' w'
def nV (P:av) (G:Nat):Tk→Rs→Prop
 | .cd rd n c fr D h,.cd e fr' D' h'=>eI P G rd n (fun rr Q a w=>c.wpIn (fe rr) 0 P Q a w) fr D h e fr' D' h'
 | .lp rd n c fr D h,.cd e fr' D' h'=>eI P G rd n (xV P c) fr D h e fr' D' h'
 | .cl f args h,.rv v h'=>Cf P G f args h v h'
 | .yl l args h,.rv v h'=>yO P G l args h v h'
 | .df f args h,.rv v h'=>JN P G f args h h'
 | _,.no=>True
 | _,_=>False
def Good (P:av) (G:Nat) (ih:Tk→Rs):Prop := ∀ t,nV P G t (ih t)
def j8 (P:av) (G:Nat) (X:Xt):Prop := ∀ f e,X f=some e→∀ xs h v A,e xs h=some (v,A)→h.nx≤A.nx∧∀ (T:Nat) (r:Rn) (w:ai) (us:List ah),A.nx≤T→HR P G r T h w→bc r xs=some us→
 ∃ r' u w',den r' v=some u∧(callFunc f us.toArray).run P w= .ok (.value u) w'∧St P G T r h w r' A w'
def iJ (P:av):Prop := ∀ f fn c,P.funcs[f]? =some fn→fn.body=some c→gD P f
section
variable {P:av} {G:Nat} {r:Rn} {T:Nat} {h:Hp} {w:ai} {N:Fm} {σ:Nat→ah} {dst:Option Nat} {ty:au} {pos :String} {af:Array cI} {g:Option (Nat×Bool)} {x y z:bu} {K:Act→ai→Prop} {Q:bM→Act→ai→Prop}
theorem xU {o:aO} (hn:∀ c,o.op≠.defer c) {u:ah} {w':ai} (hr:(execOp (ev N σ) o).run P w= .ok (.value u) w'∨(execOp (ev N σ) o).run P w= .ok .skip w'∧u=undef) (A:K ((act N σ).put o.dst u) w'):o.wpIn (fe N.r) 0 P (act N σ) w K Q:=by
 refine ⟨fun f _=>mg _ f,?_⟩;rw [pn,uO _ _ _ hn,ek];rcases hr with hr | ⟨hr,rfl⟩
 · rw [hr]; exact A
 · rw [hr]; exact A
theorem CR {f:Nat} {fo:bu} {first cap:Array ah} {args:Array bu} {A:Array au} (C:ev N σ fo= .func (.func f) first cap):(execOp (ev N σ) ⟨dst,.call ⟨.value fo,args,A⟩,ty,pos,af,g⟩).run P w=(callFunc f<|first++args.map (ev N σ)++cap).run P w:=by
 simp only [execOp,resolve,C,mK,iE,kA,ij,invoke]
end
end Go.Hb
namespace Go.Hb
section
variable {P:av} {G:Nat} {h:Hp}
theorem mo {o:AO} {A:Hp} (hn:dP h o=some A):A.nx=h.nx+1:=by
 unfold dP at hn;replace hn:=bG hn; obtain ⟨_,hn⟩:=hn;cases hn; rfl
theorem F5 {t:au} {b:Nat} {k v:AV} {A:Hp} (hp:rM P t b k v h=some A):A.nx=h.nx:=by
 unfold rM at hp;split at hp
 · split at hp
   · split at hp
     · replace hp:=bG hp; obtain ⟨_,hp⟩:=hp; cases hp; rfl
     · cases hp
   · cases hp
 · cases hp
theorem Qo {t b o:Nat} {v:AV} {C:Hp} (A:uq P G t b o v h=some C):C.nx=h.nx:=by
 unfold uq at A;split at A
 · split at A
   · replace A:=bG A; obtain ⟨_,A⟩:=A; cases A; rfl
   · cases A
 · cases A
theorem Ou {o:Op} {xs:List AV} {v:AV} {C:Hp} (A:rE P G o xs h=some (v,C)):h.nx≤C.nx:=by
 unfold rE at A;split at A
 · split at A
   · split at A
     · replace A:=bG A; obtain ⟨_,A⟩:=A;split at A
       · rename_i hn; cases A; have :=mo hn; omega
       · cases A
     · cases A
   · cases A
 · split at A
   · replace A:=bG A; obtain ⟨_,A⟩:=A;split at A
     · rename_i hn; cases A; have :=mo hn; omega
     · cases A
   · cases A
 · split at A
   · rename_i hn; cases A; have :=mo hn; omega
   · cases A
 · split at A
   · replace A:=bG A; obtain ⟨_,A⟩:=A;split at A
     · replace A:=bG A; obtain ⟨_,A⟩:=A;split at A
       · rename_i hn; cases A; have :=mo hn; omega
       · cases A
     · cases A
   · cases A
 · split at A
   · split at A
     · replace A:=bG A; obtain ⟨_,A⟩:=A;split at A
       · rename_i hn; cases A; have :=mo hn; omega
       · cases A
     · cases A
   · cases A
 · split at A
   · split at A
     · rename_i E; cases A; have :=Qo E; omega
     · cases A
   · cases A
 · split at A
   · replace A:=bG A; obtain ⟨_,A⟩:=A;split at A
     · rename_i hp; cases A; have :=F5 hp; omega
     · cases A
   · cases A
 · split at A
   · replace A:=bG A; obtain ⟨_,A⟩:=A;split at A
     · rename_i hp; cases A; have :=F5 hp; omega
     · cases A
   · cases A
 · cases A
end
section
variable {P:av} {G:Nat} {X:Xt} {ih:Tk→Rs} {n:Nat}
def lY (P:av) (G:Nat) (o:Op) (xs:List AV) (h:Hp) (v:AV) (A:Hp):Prop :=
 h.nx≤A.nx∧∀ (T:Nat) (r:Rn) (w:ai) (N:Fm) (σ:Nat→ah) (dst:Option Nat) (ty:au) (pos :String) (af:Array cI) (g:Option (Nat×Bool)) (K:Act→ai→Prop) (Q:bM→Act→ai→Prop),A.nx≤T→HR P G r T h w→bc r xs=some ((iB o).map<|ev N σ)→
  (∀ (r':Rn) (u:ah) (w':ai),den r' v=some u→St P G T r h w r' A w'→K ((act N σ).put dst u) w')→(Oper.mk dst o ty pos af g).wpIn (fe N.r) 0 P (act N σ) w K Q
theorem lY.run {o:Op} {xs:List AV} {h A:Hp} {v:AV} (hn:∀ c,o≠.defer c) (O:h.nx≤A.nx)
 (hr:∀ (T:Nat) (r:Rn) (w:ai) (N:Fm) (σ:Nat→ah) (dst:Option Nat) (ty:au) (pos :String) (af:Array cI) (g:Option (Nat×Bool)),A.nx≤T→HR P G r T h w→bc r xs=some ((iB o).map<|ev N σ)→YM P G r T N σ ⟨dst,o,ty,pos,af,g⟩ h w v A):lY P G o xs h v A:=
 ⟨O,fun T r w N σ dst ty pos af g K Q hT L J M=>by
  obtain ⟨r',u,w',C,E,I⟩:=hr T r w N σ dst ty pos af g hT L J;exact xU hn E (M r' u w' C I)⟩
theorem Ky (ak:Good P G ih) (ap:j8 P G X) (ao:iJ P) (av:∀ f args h v J,ih (.cl f args h)= .rv v J→∃ fn c,P.funcs[f]? =some fn∧fn.body=some c) {fo:bu} {I:List bu} {ac:Array au} {f:AV} {args:List AV} {h J:Hp} {v:AV} (C:vH X ih f args h= .v v J):
 lY P G (.call ⟨.value fo,⟨I⟩,ac⟩) (f::args) h v J:=by
 have ag:∀ c,Op.call ⟨.value fo,⟨I⟩,ac⟩≠.defer c:=fun c e=>by cases e
 unfold vH at C;split at C
 · rename_i f a c;split at C
   · rename_i e he;split at C
     · rename_i v1 ab ah;cases C;obtain ⟨aa,E⟩:=ap f e he _ _ _ _ ah;refine lY.run ag aa fun T r w N σ dst ty pos af g hT Z U=> ?_;obtain ⟨u,us,A,V,O⟩:=fy U;simp only [iB,eS,j4] at A;obtain ⟨A,rfl⟩:=A;obtain ⟨a',c',ha,ad,rfl⟩:=n5 V;obtain ⟨r',u,w',L,M,an⟩:=E T r w _ hT Z<|gL ha<|gL O ad;refine ⟨r',u,w',L,.inl ?_,an⟩;rw [CR A];have :a'.toArray++(⟨I⟩:Array bu).map (ev N σ)++c'.toArray=(a'++(I.map (ev N σ)++c')).toArray:=by simp
       rw [this]; exact M
     · cases C
   · split at C
     · rename_i v1 ab am;cases C;have E:=ak<|.cl f (a++(args++c)) h;rw [am] at E;obtain ⟨aa,E⟩:=E;obtain ⟨fn,cd,aw,aq⟩:=av _ _ _ _ _ am;have ar:=ao f fn cd aw aq;refine ⟨aa,fun T r w N σ dst ty pos af g K Q hT Z U ae=> ?_⟩;obtain ⟨u,us,A,V,O⟩:=fy U;simp only [iB,eS,j4] at A;obtain ⟨A,rfl⟩:=A;obtain ⟨a',c',ha,ad,rfl⟩:=n5 V;have az:=E T r w _ hT Z<|gL ha<|gL O ad;refine ⟨fun f _=>mg _ f,?_⟩;rw [pn,uO _ _ _ ag,ek,CR A];have :a'.toArray++(⟨I⟩:Array bu).map (ev N σ)++c'.toArray=(a'++(I.map (ev N σ)++c')).toArray:=by simp
       rw [this,ar];simp only [Oper.uponIn_enter];refine ⟨fun h0=>(by rw [pk] at h0; cases h0),CallsIn.mono (wg az) ?_⟩;rintro e w' ⟨u,rfl,r',L,M⟩;exact ae r' u w' L M
     · cases C
 · rename_i l;split at C
   · rename_i v1 ab aB;cases C;have E:=ak<|.yl l args h;rw [aB] at E;obtain ⟨aa,E⟩:=E;refine ⟨aa,fun T r w N σ dst ty pos af g K Q hT Z U ae=> ?_⟩;obtain ⟨u,us,A,V,O⟩:=fy U;simp only [iB,eS,j4] at A;obtain ⟨A,rfl⟩:=A;obtain ⟨q,ay,rfl⟩:=zl V;obtain ⟨fn,tmps,ai,aj,aA,al⟩:=E T r w _ q hT Z O ay;refine ⟨fun f _=>mg _ f,?_⟩;rw [pn,uO _ _ _ ag,ek];have ah:(execOp (ev N σ) ⟨dst,.call ⟨.value fo,⟨I⟩,ac⟩,ty,pos,af,g⟩).run P w= .ok (.round q.ax fn tmps ai aj) w:=by
      have hm:(⟨I⟩:Array bu).map (ev N σ)=(I.map<|ev N σ).toArray:=by simp
      simp only [execOp,resolve,A,mK,iE,kA,ij,invoke];simp [aA]
     rw [ah];simp only [sM];refine ⟨fun h0=>(by rw [pk] at h0; cases h0),?_⟩;have ab:RoundIn (fe N.r) (0 - 1) P q.ax fn tmps ai aj w fun e w'=> ∃ u r',e= .returned u∧den r' v=some u∧St P G T r h w r' J w':=by
      cases hr:N.r with
      | none=>exact al
      | some k=>exact al
     refine RoundIn.mono ab ?_;rintro e w' ⟨u,r',rfl,L,M⟩;exact ae r' u w' L M
   · cases C
 · cases C
theorem FP (Z:Good P G ih) (aa:j8 P G X) (V:iJ P) (ab:∀ f args h v L,ih (.cl f args h)= .rv v L→∃ fn c,P.funcs[f]? =some fn∧fn.body=some c) {o:Op} {xs:List AV} {h L:Hp} {v:AV} (A:tX P G X ih o xs h= .v v L):lY P G o xs h v L:=by
 unfold tX at A;split at A
 · rename_i v1 hp;cases A;have E:∀ c,o≠.defer c:=fun c e=>by subst e; simp [pP] at hp
   refine lY.run E (bf _) fun T r w N σ dst ty pos af g hT C I=> ?_;obtain ⟨u,J,M⟩:=FO (dst:=dst) (ty:=ty) (pos :=pos) (af:=af) (g:=g) hp I;exact ⟨r,u,w,J,.inl (M w),St.refl C⟩
 · split at A
   · rename_i v1 U;cases A;have E:∀ c,o≠.defer c:=fun c e=>by subst e; simp [kU] at U
     refine lY.run E (bf _) fun T r w N σ dst ty pos af g hT C I=> ?_;obtain ⟨u,J,M⟩:=FN (dst:=dst) (ty:=ty) (pos :=pos) (af:=af) (g:=g) C U I;exact ⟨r,u,w,J,.inl M,St.refl C⟩
   · split at A
     · rename_i fo O ac;split at A
       · obtain ⟨O⟩:=O;exact Ky Z aa V ab A
       · cases A
     · split at A <;> cases A
     · rename_i ad E;split at A
       · rename_i v1 J hm;cases A;have E:∀ c,o≠.defer c:=fun c e=>by subst e; simp [rE] at hm
         exact lY.run E (Ou hm) fun T r w N σ dst ty pos af g hT C I=>Ov C hm hT I
       · split at A
         · rename_i v1 J hm;cases hle:bL h.nx J.nx
           · rw [hle] at A; cases A
           rw [hle] at A;cases A;have E:∀ c,o≠.defer c:=fun c e=>by subst e; simp [xf] at hm
           exact lY.run E (cG hle) fun T r w N σ dst ty pos af g hT C I=>Ow C hm hT I
         · cases A
end
end Go.Hb
namespace Go.Hb
section
variable {P:av} {G:Nat} {X:Xt} {ih:Tk→Rs} {n:Nat} {r:Rn}
theorem rY {fr C:Tr AV} {d:Option Nat} {v:AV} {u:ah} {σ:Nat→ah} (A:ic n fr d v=some C) (I:fJ r n fr σ) (J:den r v=some u):fJ r n C (dq σ d u):=by
 cases d with
 | none=>simp only [ic,bR] at A; subst A; exact I
 | some d=>
   simp only [ic] at A;replace A:=bG A; obtain ⟨E,A⟩:=A;simp only [bP] at E;cases A;intro i hi;simp only [dq,bI,ee,Tr.n9 _ _ _ _ E.2];by_cases e:i=d
   · subst e;rw [if_pos rfl,show bC i i=true from by simp]; exact J
   · rw [if_neg e,show bC i d=false from by
      cases hb:bC i d
      · rfl
      · exact absurd (cP hb) e]
     exact I i hi
theorem zO {ops:List aO} {fr:Tr AV} {o:aO} {N:Fm} {σ:Nat→ah} (A:lF N.n ops fr o.guard= .y) (E:fJ r N.n fr σ):mN o (yielded ops.toArray (act N σ).tmps)=true :=by
 unfold lF at A;split at A
 · exact gW _ (by assumption) _
 · rename_i j want I;split at A
   · rename_i O J;split at A
     · rename_i t L;cases hb:ba t N.n
       · rw [hb] at A; cases A
       · rw [hb] at A;simp only [cond_true] at A;split at A
         · rename_i b M;cases hbw:(b==want)
           · rw [hbw] at A; cases A
           · have C:=E t<|dk.1 hb;rw [M] at C;rw [oK I (by simp [fj,J,L]) hb (kK C),hbw]
         · cases A
         · cases A
     · cases A
   · cases A
theorem Et {ops:List aO} {fr:Tr AV} {o:aO} {N:Fm} {σ:Nat→ah} (A:lF N.n ops fr o.guard= .n) (I:fJ r N.n fr σ):mN o (yielded ops.toArray (act N σ).tmps)=false :=by
 unfold lF at A;split at A
 · cases A
 · rename_i j want J;split at A
   · rename_i O L;split at A
     · rename_i t M;cases hb:ba t N.n
       · rw [hb] at A; cases A
       · rw [hb] at A;simp only [cond_true] at A;split at A
         · rename_i b E;cases hbw:(b==want)
           · have C:=I t<|dk.1 hb;rw [E] at C;rw [oK J (by simp [fj,L,M]) hb (kK C),hbw]
           · rw [hbw] at A; cases A
         · rename_i E;have C:=I t<|dk.1 hb;rw [E] at C;rw [kf] at C;exact Bz J (by simp [fj,L,M]) hb (gJ C).symm
         · cases A
     · cases A
   · cases A
theorem tY (ad:Good P G ih) (ae:j8 P G X) (ac:iJ P) (ag:∀ f args h v O,ih (.cl f args h)= .rv v O→∃ fn c,P.funcs[f]? =some fn∧fn.body=some c) {rd:Option Nat} {ops:List aO} :∀ {l:List aO} {fr ab:Tr AV} {D aa:List AD} {h O:Hp},
 lL P G X ih rd n ops l fr D h= .cd .cE ab aa O→eI P G rd n (fun rr Q a w=>wpListIn (fe rr) 0 P ops.toArray Q l a w) fr D h .cE ab aa O
 | [],fr,ab,D,aa,h,O,he=>by
   simp only [lL,Rs.cd.injEq,true_and] at he;obtain ⟨rfl,rfl,rfl⟩:=he;exact ⟨bf _,fun T r w σ Dl rr Q hT E C J M L=>L r w σ Dl (St.refl E) C J⟩
 | o::l,fr,ab,D,aa,h,O,he=>by
   simp only [lL] at he;split at he
   · rename_i ai;split at he
     · rename_i xs an;split at he
       · rename_i v aD A;split at he
         · rename_i ar V;obtain ⟨aC,s1⟩:=FP ad ae ac ag A;obtain ⟨Z,s2⟩:=tY ad ae ac ag he;refine ⟨cR aC Z,fun T r w σ Dl rr Q hT E C J M L=> ?_⟩;show wpListIn _ _ _ _ _ _ _ _;unfold wpListIn;rw [if_pos (zO (N:=⟨n,Dl,[],rr⟩) ai C)];obtain ⟨d,op,ty,pos,af,g⟩:=o;refine s1 T r w ⟨n,Dl,[],rr⟩ σ d ty pos af g _ Q (cR Z hT) E (xd E.gZ C an) fun r' u w' hu bK=> ?_;rw [gk];exact s2 T r' w' _ Dl rr Q hT bK.hr (rY V (C.le bK.le) hu) (pf bK.le J) (Ge bK.le M) fun ao w2 ap aj am al ak=>L ao w2 ap aj (bK.trans am) al ak
         · cases he
       · rename_i a A;split at he
         · split at he
           · rename_i ar V;obtain ⟨Z,s2⟩:=tY ad ae ac ag he;refine ⟨Z,fun T r w σ Dl rr Q hT E C J M L=> ?_⟩;have az:rr=none:=by
              cases rr with
              | none=>rfl
              | some k=>exact M.elim
             subst az;show wpListIn _ _ _ _ _ _ _ _;unfold wpListIn;rw [if_pos (zO (N:=⟨n,Dl,[],none⟩) ai C)];obtain ⟨d,op,ty,pos,af,g⟩:=o;simp only at A an V;have aB:=xd (N:=⟨n,Dl,[],none⟩) E.gZ C an;unfold tX at A;split at A
             · cases A
             · split at A
               · cases A
               · split at A
                 · rename_i fo I aq;split at A
                   · unfold vH at A;split at A
                     · split at A
                       · split at A <;> cases A
                       · split at A <;> cases A
                     · split at A <;> cases A
                     · cases A
                   · cases A
                 · rename_i fo I aq _ _;split at A
                   · rename_i f a' c' args _ _;cases A;obtain ⟨I⟩:=I;obtain ⟨u,us,ah,ax,av⟩:=fy aB;simp only [iB,eS,j4] at ah;obtain ⟨ah,rfl⟩:=ah;obtain ⟨a2,c2,ha,aw,rfl⟩:=n5 ax;refine ⟨fun f _=>trivial,?_⟩;have aA:(execOp (ev ⟨n,Dl,[],none⟩ σ) ⟨d,.defer ⟨.value fo,⟨I⟩,aq⟩,ty,pos,af,g⟩).run P w= .ok (.defer {target:= .fn (.func f) c2.toArray,args:=a2.toArray++(⟨I⟩:Array bu).map (ev ⟨n,Dl,[],none⟩ σ)}) w:=by
                      simp [execOp,resolve,ah,mK]
                     show sM _ _ _ _ _ _ _ (lQ P (Oper.semAt (fe none).round _ _) w);rw [pn,Oper.semAt_none,ek,aA];simp only [Oper.uponIn_defer];have ay:({(act ⟨n,Dl,[],none⟩ σ) with defers:= {target:=Target.fn (.func f) c2.toArray,args:=a2.toArray++(⟨I⟩:Array bu).map (ev ⟨n,Dl,[],none⟩ σ)} ::(act ⟨n,Dl,[],none⟩ σ).defers} :Act)=act ⟨n,{target:= .fn (.func f) c2.toArray,args:=a2.toArray++(⟨I⟩:Array bu).map (ev ⟨n,Dl,[],none⟩ σ)} ::Dl,[],none⟩ σ:=rfl;rw [ay,gk];refine s2 T r w _ _ none Q hT E (rY V C<|kf r) ⟨⟨_,_,_,gL ha (gL av aw),U,by simp⟩,J⟩ M fun ao w2 ap aj am al ak=>L ao w2 ap aj am al ak
                   · cases A
                 · split at A
                   · cases A
                   · split at A
                     · rename_i au _;cases hle:bL h.nx au.nx
                       · rw [hle] at A; cases A
                       · rw [hle] at A; cases A
                     · cases A
           · cases he
         · cases he
       · cases he
     · cases he
   · rename_i ai;split at he
     · rename_i ar V;obtain ⟨Z,s2⟩:=tY ad ae ac ag he;refine ⟨Z,fun T r w σ Dl rr Q hT E C J M L=> ?_⟩;show wpListIn _ _ _ _ _ _ _ _;unfold wpListIn;rw [if_neg (by rw [Et (N:=⟨n,Dl,[],rr⟩) ai C]; simp)];refine ⟨fun f _=>mg _ f,?_⟩;rw [gk];exact s2 T r w _ Dl rr Q hT E (rY V C<|kf r) J M L
     · cases he
   · cases he
end
end Go.Hb
namespace Go.Hb
section
variable {P:av} {G:Nat} {X:Xt} {ih:Tk→Rs} {n:Nat} {r:Rn} {T:Nat} {h:Hp} {w:ai}
theorem HR.loop (hr:HR P G r T h w) {l:Nat} {st:LoopState} {E:Option cm} {fr:Tr AV} {ps:List Nat} {aU body:cm} {D:Nat} (O:h.t.get l=some (.loop st E n fr ps aU body D)):
 ∃ q fn A C,r l=some q∧w.heap[q.ax]? =some (.loop {state:=st,pending:=E,fn:=fn,tmps:=A,params:=ps.toArray,assign:=aU,body:=body,defers:=C})∧(∃ x,r D=some x∧x.ax=C)∧A.size=n∧∀ i,i < n→den r (ee fr i)=A[i]? :=by
 obtain ⟨q,U,fn,A,C,I,J,L,M⟩:=hr.live l _ O;exact ⟨q,fn,A,C,U,I,J,L,M⟩
theorem HR.A3 (hr:HR P G r T h w) {l:Nat} {q:Loc} {st st':LoopState} {E pe':Option cm} {fr:Tr AV} {ps:List Nat} {aU body:cm} {D fn C:Nat} {A:Array ah} (O:h.t.get l=some (.loop st E n fr ps aU body D)) (J:bL G l=true) (hb:ba l di=true) (Z:r l=some q)
 (hw:w.heap[q.ax]? =some (.loop {state:=st,pending:=E,fn:=fn,tmps:=A,params:=ps.toArray,assign:=aU,body:=body,defers:=C})) (I:∃ x,r D=some x∧x.ax=C) (aa:A.size=n) (L:∀ i,i < n→den r (ee fr i)=A[i]?):
 St P G T r h w r ⟨h.t.set l (.loop st' pe' n fr ps aU body D),h.nx⟩ (w.putObj q.ax<|.loop {state:=st',pending:=pe',fn:=fn,tmps:=A,params:=ps.toArray,assign:=aU,body:=body,defers:=C}):=by
 have V:=(cx.1 hw).1;refine hr.nq O hb Z (cG J) ?_ ⟨U,U,by simp [IU],fun k _ M=>lR M⟩;rw [qx V];exact ⟨fn,A,C,U,I,aa,L⟩
theorem GK {σ:Nat→ah} :∀ {ps:List Nat} {args:List AV} {L:List ah} {fr A:Tr AV},pU n ps args fr=some A→fJ r n fr σ→bc r args=some L→L.length=ps.length∧fJ r n A ((ps.zip L).foldl (fun s p=>bI s p.1 p.2) σ)
 | [],[],L,fr,A,hs,hf,hd=>by
   simp only [pU,bR] at hs;subst hs;rw [me hd]; exact ⟨rfl,hf⟩
 | [],_::_,_,_,_,hs,_,_=>by simp [pU] at hs
 | _::_,[],_,_,_,hs,_,_=>by simp [pU] at hs
 | p::ps,v::vs,L,fr,A,hs,hf,hd=>by
   simp only [pU] at hs;split at hs
   · rename_i U E;obtain ⟨u,us,rfl,I,J⟩:=fy hd;have C:=rY E hf I;simp only [dq] at C;obtain ⟨M,O⟩:=GK hs C J;exact ⟨by simp [M],O⟩
   · cases hs
theorem JS (N:Fm) (l:List (Tmp×ah)) (σ:Nat→ah):l.foldl (fun t p=>t.setIfInBounds p.1 p.2) (act N σ).tmps=(act N<|l.foldl (fun s p=>bI s p.1 p.2) σ).tmps:=yR N l σ
theorem JR {A:Array ah} {N:Fm} (C:A.size=N.n):A=(act N fun i=>A.getD i undef).tmps:=by
 apply Array.ext_getElem?;intro i;rw [kI];by_cases hi:i < N.n
 · rw [if_pos hi,ky,qe ag]; rfl
 · rw [if_neg hi,Array.getElem?_eq_none ag]
theorem K7 {c:Bool} {p:Rs} {v:AV} {h:Hp} (A:cond c p .no= .rv v h):c=true∧p= .rv v h:=by
 cases c
 · cases A
 · exact ⟨U,A⟩
theorem RI (al:Good P G ih) {l:Nat} {args:List AV} {I:Hp} {v:AV} (A:uE G ih l args h= .rv v I):yO P G l args h v I:=by
 unfold uE at A;split at A
 · rename_i bj n fr ps aU body d aS;split at A
   · rename_i aD aW;split at A
     · rename_i aE ak aI;have s1:=al<|.cd (some l) n aU aD [] h;rw [aI] at s1;obtain ⟨a3,s1⟩:=s1;split at A
       · rename_i aw m1 aC a4 aA aB d1 am;replace A:=K7 A; obtain ⟨E,A⟩:=A;simp only [bP] at E;split at A
         · rename_i e bf J aJ;have s2:=al<|.cd (some l) n body aE [] ⟨ak.t.set l (.loop .busy aw m1 aC a4 aA aB d1),ak.nx⟩;rw [aJ] at s2;obtain ⟨av,s2⟩:=s2;simp only at av;split at A
           · rename_i bm au aj ay ad ae d2 an;have key:∀ (jump:Option cm) (st:LoopState),jump=D4 e→st=(if jump.isNone then .ready else .done)→v= .bool jump.isNone→I=⟨J.t.set l (.loop st jump au aj ay ad ae d2),J.nx⟩→yO P G l args h v I:=by
              intro jump st aa bK a2 aR;subst a2 aR;refine ⟨cR a3 av,fun T r w L q hT hr aK ab=> ?_⟩;simp only at hT;obtain ⟨q',fn,C,bp,ao,hw,bg,aY,aO⟩:=hr.loop aS;rw [ab] at ao; cases ao;have aX:=GK (σ:=fun i=>C.getD i undef) aW (fun i hi=>by
               show den r (ee fr i)=some (C.getD i undef);rw [aO i hi,ky,qe ag]; rfl) aK
              obtain ⟨hlen,aM⟩:=aX;have aV:=run_yield (P:=P) (args:=L.toArray) hw<|by simpa using hlen
              refine ⟨_,_,_,_,aV,roundIn_of_wpIn (F:=ga) trivial ?_⟩;have a1:((ps.toArray.zip L.toArray).foldl (fun tmps (p:Tmp×ah)=>tmps.setIfInBounds p.1 p.2) C)=(act ⟨n,[],[],some q.ax⟩<|(ps.zip L).foldl (fun s p=>bI s p.1 p.2) fun i=>C.getD i undef).tmps:=by
               rw [← yb,Array.toList_zip];simp only [];rw [← JS ⟨n,[],[],some q.ax⟩];rw [← JR (N:=⟨n,[],[],some q.ax⟩) aY]
              have ai:({tmps:=((ps.toArray.zip L.toArray).foldl (fun tmps (p:Tmp×ah)=>tmps.setIfInBounds p.1 p.2) C),defers:= []} :Act)=act ⟨n,[],[],some q.ax⟩ ((ps.zip L).foldl (fun s p=>bI s p.1 p.2) fun i=>C.getD i undef):=by rw [a1]; rfl
              simp only at ai ⊢;rw [ai];refine s1 T r w _ [] (some q.ax) _ ag hr aM trivial ⟨q,ab,U⟩ fun a5 w1 ba ac O aN aL=> ?_;have aH:ac= []:=by cases ac; rfl; exact aL.elim
              subst aH;obtain ⟨bn,bc,bt,bq,M,aq,aF,aZ,aP⟩:=O.hr.loop am;have :=O.le _ _ ab;rw [M] at this; cases this;have az:=O.hr.A3 (st':= .busy) (pe':=aw) am E.1 E.2 M aq aF aZ aP;refine ⟨_,run_beginRound aq U,?_⟩;refine s2 T a5 _ ba [] (some q.ax) _ ag az.hr aN trivial ⟨q,M,U⟩ fun a6 a9 bv bb V bi bh=> ?_;obtain ⟨bo,bd,bu,br,ap,ar,aG,a0,aQ⟩:=V.hr.loop an;have :=V.le _ _ M;rw [ap] at this; cases this;have a7:=V.hr.A3 (st':=st) (pe':=jump) an E.1 E.2 ap ar aG a0 aQ;have Z:=run_endRound (P:=P) jump ar;simp only at Z;rw [← bK] at Z;have a8:=St.trans (St.trans (St.trans O az) V) a7;have fin:∃ v w',(Instr.endRound q.ax jump).run P a9= .ok v w'∧∃ u r',(Ending.returned v)= .returned u∧den r' (.bool jump.isNone)=some u∧St P G T r h w r' ⟨J.t.set l (.loop st jump au aj ay ad ae d2),J.nx⟩ w':=
               ⟨_,_,Z,_,a6,rfl,rfl,a8⟩
              cases e with
              | cE=>subst aa; exact fin
              | ret=>subst aa; exact fin
              | ext i=>subst aa; exact fin
             split at A
             · cases A;exact key none .ready U U U U
             · rename_i aT;cases A;cases e with
               | cE=>exact absurd rfl aT
               | ret=>exact key (some .ret) .done rfl rfl rfl rfl
               | ext i=>exact key (some<|.exit i) .done rfl rfl rfl rfl
           · cases A
         · cases A
       · cases A
     · cases A
   · cases A
 · cases A
end
end Go.Hb
namespace Go.Hb
section
variable {P:av} {G:Nat} {X:Xt} {ih:Tk→Rs} {n:Nat} {r:Rn} {T:Nat} {h:Hp} {w:ai}
theorem K6 {c:Bool} {p:Rs} {e:EX} {fr:Tr AV} {D:List AD} {h:Hp} (A:cond c p .no= .cd e fr D h):c=true∧p= .cd e fr D h:=by
 cases c
 · cases A
 · exact ⟨U,A⟩
theorem DC (ak:Good P G ih) {rd:Option Nat} {fr L:Tr AV} {D J:List AD} {l:Nat} {A:Hp} {e:EX} (he:qV G ih rd n fr D l h= .cd e L J A):h.nx≤A.nx∧
 ∀ (T:Nat) (r:Rn) (w:ai) (σ:Nat→ah) (Dl:List Deferred) (rr:Option Nat) (Q:bM→Act→ai→Prop) (q:Loc) (u:ah),A.nx≤T→HR P G r T h w→r l=some q→fJ r n fr σ→lB r D Dl→uf r rd rr→
   (∀ (r':Rn) (w':ai) (σ':Nat→ah) (I:List Deferred),St P G T r h w r' A w'→fJ r' n L σ'→lB r' J I→Q (lD e) (act ⟨n,I,[],rr⟩ σ') w')→rangePost (fe rr) 0 P q.ax Q (act ⟨n,Dl,[],rr⟩ σ) (.returned u) w:=by
 unfold qV at he;split at he
 · rename_i st C m M ps aU body d ac;have key:cond (bL G l && ba l di) (match C with
    | none=>Rs.cd .cE fr D ⟨h.t.set l (.loop .exhausted C m M ps aU body d),h.nx⟩
    | some c=>ih (.cd rd n c fr D ⟨h.t.set l (.loop .exhausted C m M ps aU body d),h.nx⟩)) .no= .cd e L J A→st≠.busy→h.nx≤A.nx∧
   ∀ (T:Nat) (r:Rn) (w:ai) (σ:Nat→ah) (Dl:List Deferred) (rr:Option Nat) (Q:bM→Act→ai→Prop) (q:Loc) (u:ah),A.nx≤T→HR P G r T h w→r l=some q→fJ r n fr σ→lB r D Dl→uf r rd rr→
     (∀ (r':Rn) (w':ai) (σ':Nat→ah) (I:List Deferred),St P G T r h w r' A w'→fJ r' n L σ'→lB r' J I→Q (lD e) (act ⟨n,I,[],rr⟩ σ') w')→rangePost (fe rr) 0 P q.ax Q (act ⟨n,Dl,[],rr⟩ σ) (.returned u) w:=by
     intro he bK;obtain ⟨U,he⟩:=K6 he;simp only [bP] at U;have run:∀ (r:Rn) (w:ai) (T:Nat) (q:Loc),HR P G r T h w→r l=some q→∃ w',(Instr.endLoop q.ax).run P w= .ok C w'∧St P G T r h w r ⟨h.t.set l (.loop .exhausted C m M ps aU body d),h.nx⟩ w':=by
      intro r w T q hr E;obtain ⟨q',fn,ay,aw,ad,hw,aj,ap,an⟩:=hr.loop ac;rw [E] at ad; cases ad;exact ⟨_,run_endLoop (P:=P) hw bK,hr.A3 (st':= .exhausted) (pe':=C) ac U.1 U.2 E hw aj ap an⟩
     cases C with
     | none=>
       cases he;refine ⟨bf _,fun T r w σ Dl rr Q q u hT hr E Z V ae aa=> ?_⟩;obtain ⟨w',ab,O⟩:=run r w T q hr E;exact ⟨none,w',ab,aa r w' σ Dl O Z V⟩
     | some c=>
       simp only at he;have s1:=ak<|.cd rd n c fr D ⟨h.t.set l (.loop .exhausted (some c) m M ps aU body d),h.nx⟩;rw [he] at s1;obtain ⟨aq,s1⟩:=s1;refine ⟨aq,fun T r w σ Dl rr Q q u hT hr E Z V ae aa=> ?_⟩;obtain ⟨w',ab,O⟩:=run r w T q hr E;exact ⟨some c,w',ab,s1 T r w' σ Dl rr Q hT O.hr Z V ae fun ar w2 av ag au am al=>aa ar w2 av ag (O.trans au) am al⟩
   split at he
   · cases he
   · rename_i ao;exact key he ao
 · cases he
theorem O2 (ab:Good P G ih) (aJ:iJ P) (aK:∀ f args h v aa,ih (.cl f args h)= .rv v aa→∃ fn c,P.funcs[f]? =some fn∧fn.body=some c) {rd:Option Nat} {g:bu} {ps:List Nat} {aU body:cm} {fr aH:Tr AV} {D aG:List AD} {aa:Hp} {e:EX} (he:rQ ih G rd n g ps aU body fr D h= .cd e aH aG aa):
 eI P G rd n (fun rr Q a w=>(Code.rangeFunc g ⟨ps⟩ aU body).wpIn (fe rr) 0 P Q a w) fr D h e aH aG aa:=by
 unfold rQ at he;split at he
 · rename_i f a c aL;split at he
   · split at he
     · rename_i aI aM;split at he
       · rename_i aj O;split at he
         · rename_i v aT M;have s1:=ab<|.cl f (a++(.iX aI.nx::c)) aj;rw [M] at s1;obtain ⟨m1,s1⟩:=s1;obtain ⟨a4,s2⟩:=DC ab he;have bb:=mo aM;have a3:=mo O;obtain ⟨ai,ah,av,am⟩:=aK _ _ _ _ _ M;have an:=aJ f ai ah av am;refine ⟨ag,fun T r w σ Dl rr Q hT hr J ap ac aw=> ?_⟩;have aY:rr=none:=by
            cases rr with
            | none=>rfl
            | some k=>exact ac.elim
           subst aY;refine wpIn_rangeFunc ?_;intro fn _;have I:=tW (N:=⟨n,Dl,[],none⟩) hr.gZ J aL;obtain ⟨a',c',ha,ao,I⟩:=n5 I;obtain ⟨bh,aN,aA⟩:=hr.dP aM ag 0 (w':=w.alloc<|.deferred<|some []) rfl rfl rfl fun r' _ _=>rfl;have aZ:(w.alloc<|.deferred<|some []).heap.size=w.heap.size+1:=World.size_alloc _ _;obtain ⟨Z,L,C⟩:=aA.hr.dP O ag 0 (w':=(w.alloc<|.deferred<|some []).alloc<|.loop {state:= .ready,pending:=none,fn:=fn,tmps:=(act ⟨n,Dl,[],none⟩ σ).tmps,params:=⟨ps⟩,assign:=aU,body:=body,defers:=w.heap.size}) rfl rfl rfl fun r' hle _=>by
            refine ⟨fn,(act ⟨n,Dl,[],none⟩ σ).tmps,w.heap.size,U,⟨_,hle _ _ aN,U⟩,by simp [act],fun i hi=> ?_⟩;rw [kI,if_pos hi];exact m8 hle<|m8 aA.le<|J i hi
           have aB:=aA.trans C;rw [aZ] at L;have ak:=gL (jO aB.le ha)<|fi (show den Z (.iX aI.nx)=some (.func (.yield<|w.heap.size+1) #[] #[]) from by simp only [den,L])<|jO aB.le ao;have ay:=s1 T Z _ _ ag C.hr ak;refine ⟨w.heap.size+1,[{target:= .collected w.heap.size,args:= #[]}],((w.alloc<|.deferred<|some []).alloc<|.loop {state:= .ready,pending:=none,fn:=fn,tmps:=(act ⟨n,Dl,[],none⟩ σ).tmps,params:=⟨ps⟩,assign:=aU,body:=body,defers:=w.heap.size}),{target:= .fn (.func f) c'.toArray,args:=a'.toArray++ #[.func (.yield<|w.heap.size+1) #[] #[]]},((w.alloc<|.deferred<|some []).alloc<|.loop {state:= .ready,pending:=none,fn:=fn,tmps:=(act ⟨n,Dl,[],none⟩ σ).tmps,params:=⟨ps⟩,assign:=aU,body:=body,defers:=w.heap.size}),f,(a'++(.func (.yield<|w.heap.size+1) #[] #[]::c')).toArray,_,?_,?_,fun _ _=>trivial,?_,fun h0=>(by cases h0),callsIn_wide.2<|jy ay ?_⟩
           · exact run_enterLoop_outer _ _ _ _ _
           · have ar:(act ⟨n,Dl,[],none⟩ σ).eval g= .func (.func f) a'.toArray c'.toArray:=by rw [ek]; exact I
             simp only [resolve,ar];simp [go_sem]
           · have al:a'.toArray++ #[.func (.yield<|w.heap.size+1) #[] #[]]++c'.toArray=(a'++(.func (.yield<|w.heap.size+1) #[] #[]::c')).toArray:=by simp
             have :=an (a'++(.func (.yield<|w.heap.size+1) #[] #[]::c')).toArray<|(w.alloc<|.deferred<|some []).alloc<|.loop {state:= .ready,pending:=none,fn:=fn,tmps:=(act ⟨n,Dl,[],none⟩ σ).tmps,params:=⟨ps⟩,assign:=aU,body:=body,defers:=w.heap.size};simp only [invoke,al];exact this
           · rintro aR aD ⟨u,rfl,ad,_,E⟩;have fP:=aB.trans E;have hm:ad h.nx=some ⟨w.heap.size,0,0⟩:=E.le _ _<|C.le _ _ aN;exact s2 T ad aD σ ({target:= .collected w.heap.size,args:= #[]} ::Dl) none Q ⟨w.heap.size+1,0,0⟩ u hT E.hr (E.le _ _ L) (J.le fP.le) ⟨⟨_,hm,U⟩,pf fP.le ap⟩ trivial fun az aE aF ae aC au aq=>aw az aE aF ae (fP.trans aC) au aq
         · cases he
       · cases he
     · cases he
   · rename_i bc;split at he
     · rename_i bi bd m0 a8 bf a5 a6 d aW;split at he
       · rename_i aj O;split at he
         · rename_i v aT M;have s1:=ab<|.cl f (a++(.iX h.nx::c)) aj;rw [M] at s1;obtain ⟨m1,s1⟩:=s1;obtain ⟨a4,s2⟩:=DC ab he;have a3:=mo O;obtain ⟨ai,ah,av,am⟩:=aK _ _ _ _ _ M;have an:=aJ f ai ah av am;refine ⟨ag,fun T r w σ Dl rr Q hT hr J ap ac aw=> ?_⟩;obtain ⟨aQ,rfl⟩:∃ aQ,rr=some aQ:=by
            cases rr with
            | none=>exact ac.elim
            | some k=>exact ⟨k,rfl⟩
           obtain ⟨A,aO,aX⟩:=ac;obtain ⟨bg,a7,bj,V,aP,a0,aV,ba,a9⟩:=hr.loop aW;rw [aO] at aP; cases aP;subst aX;refine wpIn_rangeFunc ?_;intro fn _;have I:=tW (N:=⟨n,Dl,[],some A.ax⟩) hr.gZ J aL;obtain ⟨a',c',ha,ao,I⟩:=n5 I;obtain ⟨Z,L,C⟩:=hr.dP O ag 0 (w':=w.alloc<|.loop {state:= .ready,pending:=none,fn:=fn,tmps:=(act ⟨n,Dl,[],some A.ax⟩ σ).tmps,params:=⟨ps⟩,assign:=aU,body:=body,defers:=V}) rfl rfl rfl fun r' hle _=>by
            obtain ⟨x,a1,a2⟩:=aV;refine ⟨fn,(act ⟨n,Dl,[],some A.ax⟩ σ).tmps,V,U,⟨x,hle _ _ a1,a2⟩,by simp [act],fun i hi=> ?_⟩;rw [kI,if_pos hi];exact m8 hle<|J i hi
           have ak:=gL (jO C.le ha)<|fi (show den Z (.iX h.nx)=some (.func (.yield w.heap.size) #[] #[]) from by simp only [den,L])<|jO C.le ao;have ay:=s1 T Z _ _ ag C.hr ak;refine ⟨w.heap.size,[],(w.alloc<|.loop {state:= .ready,pending:=none,fn:=fn,tmps:=(act ⟨n,Dl,[],some A.ax⟩ σ).tmps,params:=⟨ps⟩,assign:=aU,body:=body,defers:=V}),{target:= .fn (.func f) c'.toArray,args:=a'.toArray++ #[.func (.yield w.heap.size) #[] #[]]},(w.alloc<|.loop {state:= .ready,pending:=none,fn:=fn,tmps:=(act ⟨n,Dl,[],some A.ax⟩ σ).tmps,params:=⟨ps⟩,assign:=aU,body:=body,defers:=V}),f,(a'++(.func (.yield w.heap.size) #[] #[]::c')).toArray,_,?_,?_,fun aS _=>mg _ aS,?_,fun h0=>(by cases h0),wg<|jy ay ?_⟩
           · exact run_enterLoop_inner a0 _ _ _ _ _
           · have ar:(act ⟨n,Dl,[],some A.ax⟩ σ).eval g= .func (.func f) a'.toArray c'.toArray:=by rw [ek]; exact I
             simp only [resolve,ar];simp [go_sem]
           · have al:a'.toArray++ #[.func (.yield w.heap.size) #[] #[]]++c'.toArray=(a'++(.func (.yield w.heap.size) #[] #[]::c')).toArray:=by simp
             have :=an (a'++(.func (.yield w.heap.size) #[] #[]::c')).toArray<|w.alloc<|.loop {state:= .ready,pending:=none,fn:=fn,tmps:=(act ⟨n,Dl,[],some A.ax⟩ σ).tmps,params:=⟨ps⟩,assign:=aU,body:=body,defers:=V};simp only [invoke,al];exact this
           · rintro aR aD ⟨u,rfl,ad,_,E⟩;have fP:=C.trans E;exact s2 T ad aD σ _ (some A.ax) Q ⟨w.heap.size,0,0⟩ u hT E.hr (E.le _ _ L) (J.le fP.le) (pf fP.le ap) ⟨A,fP.le _ _ aO,U⟩ fun az aE aF ae aC au aq=>aw az aE aF ae (fP.trans aC) au aq
         · cases he
       · cases he
     · cases he
 · cases he
theorem AQ {N:Fm} {σ:Nat→ah} (hr:HR P G r T h w) {fr:Tr AV} (J:fJ r N.n fr σ):∀ {l:List ResultVar} {vs:List AV},kn P N.n fr h l=some vs→∃ us,bc r vs=some us∧(l.mapM<|ny (act N σ).tmps).run P w= .ok us w
 | [],vs,A=>by
   simp only [kn,bR] at A;subst A;exact ⟨[],by simp [bc],by simp⟩
 | .tmp t::l,vs,A=>by
   simp only [kn] at A;split at A
   · rename_i ad E;replace A:=bG A; obtain ⟨C,A⟩:=A;cases A;obtain ⟨us,L,M⟩:=AQ hr J E;have O:=J t<|dk.1 C;have V:=lM (P:=P) (w:=w)<|oB (P:=P) (N:=N) (σ:=σ) (w:=w) (t:=t);have I:ev N σ (.tmp t)=σ t:=by simp only [ev,C,cond_true]
     rw [I] at V;exact ⟨σ t::us,fi O L,by simp [Jf,V,M]⟩
   · cases A
 | .cell a t::l,vs,A=>by
   simp only [kn] at A;split at A
   · rename_i ad E;replace A:=bG A; obtain ⟨C,A⟩:=A;split at A
     · rename_i v c9;cases A;obtain ⟨us,L,M⟩:=AQ hr J E;have O:=J a<|dk.1 C;have I:ev N σ (.tmp a)=σ a:=by simp only [ev,C,cond_true]
       obtain ⟨b,off,u,Z,hu,aa⟩:=EZ hr c9 O;have ab:mU P N σ w (.cell a t) u:=by
        rcases aa with ⟨ha,U⟩ | ⟨m,cs,ha,rfl,E,U⟩
        · exact kX (I.trans Z) ha U
        · exact jY (I.trans Z) ha E U
       have ac:=lM ab;exact ⟨u::us,fi hu L,by simp [Jf,ac,M]⟩
     · cases A
   · cases A
theorem AT {N:Fm} {σ:Nat→ah} {fn:Func} (hr:HR P G r T h w) {fr:Tr AV} (J:fJ r N.n fr σ) {vs:List AV} (O:kn P N.n fr h fn.results.toList=some vs):∃ u,den r (pR vs)=some u∧(results fn (act N σ).tmps).run P w= .ok u w:=by
 obtain ⟨us,A,I⟩:=AQ hr J O;have V:(results fn (act N σ).tmps)=(do let vs ← fn.results.mapM (ny (act N σ).tmps); pure (if h:vs.size=1 then vs[0] else .tuple vs)):=rfl;have E:=eb A;have C:(fn.results.mapM<|ny (act N σ).tmps).run P w= .ok us.toArray w:=by
  have :fn.results=fn.results.toList.toArray:=by simp
  rw [this,List.mapM_toArray];simp [I]
 rw [V];unfold pR;split
 · obtain ⟨u,rfl⟩:=uW.1 (show us.length=1 from E);exact ⟨u,gn A,by simp [C]⟩
 · rename_i M;refine ⟨.tuple us.toArray,by simp only [den,A],?_⟩;have L:us.length≠1:=fun e=>by
    rw [E] at e;obtain ⟨v,rfl⟩:=uW.1 e;exact M v U
   simp [C,L]
end
end Go.Hb
namespace Go.Hb
section
variable {P:av} {G:Nat} {X:Xt} {ih:Tk→Rs} {n:Nat} {r:Rn} {T:Nat} {h:Hp} {w:ai}
theorem Ek:∀ (l:List AV) (k:Nat) (fr:Tr AV) (i:Nat),k+l.length≤1048574→(ki k l fr).get i=if k≤i∧i < k+l.length then l[i - k]? else fr.get i
 | [],k,fr,i,_=>by rw [ki,if_neg (fun h=>by have :=h.1; have :=h.2; simp only [fu] at this; omega)]
 | v::l,k,fr,i,h=>by
   simp only [cg] at h;rw [ki,Ek l (k+1) _ i ag,Tr.n9 _ _ _ _ (dk.2 (show k < 1048574 by omega))];by_cases C:k+1≤i∧i < k+1 +l.length
   · rw [if_pos C,if_pos (by simp only [cg]; omega)];obtain ⟨m,hm⟩:∃ m,i - k=m+1:=⟨i - k - 1,ag⟩
     rw [hm,jA,show i - (k+1)=m from by omega]
   · rw [if_neg C];by_cases A:i=k
     · rw [if_pos A,if_pos (by simp only [cg]; omega),A]; simp
     · rw [if_neg A,if_neg (by simp only [cg]; omega)]
theorem zI {args:List AV} {L:List ah} (C:bc r args=some L) (hb:bL args.length n=true) (hn:ba n di=true):fJ r n (ki 0 args .nil) (eF L):=by
 have hb:=cG hb;have hn:n < 1048574:=dk.1 hn;have J:=eb C;intro i hi;simp only [ee,Ek args 0 .nil i ag,eF,sU,true_and,du,Nat.sub_zero];by_cases A:i < args.length
 · rw [if_pos A,cr A];obtain ⟨u,E,I⟩:=qR C<|cr A;simp only [I,cQ,E,jD]
 · rw [if_neg A,Tr.get_nil];simp only [kf,cQ];rw [qy ag]; rfl
theorem CP {f:FuncId} {args:Array ah} {u:FrameMode} {R A:Ending→FrameMode→ai→Prop} (C:CallsDIn ga 0 P f args u w R) (hr:∀ e u w,R e u w→A e u w):CallsDIn ga 0 P f args u w A:=
 ⟨C.1,fun c cs hu E=>let ⟨e,u',w',fr,h1,h2⟩:=C.2 c cs hu E; ⟨e,u',w',fr,hr _ _ _ h1,h2⟩⟩
theorem Kz {f:FuncId} {fn:Func} {id N d:Nat} {ty:au} {pos :String} {af:Array cI} {rest:List aO} {y:cm} {args:List ah} {R:ai→Prop}
 (I:P.funcs[f]? =some fn) (hb:fn.body=some (.seq (.region id ⟨⟨some d,.call ⟨.builtin .recover,⟨[]⟩,⟨[]⟩⟩,ty,pos,af,none⟩::rest⟩ false) y)) (ab:fn.ntmps=N) (hn:bL args.length N=true)
 (h:wpListIn (fe none) 0 P (⟨some d,.call ⟨.builtin .recover,⟨[]⟩,⟨[]⟩⟩,ty,pos,af,none⟩::rest).toArray (Exit.then (y.wpIn (fe none) 0 P fun e a w=>(e= .normal∨e= .ret)∧a.defers= []∧∃ v,(results fn a.tmps).run P w= .ok v w∧R w) fun _ _ _=>False) rest (act ⟨N,[],[],none⟩<|bI (eF args) d .nilIface) w):
 CallsDIn ga 0 P f args.toArray .returning w fun e ap w'=> ∃ v,e= .returned v∧ap= .returning∧R w':=by
 subst ab;refine ⟨trivial,fun A cs hu _=> ?_⟩
 let b:Frame:= {(default:Frame) with fn:=f,kind:= .deferred}
 have ac:Frame.enter P f args.toArray .deferred=b.at (act ⟨fn.ntmps,[],[],none⟩<|eF args) [.code (.seq (.region id ⟨⟨some d,.call ⟨.builtin .recover,⟨[]⟩,⟨[]⟩⟩,ty,pos,af,none⟩::rest⟩ false) y)]:=by
  rw [← pV fn args [] hn];simp [Frame.enter,Frame.at,I,hb,b]
 have an:nL (⟨⟨some d,.call ⟨.builtin .recover,⟨[]⟩,⟨[]⟩⟩,ty,pos,af,none⟩::rest⟩:Array aO).size=0::(oR 1 rest.length):=by
  rw [fS,cg,List.range_eq_range',List.range'_succ]
 have ag:=wpOpsIn_eq_wpListIn (F:=fe none) (n:=0) (P:=P) (ops:=(⟨some d,.call ⟨.builtin .recover,⟨[]⟩,⟨[]⟩⟩,ty,pos,af,none⟩::rest).toArray) (Q:=Exit.then (y.wpIn (fe none) 0 P fun e a w=>(e= .normal∨e= .ret)∧a.defers= []∧∃ v,(results fn a.tmps).run P w= .ok v w∧R w) fun _ _ _=>False) rest 1 fun j=>by simp [yF]
 rw [← ag] at h;obtain ⟨e,a',w',V,C⟩:=wp_opsIn _ _ _ h b [.code y] (A::cs) rfl trivial (room_wide _);have C:=(arrivesIn_iff (b:=b) (fun _ _=>stepsIn_wide) rfl).1 C;have al:step P (lone (b.at (act ⟨fn.ntmps,[],[],none⟩<|eF args) (.inRegion (⟨some d,.call ⟨.builtin .recover,⟨[]⟩,⟨[]⟩⟩,ty,pos,af,none⟩::rest).toArray (0::oR 1 rest.length)::[.code y])) (A::cs) w)=
  .next (lone (b.at (act ⟨fn.ntmps,[],[],none⟩<|bI (eF args) d .nilIface) (.inRegion (⟨some d,.call ⟨.builtin .recover,⟨[]⟩,⟨[]⟩⟩,ty,pos,af,none⟩::rest).toArray (oR 1 rest.length)::[.code y])) (A::cs) w):=by
  have ae:=stepG_op (P:=P) (b:=b) (a:=act ⟨fn.ntmps,[],[],none⟩<|eF args) (k:= [.code y]) (cs:=A::cs) (w:=w) (ops:=(⟨some d,.call ⟨.builtin .recover,⟨[]⟩,⟨[]⟩⟩,ty,pos,af,none⟩::rest).toArray) (i:=0) (rest:=oR 1 rest.length) (o:=⟨some d,.call ⟨.builtin .recover,⟨[]⟩,⟨[]⟩⟩,ty,pos,af,none⟩) rfl (gW _ rfl _);have ao:(execOp (act ⟨fn.ntmps,[],[],none⟩<|eF args).eval ⟨some d,.call ⟨.builtin .recover,⟨[]⟩,⟨[]⟩⟩,ty,pos,af,none⟩).run P w= .ok .recover w:=by
   rw [ek];simp [execOp,resolve,invoke,builtin]
  have aa:=tryRecover_deferred (fr:=b.at (act ⟨fn.ntmps,[],[],none⟩<|eF args) (.inRegion (⟨some d,.call ⟨.builtin .recover,⟨[]⟩,⟨[]⟩⟩,ty,pos,af,none⟩::rest).toArray (0::oR 1 rest.length)::[.code y])) rfl (A::cs);have aj:recoverD (A::cs)=none:=by simp [recoverD,hu]
  have ad:(b.at (act ⟨fn.ntmps,[],[],none⟩<|eF args) (.inRegion (⟨some d,.call ⟨.builtin .recover,⟨[]⟩,⟨[]⟩⟩,ty,pos,af,none⟩::rest).toArray (0::oR 1 rest.length)::[.code y])).finish .nilIface=b.at (act ⟨fn.ntmps,[],[],none⟩<|bI (eF args) d .nilIface) (.inRegion (⟨some d,.call ⟨.builtin .recover,⟨[]⟩,⟨[]⟩⟩,ty,pos,af,none⟩::rest).toArray (oR 1 rest.length)::[.code y]):=by
   rw [Frame.finish_at];have :=gk ⟨fn.ntmps,[],[],none⟩ (eF args) (some d) .nilIface;simp only [dq] at this;rw [← this]; rfl
  refine step_lone_go ?_;rw [ae,← ad];simp only [Frame.at] at aa ⊢;simp [stepG.apply,ao,aa,aj]
 have L:Steps P (lone (Frame.enter P f args.toArray .deferred) (A::cs) w) (lone (b.at (act ⟨fn.ntmps,[],[],none⟩<|bI (eF args) d .nilIface) (.inRegion (⟨some d,.call ⟨.builtin .recover,⟨[]⟩,⟨[]⟩⟩,ty,pos,af,none⟩::rest).toArray (oR 1 rest.length)::[.code y])) (A::cs) w):=by
  rw [ac];refine .head step_seq<|.head step_region ?_;rw [an];exact .one al
 cases e with
 | normal=>
   obtain ⟨aq,a2,w2,ak,E⟩:=V b [] (A::cs) rfl trivial (room_wide _);have E:=(arrivesIn_iff (b:=b) (fun _ _=>stepsIn_wide) rfl).1 E;obtain ⟨jm,M,v,Z,J⟩:=ak;have O:({A with mode:= .returning} :Frame)=A:=by rw [← hu]
   rcases jm with rfl | rfl
   · refine ⟨.returned v,.returning,w2,{b.at a2 [] with mode:= .returning},⟨v,U,U,J⟩,?_,U,U,U,M,fn,I,Z⟩;rw [O];exact stepsIn_wide.2<|Steps.trans L<|Steps.trans C<|Steps.trans E<|.one step_end
   · obtain ⟨todo,am⟩:=E;refine ⟨.returned v,.returning,w2,{b.at a2 todo with mode:= .returning},⟨v,U,U,J⟩,?_,U,U,U,M,fn,I,Z⟩;rw [O];exact stepsIn_wide.2<|Steps.trans L<|Steps.trans C am
 | _=>exact V.elim
theorem Al (O:Good P G ih) (M:iJ P) (Z:∀ f args h v C,ih (.df f args h)= .rv v C→∃ fn c,P.funcs[f]? =some fn∧fn.body=some c):∀ {D:List AD} {h C:Hp},lJ G ih D h=some C→h.nx≤C.nx∧∀ (T:Nat) (r:Rn) (w:ai) (Dl:List Deferred) (fn:Func) (tmps:Array ah) (R:Ending→ai→Prop),
 C.nx≤T→HR P G r T h w→lB r D Dl→(∀ (r':Rn) (w':ai),St P G T r h w r' C w'→∃ v,(results fn tmps).run P w'= .ok v w'∧R (.returned v) w')→LeavesInM ga 0 P fn tmps R Dl .returning w
 | [],h,C,he=>by
   simp only [lJ,bR] at he;subst he;refine ⟨bf _,fun T r w Dl fn tmps R hT hr A E=> ?_⟩;have :Dl= []:=by cases Dl; rfl; exact A.elim
   subst this;exact E r w<|St.refl hr
 | .mark d::D,h,C,he=>by
   simp only [lJ] at he;split at he
   · rename_i ab;replace he:=bG he; obtain ⟨V,he⟩:=he;simp only [bP] at V;obtain ⟨J,s1⟩:=Al O M Z he;refine ⟨J,fun T r w Dl fn tmps R hT hr A E=> ?_⟩;cases Dl with
     | nil=>exact A.elim
     | cons x Dl=>
       obtain ⟨⟨q,ac,rfl⟩,A⟩:=A;obtain ⟨q',ad,I⟩:=hr.live d _ ab;rw [ac] at ad; cases ad;have I:w.heap[q.ax]? =some (.deferred<|some []):=I;have an:=(cx.1 I).1;have st:St P G T r h w r ⟨h.t.set d (.m9 false),h.nx⟩ (w.putObj q.ax<|.deferred none):=
        hr.nq ab V.2 ac (cG V.1) (by rw [qx an]; rfl) ⟨rfl,rfl,by simp [IU],fun k _ E=>lR E⟩
       exact ⟨ID,.inl ⟨q.ax,_,U,run_takeDeferred I,s1 T r _ Dl fn tmps R hT st.hr A fun r' w' st'=>E r' w'<|st.trans st'⟩⟩
   · cases he
 | .fn f args::D,h,C,he=>by
   simp only [lJ] at he;split at he
   · rename_i v au aa;have L:=O<|.df f args h;rw [aa] at L;obtain ⟨ao,L⟩:=L;obtain ⟨ag,ae,am,aj⟩:=Z _ _ _ _ _ aa;have ak:=M f ag ae am aj;obtain ⟨J,s1⟩:=Al O M Z he;refine ⟨cR ao J,fun T r w Dl fn tmps R hT hr A E=> ?_⟩;cases Dl with
     | nil=>exact A.elim
     | cons x Dl=>
       obtain ⟨⟨a,cap,ar,ha,rfl,al⟩,A⟩:=A;refine ⟨ID,.inr ⟨fun h0=>(by cases h0),.func f,cap,f,a.toArray,U,?_,fun _ _=>trivial,CP (L T r w a (cR J hT) hr ha) ?_⟩⟩
       · simp only [invoke,al];exact ak a.toArray w
       · rintro e av w' ⟨v,rfl,rfl,r',st⟩;exact s1 T r' w' Dl fn tmps R hT st.hr (pf st.le A) fun ap w2 aq=>E ap w2<|st.trans aq
   · cases he
def yJ (P:av) (G:Nat) (X:Xt) (ih:Tk→Rs):Prop := ∀ (rd:Option Nat) (n id:Nat) (ops:List aO) (fr:Tr AV) (D:List AD) (h:Hp),match vR P G X ih n ops fr D h with
 | .cd e C A E=>eI P G rd n (fun rr Q a w=>(Iw id ⟨ops⟩ true).wpIn (fe rr) 0 P Q a w) fr D h e C A E
 | .no=>True
 | _=>False
theorem eI.bind {rd:Option Nat} {W W' I:Option Nat→(bM→Act→ai→Prop)→Act→ai→Prop} {fr M O:Tr AV} {D C E:List AD} {h V Z:Hp} {J L:EX} (s1:eI P G rd n W fr D h J M C V) (s2:eI P G rd n W' M C V L O E Z)
 (ae:∀ rr Q a w,W rr (fun e a w=>e=lD J∧W' rr Q a w) a w→I rr Q a w):eI P G rd n I fr D h L O E Z:=by
 obtain ⟨ao,s1⟩:=s1;obtain ⟨ab,s2⟩:=s2;refine ⟨cR ao ab,fun T r w σ Dl rr Q hT hr ak ag aa an=>ae rr Q _ w ?_⟩;exact s1 T r w σ Dl rr _ (cR ab hT) hr ak ag aa fun ap w1 au ac A al ah=>⟨U,s2 T ap w1 au ac rr Q hT A.hr al ah (Ge A.le aa) fun aq w2 av ad ar am aj=>an aq w2 av ad (A.trans ar) am aj⟩
theorem eI.map {rd:Option Nat} {W W':Option Nat→(bM→Act→ai→Prop)→Act→ai→Prop} {fr I:Tr AV} {D A:List AD} {h J:Hp} {C E:EX} (s1:eI P G rd n W fr D h C I A J)
 (M:∀ rr Q a w,W rr (fun e a w=>e=lD C∧Q (lD E) a w) a w→W' rr Q a w):eI P G rd n W' fr D h E I A J:=by
 obtain ⟨ad,s1⟩:=s1;exact ⟨ad,fun T r w σ Dl rr Q hT hr Z O ac ab=>M rr Q _ w<|s1 T r w σ Dl rr _ hT hr Z O ac fun ae w1 ah L ag aa V=>⟨U,ab ae w1 ah L ag aa V⟩⟩
theorem Qt (Z:Good P G ih) (ae:iJ P) (ai:∀ f args h v ad,ih (.df f args h)= .rv v ad→∃ fn c,P.funcs[f]? =some fn∧fn.body=some c) (f:Nat) (args:List AV) (h:Hp):nV P G (.cl f args h) (gU P G X ih<|.cl f args h):=by
 show nV P G (.cl f args h) (match P.funcs[f]? with
  | some fn=>match fn.body with
    | some c=>cond (bL args.length fn.ntmps && ba fn.ntmps di) (match ih (.cd none fn.ntmps c (ki 0 args .nil) [] h) with
      | .cd (.ext _) _ _ _=> .no
      | .cd _ fr D h=>match lJ G ih D h with
        | some h=>match kn P fn.ntmps fr h fn.results.toList with
          | some vs=> .rv (pR vs) h
          | none=> .no
        | none=> .no
      | _=> .no) .no
    | none=> .no
  | none=> .no)
 split
 · rename_i fn al;split
   · rename_i c ag;cases hc:(bL args.length fn.ntmps && ba fn.ntmps di)
     · trivial
     · simp only [cond_true];simp only [bP] at hc;have key:∀ (e:EX) (fr:Tr AV) (D:List AD) (C A:Hp) (vs:List AV),(e= .cE∨e= .ret)→ih (.cd none fn.ntmps c (ki 0 args .nil) [] h)= .cd e fr D C→lJ G ih D C=some A→kn P fn.ntmps fr A fn.results.toList=some vs→nV P G (.cl f args h) (.rv (pR vs) A):=by
        intro e fr D C A vs aj M E I;have O:=Z<|.cd none fn.ntmps c (ki 0 args .nil) [] h;rw [M] at O;obtain ⟨an,O⟩:=O;obtain ⟨ab,s1⟩:=Al Z ae ai E;refine ⟨cR an ab,fun T r w L hT hr aa=> ?_⟩;have hlen:=eb aa;refine callsIn_wide.1<|callsIn_of_wp_marks (F:=ga) (n:=0) al ag trivial ?_;rw [pV fn L [] (by rw [hlen]; exact hc.1)];refine O T r w (eF L) [] none _ (cR ab hT) hr (zI aa hc.1 hc.2) trivial trivial fun ao w1 aq J ac ak ah=> ?_;have fin:LeavesInM ga 0 P fn (act ⟨fn.ntmps,J,[],none⟩ aq).tmps (fun e w'=> ∃ v,e= .returned v∧∃ r',den r' (pR vs)=some v∧St P G T r h w r' A w') J .returning w1:=by
         refine s1 T ao w1 J fn _ _ hT ac.hr ah fun ap w2 V=> ?_;obtain ⟨u,hu,am⟩:=AT (N:=⟨fn.ntmps,J,[],none⟩) V.hr (ak.le V.le) I;exact ⟨u,am,u,U,ap,hu,ac.trans V⟩
        rcases aj with rfl | rfl <;> exact fin
       cases M:ih (.cd none fn.ntmps c (ki 0 args .nil) [] h) with
       | no=>trivial
       | rv v C=>trivial
       | cd e fr D C=>
         cases e with
         | ext i=>trivial
         | cE=>
           simp only;cases E:lJ G ih D C with
           | none=>trivial
           | some A=>
             simp only;cases I:kn P fn.ntmps fr A fn.results.toList with
             | none=>trivial
             | some vs=>exact key .cE fr D C A vs (.inl rfl) M E I
         | ret=>
           simp only;cases E:lJ G ih D C with
           | none=>trivial
           | some A=>
             simp only;cases I:kn P fn.ntmps fr A fn.results.toList with
             | none=>trivial
             | some vs=>exact key .ret fr D C A vs (.inr rfl) M E I
   · trivial
 · trivial
end
end Go.Hb
namespace Go.Hb
section
variable {P:av} {G:Nat} {X:Xt} {ih:Tk→Rs} {n:Nat} {r:Rn} {T:Nat} {h:Hp} {w:ai}
theorem Qu (ac:Good P G ih) (ap:j8 P G X) (ao:iJ P) (ar:∀ f args h v J,ih (.cl f args h)= .rv v J→∃ fn c,P.funcs[f]? =some fn∧fn.body=some c) (f:Nat) (args:List AV) (h:Hp):nV P G (.df f args h) (gU P G X ih<|.df f args h):=by
 cases hs:gU P G X ih (.df f args h) with
 | no=>trivial
 | cd e fr D Z=>
   exfalso;simp only [gU] at hs;split at hs;rename_i fn ah;split at hs;rename_i c ad;cases hc:(bL args.length fn.ntmps && ba fn.ntmps di);rw [hc] at hs; cases hs;rw [hc] at hs;simp only [cond_true] at hs;split at hs;cases hs;split at hs <;> cases hs;cases hs;cases hs;cases hs
 | rv v J=>
   simp only [gU] at hs;split at hs;rename_i fn ah;split at hs;rename_i c ad;cases hc:(bL args.length fn.ntmps && ba fn.ntmps di);rw [hc] at hs; cases hs;rw [hc] at hs;simp only [cond_true] at hs;simp only [bP] at hc;split at hs;cases hs;rename_i e aF Z ai A;split at hs;rename_i vs aj;cases hs;split at A;rename_i id d ty pos af rest y;split at A;rename_i aE ay;split at A;rename_i am aa ax;obtain ⟨az,s1⟩:=tY ac ap ao ar ax;have s2:=ac<|.cd none fn.ntmps y am [] aa;rw [A] at s2;obtain ⟨O,s2⟩:=s2;refine ⟨cR az O,fun T r w L hT hr I=> ?_⟩;have hlen:=eb I;refine Kz (R:=fun w'=> ∃ r',St P G T r h w r' J w') ah ad U (by rw [hlen]; exact hc.1) ?_;have av:=rY ay (zI I hc.1 hc.2) (show den r .fM=some .nilIface from rfl);refine s1 T r w (bI (eF L) d .nilIface) [] none _ (cR O hT) hr av trivial trivial fun aA w1 aC al ak aw au=> ?_;refine s2 T aA w1 aC al none _ hT ak.hr aw au trivial fun V aB aD E C ag ae=> ?_;have ab:E= []:=by cases E; rfl; exact ae.elim
   subst ab;obtain ⟨u,hu,M⟩:=AT (N:=⟨fn.ntmps,[],[],none⟩) C.hr ag aj;have he:lD e= .normal∨lD e= .ret:=by
    cases e with
    | cE=>exact .inl rfl
    | ret=>exact .inr rfl
    | ext i=>exact (ai i rfl).elim
   exact ⟨he,U,u,M,V,ak.trans C⟩;cases A;cases A;have s2:=ac<|.cd none fn.ntmps c (ki 0 args .nil) [] h;rw [A] at s2;obtain ⟨O,s2⟩:=s2;refine ⟨O,fun T r w L hT hr I=> ?_⟩;have hlen:=eb I;have aq:=callsDIn_of_wp (F:=ga) (n:=0) (u:= .returning) (w:=w) (args:=L.toArray) (R:=fun e w'=> ∃ v,e= .returned v∧∃ r',St P G T r h w r' J w') ah ad trivial (by
    rw [pV fn L [] (by rw [hlen]; exact hc.1)];refine s2 T r w (eF L) [] none _ hT hr (zI I hc.1 hc.2) trivial trivial fun V aB aD E C ag ae=> ?_;have ab:E= []:=by cases E; rfl; exact ae.elim
    subst ab;obtain ⟨u,hu,M⟩:=AT (N:=⟨fn.ntmps,[],[],none⟩) C.hr ag aj;cases e with
    | cE=>exact ⟨rfl,u,M,u,rfl,V,C⟩
    | ret=>exact ⟨rfl,u,M,u,rfl,V,C⟩
    | ext i=>exact (ai i rfl).elim)
   exact CP aq fun e aG w' ⟨Z,v,aa,an⟩=>⟨v,aa,Z,an⟩
   cases hs;cases hs;cases hs;cases hs
theorem BB {c:cm} {rr:Option Nat} {Q:bM→Act→ai→Prop} {a:Act} {w:ai} (Z:c.wpIn (fe rr) 0 P (Exit.then (xV P c rr Q) Q) a w):xV P c rr Q a w:=by
 intro b k cs J hb hr;obtain ⟨e,E,I,C,A⟩:=Z b (.inLoop c::k) cs J hb hr;cases e with
 | normal=>
   obtain ⟨O,L,ab,aa,V⟩:=C b k cs J hb hr;exact ⟨O,L,ab,aa,.of_steps (StepsIn.trans A<|.one (fenced_calm hb hr U) stepR_inLoop) V⟩
 | exit id=>exact ⟨.exit id,E,I,C,.pass (x:= .inLoop c) rfl (fun _ _=> .inl<|by simp) A⟩
 | goto l=>exact ⟨.goto l,E,I,C,.pass (x:= .inLoop c) rfl (fun _ _=> .inl<|by simp) A⟩
 | ret=>exact ⟨.ret,E,I,C,.pass (x:= .inLoop c) rfl (fun _ _=> .inl<|by simp) A⟩
 | panic M=>exact ⟨.panic M,E,I,C,.pass (x:= .inLoop c) rfl (fun _ _=> .inl<|by simp) A⟩
 | outgrown=>exact ⟨.outgrown,E,I,C,.pass (x:= .inLoop c) rfl (fun _ _=> .inl<|by simp) A⟩
theorem Rx {c:cm} {rr:Option Nat} {Q:bM→Act→ai→Prop} {a:Act} {w:ai} (h:xV P c rr Q a w):(Code.loop c).wpIn (fe rr) 0 P Q a w:=by
 intro b k cs E hb hr;obtain ⟨e,a',w',C,A⟩:=h b k cs E hb hr;exact ⟨e,a',w',C,.of_steps (.one (fenced_calm hb hr U) stepR_loop) A⟩
theorem Good.pc (C:Good P G ih) {rd:Option Nat} {c:cm} {fr:Tr AV} {D:List AD} {h A:Hp} {v:AV} (E:ih (.cd rd n c fr D h)= .rv v A):False:=by
 have :=C (.cd rd n c fr D h); rw [E] at this; exact this
theorem Good.Fa (C:Good P G ih) {rd:Option Nat} {c:cm} {fr:Tr AV} {D:List AD} {h A:Hp} {v:AV} (E:ih (.lp rd n c fr D h)= .rv v A):False:=by
 have :=C (.lp rd n c fr D h); rw [E] at this; exact this
theorem Qv (A:Good P G ih) (rd:Option Nat) (n:Nat) (c:cm) (fr:Tr AV) (D:List AD) (h:Hp):nV P G (.lp rd n c fr D h) (gU P G X ih<|.lp rd n c fr D h):=by
 simp only [gU];cases hi:ih (.cd rd n c fr D h) with
 | no=>trivial
 | rv v C=>exact (A.pc hi).elim
 | cd e I E C=>
   have s1:=A<|.cd rd n c fr D h;rw [hi] at s1;cases e with
   | cE=>
     simp only;have s2:=A<|.lp rd n c I E C;cases hj:ih (.lp rd n c I E C) with
     | no=>trivial
     | rv v J=>exact (A.Fa hj).elim
     | cd M O L J=>
       rw [hj] at s2;exact eI.bind s1 s2 fun rr Q a w hw=>BB (wpIn_mono hw fun e a w he=>by
        obtain ⟨rfl,he⟩:=he; exact he)
   | ret=>exact eI.map s1 fun rr Q a w hw=>BB<|wpIn_mono hw fun e a w he=>by obtain ⟨rfl,he⟩:=he; exact he
   | ext i=>exact eI.map s1 fun rr Q a w hw=>BB<|wpIn_mono hw fun e a w he=>by obtain ⟨rfl,he⟩:=he; exact he
theorem eI.here {rd:Option Nat} {W:Option Nat→(bM→Act→ai→Prop)→Act→ai→Prop} {fr:Tr AV} {D:List AD} {h:Hp} {e:EX} (A:∀ rr Q a w,Q (lD e) a w→W rr Q a w):eI P G rd n W fr D h e fr D h:=
 ⟨bf _,fun T r w σ Dl rr Q hT hr E C J I=>A rr Q _ w<|I r w σ Dl (St.refl hr) E C⟩
theorem xg {rd:Option Nat} {ops:List aO} :∀ {l:List aO} {fr:Tr AV} {D:List AD} {h:Hp},(∃ C A E,lL P G X ih rd n ops l fr D h= .cd .cE C A E)∨lL P G X ih rd n ops l fr D h= .no
 | [],fr,D,h=> .inl ⟨fr,D,h,rfl⟩
 | o::l,fr,D,h=>by
   simp only [lL];split
   · split
     · split
       · split
         · exact xg
         · exact .inr U
       · split
         · split
           · exact xg
           · exact .inr U
         · exact .inr U
       · exact .inr U
     · exact .inr U
   · split
     · exact xg
     · exact .inr U
   · exact .inr U
theorem O3 (I:Good P G ih) {rd:Option Nat} {g:bu} {ps:List Nat} {aU body:cm} {fr:Tr AV} {D:List AD} {h E:Hp} {v:AV} (A:rQ ih G rd n g ps aU body fr D h= .rv v E):False:=by
 have C:∀ {fr:Tr AV} {D:List AD} {l:Nat} {h:Hp},qV G ih rd n fr D l h= .rv v E→False:=by
  intro fr D l h A;unfold qV at A;split at A
  · split at A
    · cases A
    · rename_i L m J ps aU body d _ _;cases hc:(bL G l && ba l di)
      · rw [hc] at A; cases A
      · rw [hc] at A;simp only [cond_true] at A;split at A
        · cases A
        · exact I.pc A
  · cases A
 unfold rQ at A;split at A
 · split at A
   · split at A
     · split at A
       · split at A
         · exact C A
         · cases A
       · cases A
     · cases A
   · split at A
     · split at A
       · split at A
         · exact C A
         · cases A
       · cases A
     · cases A
 · cases A
theorem Qs (A:Good P G ih) (ag:j8 P G X) (ab:iJ P) (ae:yJ P G X ih) (ac:∀ f args h v aa,ih (.cl f args h)= .rv v aa→∃ fn c,P.funcs[f]? =some fn∧fn.body=some c) (rd:Option Nat) (n:Nat) (c:cm) (fr:Tr AV) (D:List AD) (h:Hp):nV P G (.cd rd n c fr D h) (gU P G X ih<|.cd rd n c fr D h):=by
 cases c with
 | skip =>exact eI.here fun rr Q a w V=>wpIn_skip V
 | region id ops draw=>
   obtain ⟨ops⟩:=ops;simp only [gU];cases draw with
   | true =>
     simp only [cond_true];have :=ae rd n id ops fr D h;split at this
     · rename_i he; rw [he]; exact this
     · rename_i he; rw [he]; trivial
     · exact this.elim
   | false =>
     simp only [cond_false];rcases xg (P:=P) (G:=G) (X:=X) (ih:=ih) (n:=n) (rd:=rd) (ops:=ops) (l:=ops) (fr:=fr) (D:=D) (h:=h) with ⟨al,ai,aa,he⟩ | he
     · rw [he];obtain ⟨U,s1⟩:=tY A ag ab ac he;exact ⟨U,fun T r w σ Dl rr Q hT hr E L O M=>wpIn_region_lit<|s1 T r w σ Dl rr Q hT hr E L O M⟩
     · rw [he]; trivial
 | seq a b=>
   simp only [gU];cases hi:ih (.cd rd n a fr D h) with
   | no=>trivial
   | rv v C=>exact (A.pc hi).elim
   | cd e J I C=>
     have s1:=A<|.cd rd n a fr D h;rw [hi] at s1;cases e with
     | cE=>
       simp only;have s2:=A<|.cd rd n b J I C;cases hj:ih (.cd rd n b J I C) with
       | no=>trivial
       | rv v ad=>exact (A.pc hj).elim
       | cd ak am aj ad=>
         rw [hj] at s2;exact eI.bind s1 s2 fun rr Q a w hw=>wpIn_seq<|wpIn_mono hw fun e a w he=>by obtain ⟨rfl,he⟩:=he; exact he
     | ret=>exact eI.map s1 fun rr Q a w hw=>wpIn_seq<|wpIn_mono hw fun e a w he=>by obtain ⟨rfl,he⟩:=he; exact he
     | ext i=>exact eI.map s1 fun rr Q a w hw=>wpIn_seq<|wpIn_mono hw fun e a w he=>by obtain ⟨rfl,he⟩:=he; exact he
 | cond x a b=>
   simp only [gU];split
   · rename_i Z;have s1:=A<|.cd rd n a fr D h;cases hi:ih (.cd rd n a fr D h) with
     | no=>trivial
     | rv v C=>exact (A.pc hi).elim
     | cd e J I C=>
       rw [hi] at s1;obtain ⟨U,s1⟩:=s1;exact ⟨U,fun T r w σ Dl rr Q hT hr E L O M=>wpIn_cond_true (by rw [ek]; exact kK<|tW (N:=⟨n,Dl,[],rr⟩) hr.gZ E Z)<|s1 T r w σ Dl rr Q hT hr E L O M⟩
   · rename_i Z;have s1:=A<|.cd rd n b fr D h;cases hi:ih (.cd rd n b fr D h) with
     | no=>trivial
     | rv v C=>exact (A.pc hi).elim
     | cd e J I C=>
       rw [hi] at s1;obtain ⟨U,s1⟩:=s1;exact ⟨U,fun T r w σ Dl rr Q hT hr E L O M=>wpIn_cond_false (by rw [ek]; exact kK<|tW (N:=⟨n,Dl,[],rr⟩) hr.gZ E Z)<|s1 T r w σ Dl rr Q hT hr E L O M⟩
   · trivial
 | block id c=>
   simp only [gU];cases hi:ih (.cd rd n c fr D h) with
   | no=>trivial
   | rv v C=>exact (A.pc hi).elim
   | cd e J I C=>
     have s1:=A<|.cd rd n c fr D h;rw [hi] at s1;cases e with
     | cE=>exact eI.map s1 fun rr Q a w hw=>wpIn_block<|wpIn_mono hw fun e a w he=>by obtain ⟨rfl,he⟩:=he; exact he
     | ret=>exact eI.map s1 fun rr Q a w hw=>wpIn_block<|wpIn_mono hw fun e a w he=>by obtain ⟨rfl,he⟩:=he; exact he
     | ext j=>
       simp only;cases hj:bC j id
       · have ah:j≠id:=fun e=>by subst e; simp at hj
         exact eI.map s1 fun rr Q a w hw=>wpIn_block (wpIn_mono hw fun e a w he=>by
          obtain ⟨rfl,he⟩:=he;simp only [lD,IC,if_neg ah]; exact he)
       · obtain rfl :=cP hj;exact eI.map s1 fun rr Q a w hw=>wpIn_block (wpIn_mono hw fun e a w he=>by
          obtain ⟨rfl,he⟩:=he;simp only [lD,IC,if_true]; exact he)
 | loop c=>
   simp only [gU];cases hi:ih (.lp rd n c fr D h) with
   | no=>trivial
   | rv v C=>exact (A.Fa hi).elim
   | cd e J I C=>
     have s1:=A<|.lp rd n c fr D h;rw [hi] at s1;obtain ⟨U,s1⟩:=s1;exact ⟨U,fun T r w σ Dl rr Q hT hr E L O M=>Rx<|s1 T r w σ Dl rr Q hT hr E L O M⟩
 | rangeFunc g ps aU body=>
   obtain ⟨ps⟩:=ps;simp only [gU];cases hi:rQ ih G rd n g ps aU body fr D h with
   | no=>trivial
   | rv v C=>exact (O3 A hi).elim
   | cd e J I C=>exact O2 A ab ac hi
 | exit id=>exact eI.here fun rr Q a w V=>wpIn_exit V
 | ret=>exact eI.here fun rr Q a w V=>wpIn_ret V
 | scope c=>trivial
 | label l=>trivial
 | goto l=>trivial
 | refuse s=>trivial
theorem Qw (C:Good P G ih) (l:Nat) (args:List AV) (h:Hp):nV P G (.yl l args h) (gU P G X ih<|.yl l args h):=by
 simp only [gU];cases hi:uE G ih l args h with
 | no=>trivial
 | rv v A=>exact RI C hi
 | cd e fr D A=>
   exfalso;unfold uE at hi;split at hi
   · split at hi
     · split at hi
       · split at hi
         · rename_i M L J O E I d1 _;cases hc:(bL G l && ba l di)
           · rw [hc] at hi; cases hi
           · rw [hc] at hi;simp only [cond_true] at hi;split at hi
             · split at hi
               · split at hi <;> cases hi
               · cases hi
             · cases hi
         · cases hi
       · cases hi
     · cases hi
   · cases hi
theorem Me:∀ (k:Nat),(∀ f args h v C,jT P G X k (.cl f args h)= .rv v C→∃ fn c,P.funcs[f]? =some fn∧fn.body=some c)∧(∀ f args h v C,jT P G X k (.df f args h)= .rv v C→∃ fn c,P.funcs[f]? =some fn∧fn.body=some c)
 | 0=>⟨fun f args h v C A=>(by cases A),fun f args h v C A=>by cases A⟩
 | k+1=>by
   constructor
   · intro f args h v C A;simp only [jT,gU] at A;split at A
     · rename_i fn E;split at A
       · rename_i c hb; exact ⟨fn,c,E,hb⟩
       · cases A
     · cases A
   · intro f args h v C A;simp only [jT,gU] at A;split at A
     · rename_i fn E;split at A
       · rename_i c hb; exact ⟨fn,c,E,hb⟩
       · cases A
     · cases A
theorem D3 (E:j8 P G X) (C:iJ P) (J:∀ ih,Good P G ih→(∀ f args h v L,ih (.cl f args h)= .rv v L→∃ fn c,P.funcs[f]? =some fn∧fn.body=some c)→yJ P G X ih):∀ k,Good P G (jT P G X k)
 | 0=>fun t=>by cases t <;> trivial
 | k+1=>fun t=>by
   have A:=D3 E C J k;obtain ⟨I,M⟩:=Me (P:=P) (G:=G) (X:=X) k;cases t with
   | cd rd n c fr D h=>exact Qs A E C (J _ A I) I rd n c fr D h
   | lp rd n c fr D h=>exact Qv A rd n c fr D h
   | cl f args h=>exact Qt A C M f args h
   | yl l args h=>exact Qw A l args h
   | df f args h=>exact Qu A E C I f args h
end
end Go.Hb
namespace Go.Hb
mutual
theorem zr:∀ {a b:AV},iL a b=true→a=b
 | .bool a,.bool b,h=>by simp only [iL,beq_iff_eq] at h; rw [h]
 | .int k a,.int k' b,h=>by
   simp only [iL] at h;cases hk:bC (eX k) (eX k')
   · rw [hk] at h; cases h
   · rw [hk] at h;simp only [cond_true,decide_eq_true_iff] at h;rw [pD hk,h]
 | .str l,.str m,h=>by simp only [iL,qW,decide_eq_true_iff] at h; rw [h]
 | .ptr b o,.ptr b' o',h=>by
   simp only [iL,bP] at h;rw [cP h.1,cP h.2]
 | .jq,.jq,_=>rfl
 | .sl b o n c x,.sl b' o' n' c' x',h=>by
   simp only [iL,bP,beq_iff_eq] at h;obtain ⟨⟨A,C⟩,h3,h4,h5⟩:=h;rw [cP A,cP C,cP h3,cP h4,h5]
 | .fZ,.fZ,_=>rfl
 | .map b,.map b',h=>by simp only [iL] at h; rw [cP h]
 | .mq,.mq,_=>rfl
 | .fn f a c,.fn f' a' c',h=>by
   simp only [iL,bP] at h;rw [cP h.1,tD h.2.1,tD h.2.2]
 | .iX l,.iX l',h=>by simp only [iL] at h; rw [cP h]
 | .km,.km,_=>rfl
 | .jU t v,.jU t' v',h=>by
   simp only [iL,bP] at h;rw [cP h.1,zr h.2]
 | .fM,.fM,_=>rfl
 | .agg l,.agg m,h=>by simp only [iL] at h; rw [tD h]
 | .dg l,.dg m,h=>by simp only [iL] at h; rw [tD h]
theorem tD:∀ {a b:List AV},nb a b=true→a=b
 | [],[],_=>rfl
 | a::l,b::m,h=>by
   simp only [nb] at h;cases hk:iL a b
   · rw [hk] at h; cases h
   · rw [hk] at h; rw [zr hk,tD h]
 | [],_::_,h=>by simp [nb] at h
 | _::_,[],h=>by simp [nb] at h
end
theorem ze {c p:Bool} (h:cond c p false =true):c=true∧p=true :=by
 cases c
 · cases h
 · exact ⟨U,h⟩
theorem Aq {t:Nat} :∀ {l:List Nat},tT t l=true↔t∈l
 | []=>by simp [tT]
 | u::l=>by
   simp only [tT,ej];cases hb:bC t u
   · have :t≠u:=fun e=>by subst e; simp at hb
     simp only [cond_false,Aq,this,false_or]
   · have :=cP hb;simp [this]
theorem Dw {i:Nat} :∀ {l:List cI},tB i l=true→∀ e∈l,eQ .any e=true→e.on < i
 | [],_,e,he,_=>by cases he
 | x::l,h,e,he,hb=>by
   simp only [tB] at h;cases hx:(eQ .any x && !(ba x.on i))
   · rw [hx] at h;rcases ej.1 he with rfl | he
     · rw [hb] at hx;simp only [Bool.true_and,Bool.not_eq_false'] at hx;exact dk.1 hx
     · exact Dw h e he hb
   · rw [hx] at h; cases h
def qE (ops:List aO) (X:Nat→Prop):Prop := ∀ i o,X i→ops[i]? =some o→∀ e∈o.after.toList,eQ .any e=true→X e.on
theorem AB {l:List Nat} {i:Nat} :ox l i=(l[i]?).getD 0:=by
 unfold ox
 induction l generalizing i with
 | nil=>simp [nk]
 | cons a l ih=>
   cases i with
   | zero=>simp [nk]
   | succ i=>simp [nk,ih]
theorem Ap {acc:List Nat} {j:Nat} :∀ {l:List cI},vf (ot acc l) j=true→∃ e∈l,eQ .any e=true∧e.on < acc.length∧(j=e.on∨vf (ox acc e.on) j=true)
 | [],h=>by simp [ot] at h
 | e::l,h=>by
   simp only [ot] at h;cases hb:(eQ .any e && ba e.on acc.length)
   · rw [hb] at h;obtain ⟨e',C,E⟩:=Ap h;exact ⟨e',mQ _ C,E⟩
   · rw [hb] at h;simp only [bP] at hb;simp only [cond_true] at h;have A:((2 ^ e.on ||| ox acc e.on) ||| ot acc l).testBit j=true :=h;simp only [Nat.testBit_or,lO,Nat.testBit_two_pow,decide_eq_true_iff] at A;rcases A with (A | A) | A
     · exact ⟨e,lS,hb.1,dk.1 hb.2,.inl A.symm⟩
     · exact ⟨e,lS,hb.1,dk.1 hb.2,.inr A⟩
     · obtain ⟨e',C,E⟩:=Ap A;exact ⟨e',mQ _ C,E⟩
theorem Dp {ops:List aO} {X:Nat→Prop} (C:qE ops X):∀ (l:List aO) (acc:List Nat),(∀ k,l[k]? =ops[acc.length+k]?)→(∀ i j,i < acc.length→vf (ox acc i) j=true→j < i∧(X i→X j))→
 ∀ i j,vf (ox (jP l acc) i) j=true→j < i∧(X i→X j)
 | [],acc,_,ha,i,j,h=>by
   simp only [jP] at h;rcases dM i acc.length with hi | hi
   · exact ha i j hi h
   · rw [AB,qy hi] at h; simp at h
 | o::l,acc,hl,ha,i,j,h=>by
   simp only [jP] at h;refine Dp C l (acc++ [ot acc o.after.toList]) (fun k=> ?_) (fun i j hi hb=> ?_) i j h
   · have :=hl<|k+1;simp only [jA] at this;rw [this]; congr 1; simp; omega
   · rw [AB] at hb;rcases dM i acc.length with A | A
     · rw [eR A,← AB] at hb; exact ha i j A hb
     · have :i=acc.length:=by simp at hi; omega
       subst this;rw [eC (bf _)] at hb;simp only [Nat.sub_self,jB,jD] at hb;obtain ⟨e,he,J,L,E⟩:=Ap hb;have M:ops[acc.length]? =some o:=by
        have :=hl 0;simpa using this.symm
       rcases E with rfl | E
       · exact ⟨L,fun I=>C _ _ I M e he J⟩
       · obtain ⟨U,O⟩:=ha _ _ L E;exact ⟨ag,fun I=>O<|C _ _ I M e he J⟩
theorem tj {ops:List aO} {X:Nat→Prop} (A:qE ops X) {i j:Nat} (h:ln (jP ops []) i j=true):j < i∧(X i→X j):=
 Dp A ops [] (fun k=>by simp) (fun i j hi=>by simp at hi) i j h
structure yN (ops:List aO) (dp:List Nat) (i j:Nat) (oi oj:aO):Prop where
 ne:∀ t,oi.dst=some t→oj.dst≠some t
 ap:ln dp i j=true∨((∀ t,oj.dst=some t→t∉rP ops oi)∧∀ t,oi.dst=some t→t∉rP ops oj)
theorem CV {ops:List aO} {J:List Nat} {i:Nat} {L:aO} :∀ {l:List aO} {b:Nat},vJ ops J i L b l=true→∀ k E,l[k]? =some E→b+k < i→yN ops J i (b+k) L E
 | [],b,_,k,E,hk,_=>by simp at hk
 | o::l,b,h,k,E,hk,hlt=>by
   simp only [vJ] at h;rw [dk.2 (show b < i by omega)] at h;simp only [cond_true,bP,mI,lO] at h;cases k with
   | zero=>
     simp only [jB,bR] at hk;subst hk;refine ⟨fun t A C=> ?_,?_⟩
     · have :=h.1.1;rw [A,C] at this;simp [DP] at this
     · rcases h.1.2 with A | ⟨A,C⟩
       · exact .inl A
       · refine .inr ⟨fun t I hm=> ?_,fun t I hm=> ?_⟩
         · rw [I] at A; simp only [wU] at A; rw [Aq.2 hm] at A; cases A
         · rw [I] at C; simp only [wU] at C; rw [Aq.2 hm] at C; cases C
   | succ k=>
     simp only [jA] at hk;have :=CV h.2 k E hk ag;rwa [show b+1 +k=b+(k+1) from by omega] at this
theorem za {ops:List aO} {E:List Nat} :∀ {l:List aO} {b:Nat},qP ops E b l=true→∀ k A,l[k]? =some A→tB (b+k) A.after.toList=true∧∀ j C,ops[j]? =some C→j < b+k→yN ops E (b+k) j A C
 | [],b,_,k,A,hk=>by simp at hk
 | o::l,b,h,k,A,hk=>by
   simp only [qP,bP] at h;cases k with
   | zero=>
     simp only [jB,bR] at hk;subst hk;refine ⟨h.1.1,fun j C I J=> ?_⟩;have :=CV h.1.2 j C I ag;rwa [du] at this
   | succ k=>
     simp only [jA] at hk;have :=za h.2 k A hk;rwa [show b+1 +k=b+(k+1) from by omega] at this
theorem DS {a:Option AV} {v:AV} (h:zt a v=true):a=some v:=by
 cases a with
 | none=>cases h
 | some a=>rw [zr h]
theorem FJ {P:av} {E:List Nat} {i:Nat} {o:Op} {xs:List AV} {v:AV} :∀ {l:List Rec} {b:Nat},tV P E i o xs v b l=true→∀ k q,l[k]? =some q→
 (q.k= .c→(b+k < i→ln E i (b+k)=true∨kU P o xs q.hb=some v)∧(¬b+k < i→ln E (b+k) i=true∨kU P o xs q.ha=some v))∧(q.k= .a→¬b+k < i)
 | [],b,_,k,q,hk=>by simp at hk
 | x::l,b,h,k,q,hk=>by
   simp only [tV] at h;obtain ⟨A,I⟩:=ze h;cases k with
   | succ k=>
     simp only [jA] at hk;have :=FJ I k q hk;rwa [show b+1 +k=b+(k+1) from by omega] at this
   | zero=>
     simp only [jB,bR] at hk;subst hk;rw [lT];refine ⟨fun J=> ?_,fun ha C=> ?_⟩
     · rw [J] at A;simp only at A;refine ⟨fun C=> ?_,fun C=> ?_⟩
       · rw [dk.2 C] at A;simp only [cond_true,lO] at A;exact A.imp id DS
       · have :ba b i=false :=by cases hb:ba b i; rfl; exact absurd (dk.1 hb) C
         rw [this] at A;simp only [cond_false,lO] at A;exact A.imp id DS
     · rw [ha,dk.2 C] at A; cases A
theorem FI {E:List Nat} {i:Nat} :∀ {l:List Rec} {b:Nat},tU E i b l=true→∀ k q,l[k]? =some q→(q.k= .c∨q.k= .a)→b+k < i→ln E i (b+k)=true
 | [],b,_,k,q,hk,_,_=>by simp at hk
 | x::l,b,h,k,q,hk,A,I=>by
   simp only [tU] at h;obtain ⟨C,J⟩:=ze h;cases k with
   | succ k=>
     simp only [jA] at hk;have :=FI J k q hk A ag;rwa [show b+1 +k=b+(k+1) from by omega] at this
   | zero=>
     simp only [jB,bR] at hk;subst hk;rw [lT] at I ⊢;rcases A with A | A <;> (rw [A] at C; simp only at C; rw [dk.2 I] at C; exact C)
theorem FK {P:av} {I:List Nat} {rs:List Rec} :∀ {l:List aO} {m:List Rec} {b:Nat},np P I rs b l m=true→l.length=m.length∧∀ k o q,l[k]? =some o→m[k]? =some q→(q.k= .l→tV P I (b+k) o.op q.xs q.v 0 rs=true)∧(q.k= .c→tU I (b+k) 0 rs=true)
 | [],[],b,_=>⟨rfl,fun k o q A=>by simp at A⟩
 | [],_::_,b,h=>by simp [np] at h
 | _::_,[],b,h=>by simp [np] at h
 | o::l,q::m,b,h=>by
   simp only [np] at h;obtain ⟨C,L⟩:=ze h;obtain ⟨M,O⟩:=FK L;refine ⟨by simp [M],fun k U q' A E=> ?_⟩;cases k with
   | succ k=>
     simp only [jA] at A E;have :=O k U q' A E;rwa [show b+1 +k=b+(k+1) from by omega] at this
   | zero=>
     simp only [jB,bR] at A E;subst A; subst E;rw [lT];exact ⟨fun J=>by rw [J] at C; exact C,fun J=>by rw [J] at C; exact C⟩
end Go.Hb
namespace Go.Hb
section
variable {P:av} {G:Nat} {X:Xt} {ih:Tk→Rs} {n:Nat}
inductive Cl (P:av) (G:Nat) (o:Op) (q:Rec):Prop
 | p:q.k= .p→pP P o q.xs=some q.v→q.ha=q.hb→Cl P G o q
 | l:q.k= .l→kU P o q.xs q.hb=some q.v→q.ha=q.hb→Cl P G o q
 | a (e:au) (l:List AV):q.k= .a→o= .alloc e→vB P e=some l→dP q.hb (.cells l e 0 .x)=some q.ha→q.v= .ptr q.hb.nx 0→Cl P G o q
 | c:q.k= .c→lY P G o q.xs q.hb q.v q.ha→Cl P G o q
structure qH (P:av) (G n:Nat) (ops:List aO) (o:aO) (q:Rec) (fr fr':Tr AV) (h h':Hp):Prop where
 hb:q.hb=h
 ha:q.ha=h'
 set :ic n fr o.dst q.v=some fr'
 run:(lF n ops fr o.guard= .y∧mz G n fr (iB o.op)=some q.xs∧Cl P G o.op q)∨(lF n ops fr o.guard= .n∧q.k= .s∧q.v= .dg []∧q.ha=q.hb)
theorem OS (L:Good P G ih) (M:j8 P G X) (J:iJ P) (O:∀ f args h v C,ih (.cl f args h)= .rv v C→∃ fn c,P.funcs[f]? =some fn∧fn.body=some c) {I:Bool} {o:Op} {xs:List AV} {h:Hp} {q:Rec} (A:AM P G X ih I o xs h=some q):q.xs=xs∧q.hb=h∧Cl P G o q:=by
 unfold AM at A;split at A
 · rename_i v hp; cases A; exact ⟨rfl,rfl,.p rfl hp rfl⟩
 · split at A
   · rename_i v E; cases A; exact ⟨rfl,rfl,.l rfl E rfl⟩
   · split at A
     · rename_i e _ _;split at A
       · rename_i l E;split at A
         · rename_i C hn; cases A; exact ⟨rfl,rfl,.a e l rfl rfl E hn rfl⟩
         · cases A
       · cases A
     · split at A
       · rename_i v C U; cases A; exact ⟨rfl,rfl,.c rfl (FP L M J O U)⟩
       · cases A
theorem Cl.nx {o:Op} {q:Rec} (h:Cl P G o q):q.hb.nx≤q.ha.nx:=by
 cases h with
 | p _ _ h=>rw [h]; exact bf _
 | l _ _ h=>rw [h]; exact bf _
 | a e l _ _ _ h _=>have :=mo h; omega
 | c _ h=>exact h.1
theorem qH.nx {ops:List aO} {o:aO} {q:Rec} {fr E:Tr AV} {h C:Hp} (A:qH P G n ops o q fr E h C):h.nx≤C.nx:=by
 rw [← A.hb,← A.ha];rcases A.run with ⟨_,_,h⟩ | ⟨_,_,_,h⟩
 · exact h.nx
 · rw [h]; exact bf _
theorem Gh (ac:Good P G ih) (ad:j8 P G X) (ab:iJ P) (ae:∀ f args h v al,ih (.cl f args h)= .rv v al→∃ fn c,P.funcs[f]? =some fn∧fn.body=some c) {ops:List aO} {aa:List Nat} :∀ {l:List aO} {i:Nat} {last:Option Nat} {fr C:Tr AV} {h E:Hp} {rs:List Rec},nv P G X ih n ops aa i last l fr h=some (rs,C,E)→
 ∃ (F:Nat→Tr AV) (H:Nat→Hp),F 0=fr∧H 0=h∧F l.length=C∧H l.length=E∧rs.length=l.length∧∀ k o q,l[k]? =some o→rs[k]? =some q→qH P G n ops o q (F k) (F<|k+1) (H k) (H<|k+1)
 | [],i,last,fr,C,h,E,rs,hr=>by
   simp only [nv,bR,kF] at hr;obtain ⟨rfl,rfl,rfl⟩:=hr;exact ⟨fun _=>fr,fun _=>h,U,U,U,U,U,fun k o q I=>by simp at I⟩
 | o::l,i,last,fr,C,h,E,rs,hr=>by
   have key:∀ (q:Rec) (A:Tr AV) (j:Nat) (la:Option Nat) (kX:List Rec),qH P G n ops o q fr A h q.ha→nv P G X ih n ops aa j la l A q.ha=some (kX,C,E)→rs=q::kX→
    ∃ (F:Nat→Tr AV) (H:Nat→Hp),F 0=fr∧H 0=h∧F (o::l).length=C∧H (o::l).length=E∧rs.length=(o::l).length∧∀ k M q,(o::l)[k]? =some M→rs[k]? =some q→qH P G n ops M q (F k) (F<|k+1) (H k) (H<|k+1):=by
    intro q A j la kX ar L ag;obtain ⟨F,H,am,O,an,ao,ap,aq⟩:=Gh ac ad ab ae L;refine ⟨fun k=>match k with | 0=>fr | k+1=>F k,fun k=>match k with | 0=>h | k+1=>H k,U,U,an,ao,by rw [ag]; simp [ap],fun k M q' I J=> ?_⟩;subst ag;cases k with
    | zero=>
      simp only [jB,bR] at I J;subst I; subst J;simp only [am,O]; exact ar
    | succ k=>exact aq k M q' (by simpa using I)<|by simpa using J
   simp only [nv] at hr;split at hr
   · rename_i V;split at hr
     · rename_i xs au;split at hr
       · rename_i q J;split at hr
         · rename_i A Z;split at hr
           · rename_i kX ak O L;cases hr;obtain ⟨ah,ai,aj⟩:=OS ac ad ab ae J;exact key q A _ _ kX ⟨ai,U,Z,.inl ⟨V,by rw [ah]; exact au,aj⟩⟩ L U
           · cases hr
         · cases hr
       · cases hr
     · cases hr
   · rename_i V;split at hr
     · rename_i A Z;split at hr
       · rename_i kX ak O L;cases hr;exact key ⟨.s,[],.dg [],h,h⟩ A _ _ kX ⟨U,U,Z,.inr ⟨V,U,U,U⟩⟩ L U
       · cases hr
     · cases hr
   · cases hr
structure Sq (P:av) (G n:Nat) (ops:List aO) (rs:List Rec) (F:Nat→Tr AV) (H:Nat→Hp):Prop where
 len:rs.length=ops.length
 line:∀ k o q,ops[k]? =some o→rs[k]? =some q→qH P G n ops o q (F k) (F<|k+1) (H k) (H<|k+1)
 pair:∀ i j oi oj,ops[i]? =some oi→ops[j]? =some oj→j < i→yN ops (jP ops []) i j oi oj
 LW:∀ i o,ops[i]? =some o→∀ e∈o.after.toList,eQ .any e=true→e.on < i
theorem GI {fr C:Tr AV} {d:Option Nat} {v:AV} (A:ic n fr d v=some C) (t:Nat):ee C t=if d=some t then v else ee fr t:=by
 cases d with
 | none=>simp only [ic,bR] at A; subst A; simp
 | some d=>
   simp only [ic] at A;replace A:=bG A; obtain ⟨E,A⟩:=A;simp only [bP] at E;cases A;simp only [ee,Tr.n9 _ _ _ _ E.2,bR];by_cases e:t=d
   · subst e; simp
   · rw [if_neg e,if_neg (fun x=>e x.symm)]
variable {ops:List aO} {rs:List Rec} {F:Nat→Tr AV} {H:Nat→Hp}
theorem Sq.get (s:Sq P G n ops rs F H) {i:Nat} {o:aO} (A:ops[i]? =some o):∃ q,rs[i]? =some q:=by
 have :=(dt.1 A).1;exact ⟨rs[i]'(by rw [s.len]; exact this),cr _⟩
theorem Sq.get' (s:Sq P G n ops rs F H) {i:Nat} {q:Rec} (A:rs[i]? =some q):∃ o,ops[i]? =some o:=by
 have :=(dt.1 A).1;exact ⟨ops[i]'(by rw [← s.len]; exact this),cr _⟩
theorem Sq.slot (s:Sq P G n ops rs F H) (t:Nat):∀ k,k≤ops.length→(∃ j o q,j < k∧ops[j]? =some o∧o.dst=some t∧rs[j]? =some q∧ee (F k) t=q.v)∨((∀ j o,j < k→ops[j]? =some o→o.dst≠some t)∧ee (F k) t=ee (F 0) t)
 | 0,_=> .inr ⟨fun j o h=>by omega,rfl⟩
 | k+1,hk=>by
   have A:ops[k]? =some (ops[k]'ag):=cr _;generalize ops[k]'ag=o at A;obtain ⟨q,M⟩:=s.get A;have Z:=s.line k o q A M;rw [GI Z.set t];by_cases e:o.dst=some t
   · rw [if_pos e]; exact .inl ⟨k,o,q,oU _,A,e,M,rfl⟩
   · rw [if_neg e];rcases s.slot t k ag with ⟨j,J,q',L,C,O,U,V⟩ | ⟨L,C⟩
     · exact .inl ⟨j,J,q',ag,C,O,U,V⟩
     · refine .inr ⟨fun j J E I=> ?_,C⟩;rcases JA.1 E with E | rfl
       · exact L j J E I
       · rw [A] at I; cases I; exact e
def o7 (ops:List aO) (rs:List Rec) (f0:Tr AV) (Y:Nat→Prop) (fx:Tr AV):Prop := ∀ t,(∃ j o q,Y j∧ops[j]? =some o∧o.dst=some t∧rs[j]? =some q∧ee fx t=q.v)∨((∀ j o,Y j→ops[j]? =some o→o.dst≠some t)∧ee fx t=ee f0 t)
theorem o7.set {f0 fx L:Tr AV} {Y:Nat→Prop} (U:o7 ops rs f0 Y fx) {i:Nat} {o:aO} {q:Rec} (M:ops[i]? =some o) (O:rs[i]? =some q) (h:ic n fx o.dst q.v=some L):o7 ops rs f0 (fun j=>Y j∨j=i) L:=by
 intro t;rw [GI h t];by_cases e:o.dst=some t
 · rw [if_pos e]; exact .inl ⟨i,o,q,.inr rfl,M,e,O,rfl⟩
 · rw [if_neg e];rcases U t with ⟨j,J,q',A,C⟩ | ⟨A,C⟩
   · exact .inl ⟨j,J,q',.inl A,C⟩
   · refine .inr ⟨fun j J E I=> ?_,C⟩;rcases E with E | rfl
     · exact A j J E I
     · rw [M] at I; cases I; exact e
theorem PI {fr C:Tr AV} {d:Option Nat} {v:AV} (A:ic n fr d v=some C) (fx:Tr AV):∃ E,ic n fx d v=some E:=by
 cases d with
 | none=>exact ⟨fx,rfl⟩
 | some d=>
   simp only [ic] at A ⊢;replace A:=bG A; obtain ⟨I,A⟩:=A;rw [I]; exact ⟨_,rfl⟩
theorem Sq.agree (s:Sq P G n ops rs F H) {Y:Nat→Prop} (ab:qE ops Y) {i:Nat} {o:aO} (O:ops[i]? =some o) (hi:¬Y i) (hr:qE ops (fun j=>Y j∨j=i)) {fx:Tr AV} (U:o7 ops rs (F 0) Y fx) {t:Nat} (V:t∈rP ops o):ee fx t=ee (F i) t:=by
 have ad:=(dt.1 O).1;rcases s.slot t i ag with ⟨j,L,ae,M,E,J,Z,aa⟩ | ⟨M,E⟩
 · have hp:=s.pair i j o L O E M;have ac:Y j:=by
    rcases hp.ap with hb | ⟨hb,_⟩
    · rcases (tj hr hb).2 (.inr rfl) with h | h
      · exact h
      · omega
    · exact absurd V<|hb t J
   rcases U t with ⟨A,I,q',g1,g2,g3,g4,g5⟩ | ⟨g1,g2⟩
   · have :A=j:=by
      rcases u6 A j with C | he | C
      · exact absurd g3<|(s.pair j A L I E g2 C).ne t J
      · exact he
      · exact absurd J<|(s.pair A j I L g2 E C).ne t g3
     subst this;rw [Z] at g4; cases g4;rw [g5,aa]
   · exact absurd J<|g1 j L ac E
 · rcases U t with ⟨A,I,q',g1,g2,g3,g4,g5⟩ | ⟨g1,g2⟩
   · exfalso;rcases u6 A i with C | he | C
     · exact M A I C g2 g3
     · subst he; exact hi g1
     · rcases (s.pair A i I o g2 O C).ap with hb | ⟨_,hb⟩
       · exact hi<|(tj ab hb).2 g1
       · exact hb t g3 V
   · rw [g2,E]
theorem Ot {fr fx:Tr AV} {x:bu} (h:∀ t,x= .tmp t→ee fx t=ee fr t):my G n fx x=my G n fr x:=by
 cases x with
 | tmp t=>simp only [my,h t rfl]
 | const v=>rfl
 | func f=>rfl
 | global g=>rfl
theorem FM {fr fx:Tr AV} :∀ {l:List bu},(∀ t∈sd l,ee fx t=ee fr t)→mz G n fx l=mz G n fr l
 | [],_=>rfl
 | x::l,h=>by
   simp only [mz];rw [Ot (fr:=fr) (fx:=fx) fun t e=>h t (by subst e; simp [sd]),FM (fr:=fr) (fx:=fx) (l:=l) fun t A=>h t (by cases x <;> simp [sd,A])]
theorem MC {fr fx:Tr AV} {g:Option (Nat×Bool)} (h:∀ t∈zP ops g,ee fx t=ee fr t):lF n ops fx g=lF n ops fr g:=by
 unfold lF;cases g with
 | none=>rfl
 | some p=>
   obtain ⟨j,want⟩:=p;simp only;cases hj:ops[j]? with
   | none=>rfl
   | some q=>
     simp only;cases hd:q.dst with
     | none=>rfl
     | some t=>
       simp only;rw [h t (by simp [zP,hj,hd])]
theorem Sq.done (s:Sq P G n ops rs F H) {Y:Nat→Prop} (Z:∀ j,j < ops.length→Y j) {fx:Tr AV} (O:o7 ops rs (F 0) Y fx) (t:Nat):ee fx t=ee (F ops.length) t:=by
 rcases s.slot t ops.length (bf _) with ⟨j,M,aa,I,C,J,U,V⟩ | ⟨I,C⟩
 · rcases O t with ⟨A,E,q',g1,g2,g3,g4,g5⟩ | ⟨g1,g2⟩
   · have :A=j:=by
      rcases u6 A j with L | he | L
      · exact absurd g3<|(s.pair j A M E C g2 L).ne t J
      · exact he
      · exact absurd J<|(s.pair A j E M g2 C L).ne t g3
     subst this;rw [U] at g4; cases g4;rw [g5,V]
   · exact absurd J<|g1 j M (Z j I) C
 · rcases O t with ⟨A,E,q',g1,g2,g3,g4,g5⟩ | ⟨g1,g2⟩
   · exact absurd g3<|I A E (dt.1 g2).1 g2
   · rw [g2,C]
theorem Sq.mono (s:Sq P G n ops rs F H) {i:Nat} :∀ {k:Nat},i≤k→k≤ops.length→(H i).nx≤(H k).nx
 | 0,h,_=>by have :i=0:=ag
             subst this; exact bf _
 | k+1,h,hk=>by
   rcases dM k i with E | hle
   · have :i=k+1:=ag;subst this; exact bf _
   · have A:ops[k]? =some (ops[k]'ag):=cr _;obtain ⟨q,C⟩:=s.get A;exact cR (s.mono hle ag) (s.line k _ q A C).nx
theorem JY {e:au} {l:List AV} (ha:vB P e=some l):fD l=true∧∃ us:List ah,(∀ r,bc r l=some us)∧∀ (N:Fm) (σ:Nat→ah) (dst:Option Nat) (ty:au) (pos :String) (af:Array cI) (g:Option (Nat×Bool)) (w:ai),
 (execOp (ev N σ) ⟨dst,.alloc e,ty,pos,af,g⟩).run P w= .ok (.value<|.pointer<|some ⟨w.heap.size,0,none⟩) {w with heap:=w.heap.push<|.cells us.toArray e (0,0)} :=by
 unfold vB at ha;split at ha
 · rename_i J A;split at ha
   · rename_i L E;replace ha:=bG ha; obtain ⟨C,ha⟩:=ha;cases ha;refine ⟨C,J,fun r=>rB (r:=r) (fun v a=>oy 4) E,fun N σ dst ty pos af g w=> ?_⟩;unfold zeroOf at A;simp only [il] at A;obtain ⟨i,hi,zv,I,rfl⟩:=A;simp [execOp,ym,zeroValue,eh hi,I,newVar,newRow]
   · cases ha
 · cases ha
end
end Go.Hb
namespace Go.Hb
section
variable {P:av} {G n T:Nat} {ops:List aO} {rs:List Rec} {F:Nat→Tr AV} {H:Nat→Hp} {r0 r:Rn} {w0 w:ai} {h0:Hp} {Y:Nat→Prop} {lo:Nat}
structure HD (P:av) (G T:Nat) (ops:List aO) (rs:List Rec) (H:Nat→Hp) (r0:Rn) (w0:ai) (h0:Hp) (Y:Nat→Prop) (lo:Nat) (r:Rn) (w:ai):Prop where
 hi:lo≤rs.length
 lc:∀ j q,rs[j]? =some q→q.k= .c→(Y j↔j < lo)
 la:∀ j q,rs[j]? =some q→q.k= .a→j < lo→Y j
 hr:HR P G r 0 (H lo) w
 new:∀ i,(H lo).nx≤i→i < T→r i=none∨∃ j q,Y j∧lo≤j∧rs[j]? =some q∧q.k= .a∧q.hb.nx=i
 nu:∀ j q,Y j→lo≤j→rs[j]? =some q→q.k= .a→∃ k,r q.hb.nx=some ⟨k,0,0⟩∧w0.heap.size≤k∧(∀ i o q',(H lo).t.get i=some o→r i=some q'→q'.ax≠k)∧
  ∃ e l us,dP q.hb (.cells l e 0 .x)=some q.ha∧(∀ r,bc r l=some us)∧fD l=true∧w.heap[k]? =some (.cells us.toArray e (0,0))
 rJ:∀ j j' q q' x x',Y j→lo≤j→rs[j]? =some q→q.k= .a→Y j'→lo≤j'→rs[j']? =some q'→q'.k= .a→r q.hb.nx=some x→r q'.hb.nx=some x'→x.ax=x'.ax→j=j'
 le:r0.le r
 md:Md (Fr G r0 h0) w0 w
 fC:∀ g,g≤G→∀ k,k < w0.heap.size→Fr g r (H lo) k→Fr g r0 h0 k
 out:∀ i,(H ops.length).nx≤i→r i=r0 i
theorem Sq.fresh (s:Sq P G n ops rs F H) {j:Nat} {q:Rec} (E:rs[j]? =some q) (C:q.k= .a):q.hb=H j∧q.ha=H (j+1)∧(H<|j+1).nx=(H j).nx+1:=by
 obtain ⟨o,I⟩:=s.get' E;have A:=s.line j o q I E;refine ⟨A.hb,A.ha,?_⟩;rw [← A.hb,← A.ha];rcases A.run with ⟨_,_,h⟩ | ⟨_,h,_,_⟩
 · cases h with
   | p h _ _=>rw [C] at h; cases h
   | l h _ _=>rw [C] at h; cases h
   | a e l _ _ _ h _=>exact mo h
   | c h _=>rw [C] at h; cases h
 · rw [C] at h; cases h
theorem Sq.alt (s:Sq P G n ops rs F H) {j i:Nat} {q q':Rec} (J:rs[j]? =some q) (E:q.k= .a) (A:rs[i]? =some q') (I:q'.k= .a) (O:j < i):q.hb.nx < q'.hb.nx:=by
 obtain ⟨C,L,M⟩:=s.fresh J E;obtain ⟨g1,g2,g3⟩:=s.fresh A I;have :=s.mono (i:=j+1) (k:=i) ag<|by have :=(dt.1 A).1; have :=s.len; omega
 rw [C,g1]; omega
theorem Sq.JW (s:Sq P G n ops rs F H) {j i:Nat} {q q':Rec} (E:rs[j]? =some q) (A:q.k= .a) (I:rs[i]? =some q') (C:q'.k= .a) (he:q.hb.nx=q'.hb.nx):j=i:=by
 rcases u6 j i with h | h | h
 · have :=s.alt E A I C h; omega
 · exact h
 · have :=s.alt I C E A h; omega
theorem HD.Br (C:HD P G T ops rs H r0 w0 h0 Y lo r w) {q:Rec} (M:rs[lo]? =some q) (he:H (lo+1)=H lo) (U:q.k≠.c) (ha:q.k≠.a):HD P G T ops rs H r0 w0 h0 Y (lo+1) r w:=by
 have I:∀ j q',rs[j]? =some q'→(q'.k= .c∨q'.k= .a)→j≠lo:=fun j q' I V e=>by
  subst e; rw [M] at I; cases I;rcases V with h | h
  · exact U h
  · exact ha h
 refine ⟨(dt.1 M).1,fun j q' A E=> ?_,fun j q' A E L=>C.la j q' A E (by have :=I j q' A (.inr E); omega),by rw [he]; exact C.hr,fun i A E=> ?_,fun j q' A E L O=>by rw [he]; exact C.nu j q' A ag L O,fun j Z aa ab x ac J a2 a3 a4 a5 ad=>C.rJ j Z aa ab x ac J ag a3 a4 a5 ag,C.le,C.md,by rw [he]; exact C.fC,C.out⟩
 · rw [C.lc j q' A E]; have :=I j q' A (.inl E); omega
 · rw [he] at A;rcases C.new i A E with h | ⟨j,q',J,a2,a3,a4,a5⟩
   · exact .inl h
   · exact .inr ⟨j,q',J,by have :=I j q' a3 (.inr a4); omega,a3,a4,a5⟩
theorem HD.Q4 (s:Sq P G n ops rs F H) (A:HD P G T ops rs H r0 w0 h0 Y lo r w) {q:Rec} (J:rs[lo]? =some q) (ha:q.k= .a) (U:Y lo):HD P G T ops rs H r0 w0 h0 Y (lo+1) r w:=by
 obtain ⟨f1,f2,f3⟩:=s.fresh J ha;obtain ⟨k,L,ap,ah,e,l,us,hn,ai,C,hw⟩:=A.nu lo q U (bf _) J ha;rw [f1] at L;rw [f1,f2] at hn;unfold dP at hn;replace hn:=bG hn; obtain ⟨M,hn⟩:=hn;simp only [bR] at hn;have aq:(H<|lo+1).nx=(H lo).nx+1:=f3;refine ⟨(dt.1 J).1,fun j q' C E=> ?_,fun j q' C E aa=> ?_,?_,fun i C E=> ?_,fun j q' I a2 a3 a4=> ?_,fun j aj al am x an I a2 a3 a4 a5 ao=>A.rJ j aj al am x an I ag a3 a4 a5 ag,A.le,A.md,?_,A.out⟩
 · rw [A.lc j q' C E];have :j≠lo:=fun e=>by subst e; rw [J] at C; cases C; rw [ha] at E; cases E
   omega
 · rcases JA.1 aa with h | rfl
   · exact A.la j q' C E h
   · exact U
 · rw [← hn];exact A.hr.put (r':=r) (w':=w) (q:=⟨k,0,0⟩) (Rn.le_refl r) M L (by rw [hw]; exact AJ (ai r) C) (fun _ _ _=>rfl) (fun j ak q' _ ac hr=>ah j ak q' ac hr) (nM _) fun _ _ ad=>absurd ad<|yG _
 · rcases A.new i ag E with h | ⟨j,q',I,a2,a3,a4,a5⟩
   · exact .inl h
   · refine .inr ⟨j,q',I,?_,a3,a4,a5⟩;rcases dM lo j with h | h
     · exact h
     · have :j=lo:=ag;subst this;rw [J] at a3; cases a3;rw [f1] at a5; omega
 · obtain ⟨V,g1,g2,g3,g4⟩:=A.nu j q' I ag a3 a4;refine ⟨V,g1,g2,fun i o x hi O=> ?_,g4⟩;rw [← hn] at hi;simp only [Tr.n9 _ _ _ _ M] at hi;split at hi
   · rename_i e; subst e;intro hb;rw [L] at O; cases O;have :=A.rJ lo j q q' _ _ U (bf _) J ha I ag a3 a4 (by rw [f1]; exact L) g1 hb;omega
   · exact g3 i o x hi O
 · intro g ab V ae Z;rw [← hn] at Z;rcases Fr.set M L (Rn.le_refl r) A.hr Z with h | h
   · simp only at h; omega
   · exact A.fC g ab V ae h
theorem HD.up (s:Sq P G n ops rs F H) (I:HD P G T ops rs H r0 w0 h0 Y lo r w) {q:Rec} (A:rs[lo]? =some q) (E:q.k≠.c) (ha:q.k= .a→Y lo):HD P G T ops rs H r0 w0 h0 Y (lo+1) r w:=by
 obtain ⟨o,L⟩:=s.get' A;have J:=s.line lo o q L A;have same:q.ha=q.hb→H (lo+1)=H lo:=fun h=>by rw [← J.hb,← J.ha,h]
 rcases J.run with ⟨_,_,h⟩ | ⟨_,h,_,C⟩
 · cases h with
   | p h _ C=>exact I.Br A (same C) E<|by rw [h]; intro h; cases h
   | l h _ C=>exact I.Br A (same C) E<|by rw [h]; intro h; cases h
   | a e l h _ _ _ _=>exact I.Q4 s A h<|ha h
   | c h _=>exact absurd h E
 · exact I.Br A (same C) E<|by rw [h]; intro h; cases h
theorem HD.Bs (s:Sq P G n ops rs F H) (A:HD P G T ops rs H r0 w0 h0 Y lo r w):∀ (i:Nat),lo≤i→i≤rs.length→(∀ j q,lo≤j→j < i→rs[j]? =some q→q.k≠.c∧(q.k= .a→Y j))→HD P G T ops rs H r0 w0 h0 Y i r w
 | 0,h,_,_=>by have :lo=0:=ag
               subst this; exact A
 | i+1,h,hi,hall=>by
   rcases dM i lo with I | hle
   · have :lo=i+1:=ag;subst this; exact A
   · have E:=HD.Bs s A i hle ag fun j q a b c=>hall j q a ag c;have C:rs[i]? =some (rs[i]'ag):=cr _;exact E.up s C (hall i _ hle (oU _) C).1 (hall i _ hle (oU _) C).2
theorem HD.skip (A:HD P G T ops rs H r0 w0 h0 Y lo r w) {i:Nat} {q:Rec} (ad:rs[i]? =some q) (ab:q.k≠.c) (ha:q.k≠.a):HD P G T ops rs H r0 w0 h0 (fun j=>Y j∨j=i) lo r w:=by
 have C:∀ j q',rs[j]? =some q'→(q'.k= .c∨q'.k= .a)→(Y j∨j=i)→Y j:=fun j q' C ac ae=>by
  rcases ae with h | rfl
  · exact h
  · rw [ad] at C; cases C;rcases ac with h | h
    · exact absurd h ab
    · exact absurd h ha
 refine ⟨A.hi,fun j q' E I=> ?_,fun j q' E I aa=> .inl (A.la j q' E I aa),A.hr,fun i E I=> ?_,fun j q' J a2 a3 a4=>A.nu j q' (C j q' a3 (.inr a4) J) a2 a3 a4,fun j O U V x ag J a2 a3 a4 a5 Z L M=>A.rJ j O U V x ag (C j U a3 (.inr a4) J) a2 a3 a4 (C O V L (.inr M) a5) Z L M,A.le,A.md,A.fC,A.out⟩
 · rw [← A.lc j q' E I]; exact ⟨C j q' E (.inl I),.inl⟩
 · rcases A.new i E I with h | ⟨j,q',J,a2⟩
   · exact .inl h
   · exact .inr ⟨j,q',.inl J,a2⟩
theorem HR.grow {h:Hp} {r':Rn} {w':ai} (hr:HR P G r 0 h w) (hle:r.le r') (hw:∀ k,k < w.heap.size→w'.heap[k]? =w.heap[k]?):HR P G r' 0 h w':=by
 refine ⟨fun i o hi=> ?_,fun i j o I q q' hi E A C he=> ?_,fun i _ h=>absurd h (yG _),hr.gZ.le hle,hr.base⟩
 · obtain ⟨q,A,C⟩:=hr.live i o hi;refine ⟨q,hle _ _ A,?_⟩;rw [hw _ (hr.lt hi A)];exact C.le hle
 · obtain ⟨x,g1,_⟩:=hr.live i o hi;obtain ⟨J,g2,_⟩:=hr.live j I E;rw [hle _ _ g1] at A; cases A;rw [hle _ _ g2] at C; cases C;exact hr.inj i j o I _ _ hi E g1 g2 he
theorem HD.early (s:Sq P G n ops rs F H) (A:HD P G T ops rs H r0 w0 h0 Y lo r w) (hT:(H ops.length).nx≤T) {i:Nat} {q:Rec} {e:au} {l:List AV} {us:List ah} (E:rs[i]? =some q) (J:q.k= .a) (ap:¬Y i) (hn:dP q.hb (.cells l e 0 .x)=some q.ha) (aD:∀ r,bc r l=some us) (aj:fD l=true):
 r.le (r.ext q.hb.nx ⟨w.heap.size,0,0⟩)∧HD P G T ops rs H r0 w0 h0 (fun j=>Y j∨j=i) lo (r.ext q.hb.nx ⟨w.heap.size,0,0⟩) {w with heap:=w.heap.push<|.cells us.toArray e (0,0)} :=by
 obtain ⟨f1,f2,f3⟩:=s.fresh E J;have aC:i < ops.length:=by rw [← s.len]; exact (dt.1 E).1
 have ar:lo≤i:=by
  rcases dM i lo with h | h
  · exact absurd (A.la i q E J h) ap
  · exact h
 have m1:=s.mono ar<|Nat.le_of_lt aC;have aE:=s.mono (i:=i+1) (k:=ops.length) ag<|bf _;have az:r q.hb.nx=none:=by
  rw [f1];rcases A.new (H i).nx m1 ag with h | ⟨j,q',C,a2,a3,a4,a5⟩
  · exact h
  · have :=s.JW a3 a4 E J<|by rw [a5,f1]
    subst this; exact absurd C ap
 have hle:=Rn.tN (r:=r) (i:=q.hb.nx) ⟨w.heap.size,0,0⟩ az;have aq:∀ k,k < w.heap.size→({w with heap:=w.heap.push<|.cells us.toArray e (0,0)} :ai).heap[k]? =w.heap[k]? :=fun k J=>by
  simp only [ye]; rw [if_neg ag]
 have live:∀ j o x,(H lo).t.get j=some o→(r.ext q.hb.nx ⟨w.heap.size,0,0⟩) j=some x→r j=some x:=fun j o x aj ao=>by
  obtain ⟨Z,g1,_⟩:=A.hr.live j o aj;rw [hle _ _ g1] at ao; cases ao; exact g1
 refine ⟨hle,A.hi,fun j q' g1 g2=> ?_,fun j q' g1 g2 g3=> .inl (A.la j q' g1 g2 g3),A.hr.grow hle aq,fun V g1 g2=> ?_,fun j q' C a2 a3 a4=> ?_,fun j al I am x Z C a2 a3 a4 a5 aa L ab ac O ad=> ?_,Rn.le_trans A.le hle,Md.trans' A.md (N0 w _ fun _=>False) (fun _ _ h=>h.elim),fun g aA k J ay=> ?_,fun V aB=> ?_⟩
 · rw [← A.lc j q' g1 g2];refine ⟨fun h=> ?_,.inl⟩;rcases h with h | rfl
   · exact h
   · rw [E] at g1; cases g1; rw [J] at g2; cases g2
 · by_cases he:V=q.hb.nx
   · exact .inr ⟨i,q,.inr U,ar,E,J,he.symm⟩
   · rw [Rn.lE _ _ he];rcases A.new V g1 g2 with h | ⟨j,q',C,a2⟩
     · exact .inl h
     · exact .inr ⟨j,q',.inl C,a2⟩
 · rcases C with C | rfl
   · obtain ⟨k,g1,g2,g3,e',av,aw,g4,g5,g6,g7⟩:=A.nu j q' C a2 a3 a4;exact ⟨k,hle _ _ g1,g2,fun i o x hi ak=>g3 i o x hi (live i o x hi ak),e',av,aw,g4,g5,g6,by rw [aq k (cx.1 g7).1]; exact g7⟩
   · rw [E] at a3; cases a3;refine ⟨w.heap.size,Rn.jl _ _ _,A.md.size,fun i o x hi ak=> ?_,e,l,us,hn,aD,aj,by simp⟩;have :=A.hr.lt hi<|live i o x hi ak;omega
 · have fC:∀ j I x,Y j→lo≤j→rs[j]? =some I→I.k= .a→(r.ext q.hb.nx ⟨w.heap.size,0,0⟩) I.hb.nx=some x→r I.hb.nx=some x∧x.ax < w.heap.size:=fun j I x M c2 c3 ae an=>by
    obtain ⟨k,g1,g2,g3,e',av,aw,g4,g5,g6,g7⟩:=A.nu j I M c2 c3 ae;rw [hle _ _ g1] at an; cases an;exact ⟨g1,(cx.1 g7).1⟩
   rcases C with C | rfl
   · obtain ⟨M,c2⟩:=fC j I x C a2 a3 a4 ac;rcases a5 with a5 | rfl
     · obtain ⟨d1,d2⟩:=fC al am Z a5 aa L ab O;exact A.rJ j al I am x Z C a2 a3 a4 a5 aa L ab M d1 ad
     · rw [E] at L; cases L;rw [Rn.jl] at O; cases O;simp only at ad; omega
   · rw [E] at a3; cases a3;rw [Rn.jl] at ac; cases ac;rcases a5 with a5 | rfl
     · obtain ⟨d1,d2⟩:=fC al am Z a5 aa L ab O;simp only at ad; omega
     · rfl
 · obtain ⟨j,o,x,M,c2,c3,ae⟩:=ay;exact A.fC g aA k J ⟨j,o,x,M,c2,live j o x c2 c3,ae⟩
 · rw [Rn.lE _ _ (by rw [f1]; omega)]; exact A.out V aB
theorem HD.MO (s:Sq P G n ops rs F H) (A:HD P G T ops rs H r0 w0 h0 Y lo r w) (hT:(H ops.length).nx≤T) {q:Rec} (C:rs[lo]? =some q) (I:q.k= .c):HR P G r (H<|lo+1).nx (H lo) w:=by
 have M:lo < ops.length:=by rw [← s.len]; exact (dt.1 C).1
 have O:=s.mono (i:=lo+1) (k:=ops.length) ag<|bf _;refine ⟨A.hr.live,A.hr.inj,fun i E L=> ?_,A.hr.gZ,A.hr.base⟩;rcases A.new i E ag with h | ⟨j,q',J,a2,a3,a4,a5⟩
 · exact h
 · exfalso;obtain ⟨f1,f2,f3⟩:=s.fresh a3 a4;have :j≠lo:=fun e=>by subst e; rw [C] at a3; cases a3; rw [I] at a4; cases a4
   have :=s.mono (i:=lo+1) (k:=j) ag<|by have :=(dt.1 a3).1; have :=s.len; omega
   rw [f1] at a5; omega
theorem HD.QL (s:Sq P G n ops rs F H) (A:HD P G T ops rs H r0 w0 h0 Y lo r w) {q:Rec} (ad:rs[lo]? =some q) (E:q.k= .c) {r':Rn} {w':ai} (st:St P G (H<|lo+1).nx r (H lo) w r' (H<|lo+1) w'):HD P G T ops rs H r0 w0 h0 (fun j=>Y j∨j=lo) (lo+1) r' w':=by
 have aw:lo < ops.length:=by rw [← s.len]; exact (dt.1 ad).1
 have aq:=s.mono (i:=lo+1) (k:=ops.length) ag<|bf _;have ac:∀ j q',rs[j]? =some q'→q'.k= .a→j≠lo:=fun j q' M O e=>by subst e; rw [ad] at M; cases M; rw [E] at O; cases O
 have I:∀ j q',rs[j]? =some q'→q'.k= .a→(Y j∨j=lo)→Y j:=fun j q' M O am=>am.resolve_right<|ac j q' M O;refine ⟨(dt.1 ad).1,fun j q' g1 g2=> ?_,fun j q' g1 g2 g3=> ?_,⟨st.hr.live,st.hr.inj,fun i _ h=>absurd h (yG _),st.hr.gZ,st.hr.base⟩,fun i g1 g2=> ?_,fun j q' C a2 a3 a4=> ?_,fun j U V Z x az C a2 a3 a4 a5 av J L ae ah al=> ?_,Rn.le_trans A.le st.le,Md.trans' A.md st.md (fun k E ab=>A.fC G (bf _) k E ab),fun g ak k E ab=>A.fC g ak k E (st.fC g ak k (oT E A.md.size) ab),fun i hi=>(st.out i<|cR aq hi).trans<|A.out i hi⟩
 · rw [A.lc j q' g1 g2]; omega
 · have :=ac j q' g1 g2;exact .inl<|A.la j q' g1 g2 ag
 · rw [st.out i g1];rcases A.new i (cR st.nx g1) g2 with h | ⟨j,q',C,a2,a3,a4,a5⟩
   · exact .inl h
   · have :=ac j q' a3 a4;exact .inr ⟨j,q',.inl C,ag,a3,a4,a5⟩
 · obtain ⟨k,g1,g2,g3,e',ap,au,g4,g5,g6,g7⟩:=A.nu j q' (I j q' a3 a4 C) ag a3 a4;have an:=(cx.1 g7).1;refine ⟨k,st.le _ _ g1,g2,fun i o x hi ao hb=> ?_,e',ap,au,g4,g5,g6,st.md.ax g7 fun ⟨i,o,x,_,c2,c3,aa⟩=>g3 i o x c2 c3 aa⟩;obtain ⟨i2,ar,x2,_,c2,c3,aa⟩:=st.fC 0 (sU _) k an ⟨i,o,x,sU _,hi,ao,hb⟩;exact g3 i2 ar x2 c2 c3 aa
 · obtain ⟨k,g1,_⟩:=A.nu j V (I j V a3 a4 C) ag a3 a4;obtain ⟨ay,aj,_⟩:=A.nu U Z (I U Z J L a5) ag J L;rw [st.le _ _ g1] at ae; cases ae;rw [st.le _ _ aj] at ah; cases ah;exact A.rJ j U V Z _ _ (I j V a3 a4 C) ag a3 a4 (I U Z J L a5) ag J L g1 aj al
theorem HD.done (s:Sq P G n ops rs F H) (E:HD P G T ops rs H r0 w0 (H 0) Y lo r w) (hT:(H ops.length).nx≤T) (J:∀ j,j < ops.length→Y j):St P G T r0 (H 0) w0 r (H ops.length) w:=by
 have A:=E.Bs s ops.length (by have :=E.hi; rw [s.len] at this; exact this) (by rw [s.len]; exact bf _) fun j q I C L=>⟨fun M=>by have :=(E.lc j q L M).1 (J j C); omega,fun _=>J j C⟩
 refine ⟨A.le,⟨A.hr.live,A.hr.inj,fun i I C=> ?_,A.hr.gZ,A.hr.base⟩,s.mono (sU _) (bf _),A.md,A.fC,A.out⟩;rcases A.new i I C with h | ⟨j,q',O,a2,a3,a4,a5⟩
 · exact h
 · have :=(dt.1 a3).1; have :=s.len; omega
theorem HD.start (s:Sq P G n ops rs F H) (hr:HR P G r0 T (H 0) w0) (A:∀ j,¬Y j):HD P G T ops rs H r0 w0 (H 0) Y 0 r0 w0:=
 ⟨sU _,fun j q _ _=>⟨fun h=>absurd h (A j),fun h=>by omega⟩,fun j q _ _ h=>by omega,⟨hr.live,hr.inj,fun i _ h=>absurd h (yG _),hr.gZ,hr.base⟩,fun i C E=> .inl (hr.new i C E),fun j q h=>absurd h (A j),fun j I q q' x J h=>absurd h (A j),Rn.le_refl _,Md.refl _ _,fun _ _ _ _ h=>h,fun _ _=>rfl⟩
end
end Go.Hb
namespace Go.Hb
section
variable {P:av} {G n T:Nat} {ops:List aO} {rs:List Rec} {F:Nat→Tr AV} {H:Nat→Hp}
def Yl (listed:Array Bool) (j:Nat):Prop :=listed[j]? =some true
theorem JQ {listed:Array Bool} {i:Nat} (hi:i < listed.size):Yl (listed.setIfInBounds i true)=fun j=>Yl listed j∨j=i:=by
 funext j;apply propext;unfold Yl;rw [uF];by_cases e:i=j
 · subst e; simp [hi]
 · rw [if_neg e];exact ⟨.inl,fun h=>h.resolve_right fun x=>e x.symm⟩
theorem filter_le {p p':Nat→Bool} (h:∀ j,p' j=true→p j=true):∀ l:List Nat,(l.filter p').length≤(l.filter p).length
 | []=>bf _
 | a::l=>by
   have :=filter_le h l;simp only [uS];cases hp:p' a
   · cases p a
     · simpa using this
     · simp only [if_true,uH,if_false,cg]; omega
   · rw [h a hp]; simp only [if_true,cg]; omega
theorem filter_lt {p p':Nat→Bool} (h:∀ j,p' j=true→p j=true) {i:Nat} (hp:p i=true) (A:p' i=false):∀ {l:List Nat},i∈l→(l.filter p').length < (l.filter p).length
 | a::l,hm=>by
   simp only [uS];rcases ej.1 hm with rfl | hm
   · rw [hp,A];have :=filter_le h l;simp only [if_true,uH,if_false,cg]; omega
   · have :=filter_lt h hp A hm;cases hq:p' a
     · cases p a
       · simpa using this
       · simp only [if_true,uH,if_false,cg]; omega
     · rw [h a hq]; simp only [if_true,cg]; omega
def un (m:Nat) (listed:Array Bool):Nat:=((nL m).filter fun i=> !listed.getD i true).length
theorem QS {m:Nat} {listed:Array Bool} {i:Nat} (hm:i < m) (hi:listed[i]? =some false):un m (listed.setIfInBounds i true) < un m listed:=by
 have C:=(cx.1 hi).1;refine filter_lt (i:=i) (fun j A=> ?_) ?_ ?_ (Jm.2 hm)
 · simp only [mI] at A ⊢;rw [ky,uF] at A;rw [ky];by_cases e:i=j
   · subst e; rw [if_pos rfl,if_pos C] at A; simp at A
   · rw [if_neg e] at A; exact A
 · simp [ky,hi]
 · simp [ky,C]
theorem OQ {listed:Array Bool} {i:Nat} (L:listed.size=ops.length) (h:i∈fH .any ops.toArray listed):∃ o,ops[i]? =some o∧listed[i]? =some false∧∀ e∈o.after.toList,eQ .any e=true→Yl listed e.on:=by
 unfold fH at h;rw [yy] at h;obtain ⟨J,A⟩:=h;simp only [Jm,fS] at J;simp only [bP,mI,nJ] at A;have C:ops[i]? =some ops[i]:=cr _;generalize ops[i]=o at C;rw [C] at A;simp only [fg,jD] at A;have I:listed[i]? =some (listed[i]'ag):=qe _;refine ⟨o,C,?_,fun e he hb=> ?_⟩
 · have :=A.1;rw [ky,I] at this;rw [I]; simp at this; rw [this]
 · have E:=A.2;rw [Ih] at E;have :=E e<|by simpa using he
   rw [hb] at this;simp only [Bool.not_true,Bool.false_or] at this;unfold Yl;rw [ky] at this;cases hx:listed[e.on]? with
   | none=>rw [hx] at this; simp at this
   | some b=>rw [hx] at this; simp at this; rw [this]
theorem Gg (s:Sq P G n ops rs F H) {listed:Array Bool} (J:listed.size=ops.length) (h:fH .any ops.toArray listed= []):∀ j,j < ops.length→Yl listed j:=by
 intro j
 induction j using Nat.strongRecOn with
 | ind j ih=>
   intro E;have C:listed[j]? =some (listed[j]'ag):=qe _;cases hb:listed[j]'ag with
   | true =>unfold Yl; rw [C,hb]
   | false =>
     exfalso;have A:ops[j]? =some ops[j]:=cr _;generalize ops[j]=o at A;have :j∈fH .any ops.toArray listed:=by
      unfold fH;rw [yy];refine ⟨by simpa using E,?_⟩;simp only [bP,mI,nJ,A,fg,jD];refine ⟨by rw [ky,C,hb]; rfl,?_⟩;rw [Ih];intro e he;cases hbd:eQ .any e
      · simp
      · have I:=s.LW j o A e (by simpa using he) hbd;have :=ih e.on I ag;unfold Yl at this;rw [ky,this]; simp
     rw [h] at this; cases this
variable {r0:Rn} {w0:ai} {rr:Option Nat} {Dl:List Deferred} {Q:bM→Act→ai→Prop}
theorem LQ (s:Sq P G n ops rs F H) (bc:np P (jP ops []) rs 0 ops rs=true) (hT:(H ops.length).nx≤T) (aD:∀ r w σ,St P G T r0 (H 0) w0 r (H ops.length) w→fJ r n (F ops.length) σ→Q .normal (act ⟨n,Dl,[],rr⟩ σ) w):
 ∀ (fuel:Nat) (listed:Array Bool) (lo:Nat) (fx:Tr AV) (σ:Nat→ah) (r:Rn) (w:ai),listed.size=ops.length→un ops.length listed≤fuel→qE ops (Yl listed)→o7 ops rs (F 0) (Yl listed) fx→HD P G T ops rs H r0 w0 (H 0) (Yl listed) lo r w→
   (lo=0∨∃ j q,lo=j+1∧rs[j]? =some q∧q.k= .c∧Yl listed j)→fJ r n fx σ→wpAnyIn (fe rr) 0 P .any ops.toArray Q fuel listed (act ⟨n,Dl,[],rr⟩ σ) w:=by
 have fin:∀ (listed:Array Bool) (lo:Nat) (fx:Tr AV) (σ:Nat→ah) (r:Rn) (w:ai),(∀ j,j < ops.length→Yl listed j)→o7 ops rs (F 0) (Yl listed) fx→HD P G T ops rs H r0 w0 (H 0) (Yl listed) lo r w→fJ r n fx σ→Q .normal (act ⟨n,Dl,[],rr⟩ σ) w:=by
  intro listed lo fx σ r w aN ac C O;refine aD r w σ (C.done s hT aN) fun i hi=> ?_;rw [← s.done aN ac i];exact O i hi
 intro fuel
 induction fuel with
 | zero=>
   intro listed lo fx σ r w ao aY av ac C aF O;have aV:(nL ops.length).filter (fun i=> !listed.getD i true)= []:=List.length_eq_zero_iff.1<|Nat.le_zero.1 aY;have hr:fH .any ops.toArray listed= []:=by
    unfold fH;rw [List.filter_eq_nil_iff] at aV ⊢;intro a ha;have :=aV a<|by simpa using ha
    simp only [mI,Bool.not_eq_false,bP,not_and] at this ⊢;intro h; rw [this] at h; cases h
   exact ⟨hr,fin listed lo fx σ r w (Gg s ao hr) ac C O⟩
 | succ fuel ih=>
   intro listed lo fx σ r w ao aY av ac C aF O;refine ⟨fun hr=>fin listed lo fx σ r w (Gg s ao hr) ac C O,fun i hi=> ?_⟩;obtain ⟨o,aa,aU,a5⟩:=OQ ao hi;have a7:=(dt.1 aa).1;have an:¬Yl listed i:=fun h=>by unfold Yl at h; rw [aU] at h; cases h
   obtain ⟨q,L⟩:=s.get aa;have aj:=s.line i o q aa L;have aw:qE ops (fun j=>Yl listed j∨j=i):=by
    intro j ar al ab e he hb;rcases al with al | rfl
    · exact .inl<|av j ar al ab e he hb
    · rw [aa] at ab; cases ab; exact .inl<|a5 e he hb
   have au:=JQ (listed:=listed) (i:=i) ag;have bj:(listed.setIfInBounds i true).size=ops.length:=by simpa using ao
   have bm:un ops.length (listed.setIfInBounds i true)≤fuel:=by have :=QS a7 aU; omega
   have aM:∀ t∈rP ops o,ee fx t=ee (F i) t:=fun t ap=>s.agree av aa an aw ac ap;obtain ⟨aZ,aX⟩:=PI aj.set fx;have bi:=ac.set aa L aX;have next :∀ (aq:Nat) (r':Rn) (u:ah) (w':ai),r.le r'→den r' q.v=some u→HD P G T ops rs H r0 w0 (H 0) (fun j=>Yl listed j∨j=i) aq r' w'→(aq=0∨∃ j q,aq=j+1∧rs[j]? =some q∧q.k= .c∧(Yl listed j∨j=i))→
    wpAnyIn (fe rr) 0 P .any ops.toArray Q fuel (listed.setIfInBounds i true) ((act ⟨n,Dl,[],rr⟩ σ).put o.dst u) w':=by
    intro aq r' u w' hle hu aB a8;rw [gk];refine ih _ aq aZ _ r' w' bj bm ?_ ?_ ?_ ?_ (rY aX (O.le hle) hu)
    · rw [au]; exact aw
    · rw [au]; exact bi
    · rw [au]; exact aB
    · rcases a8 with h | ⟨j,q,I,J,Z,ae⟩
      · exact .inl h
      · exact .inr ⟨j,q,I,J,Z,by rw [au]; exact ae⟩
   have ax:lo=0∨∃ j q,lo=j+1∧rs[j]? =some q∧q.k= .c∧(Yl listed j∨j=i):=aF.imp id fun ⟨j,q,I,J,Z,ae⟩=>⟨j,q,I,J,Z,.inl ae⟩
   have aQ:=MC (n:=n) (ops:=ops) (g:=o.guard) (fr:=F i) (fx:=fx) fun t ap=>aM t<|List.mem_append_left _ ap;have bd:=FM (G:=G) (n:=n) (l:=iB o.op) (fr:=F i) (fx:=fx) fun t ap=>aM t<|List.mem_append_right _ ap;have bg:=FK bc;have ay:=bg.2 i o q aa L;rw [du] at ay;show wpOpIn (fe rr) 0 P ops.toArray Q i _ _ w;unfold wpOpIn;rw [nJ,aa];show if _ then _ else _
   rcases aj.run with ⟨aC,bp,M⟩ | ⟨aC,aT,bo,bu⟩
   · rw [if_pos (zO (N:=⟨n,Dl,[],rr⟩) (aQ.trans aC) O)];have az:=xd (N:=⟨n,Dl,[],rr⟩) C.hr.gZ O<|bd.trans bp;have bK:=aj.set;obtain ⟨d,op,ty,pos,af,g⟩:=o;simp only at az M next ay
     cases M with
     | p E V aK=>
       have aH:∀ c,op≠.defer c:=fun c e=>by subst e; simp [pP] at V
       obtain ⟨u,I,J⟩:=FO (N:=⟨n,Dl,[],rr⟩) (dst:=d) (ty:=ty) (pos :=pos) (af:=af) (g:=g) V az;exact xU aH (.inl<|J w)<|next lo r u w (Rn.le_refl r) I (C.skip L (by rw [E]; intro h; cases h)<|by rw [E]; intro h; cases h) ax
     | l E V aK=>
       have aH:∀ c,op≠.defer c:=fun c e=>by subst e; simp [kU] at V
       have aA:=FJ<|ay.1 E;have a9:kU P op q.xs (H lo)=some q.v:=by
        rcases dM i lo with aG | aR
        · rcases aF with h0 | ⟨j,A,I,J,Z,ae⟩
          · omega
          · have am:=(aA j A J).1 Z;rw [du] at am;have aS:¬j < i:=ag;have bv:j≠i:=fun e=>by subst e; exact an ae
            rcases am.2 aS with hb | hb
            · exact absurd ((tj av hb).2 ae) an
            · obtain ⟨ar,ab⟩:=s.get' J;rw [(s.line j ar A ab J).ha,← I] at hb;exact hb
        ·
         have aL:∀ (m:Nat),lo≤m→m≤i→(∀ j A,lo≤j→j < m→rs[j]? =some A→A.k≠.c)→H m=H lo:=by
          intro m
          induction m with
          | zero=>intro h _ _; have :lo=0:=ag
                  subst this; rfl
          | succ m aJ=>
            intro I J Z;rcases dM m lo with aG | hle
            · have :lo=m+1:=ag;subst this; rfl
            · have hm:=aJ hle ag fun j A a b c=>Z j A a ag c;have aW:ops[m]? =some (ops[m]'ag):=cr _;obtain ⟨ak,aI⟩:=s.get aW;have aE:=s.line m _ ak aW aI;have bb:=Z m ak hle (oU _) aI;have ba:ak.k≠.a:=fun ha=>by
               have :=(aA m ak aI).2 ha;omega
              have he:ak.ha=ak.hb:=by
               rcases aE.run with ⟨_,_,M⟩ | ⟨_,_,_,M⟩
               · cases M with
                 | p _ _ h=>exact h
                 | l _ _ h=>exact h
                 | a e l h _ _ _ _=>exact absurd h ba
                 | c h _=>exact absurd h bb
               · exact M
              rw [← aE.ha,he,aE.hb,hm]
         by_cases hex:∃ j A,lo≤j∧j < i∧rs[j]? =some A∧A.k= .c
         ·
          have first :∀ (m:Nat),lo≤m→m≤i→(∃ j A,lo≤j∧j < m∧rs[j]? =some A∧A.k= .c)→∃ j A,lo≤j∧j < i∧rs[j]? =some A∧A.k= .c∧∀ ad q',lo≤ad→ad < j→rs[ad]? =some q'→q'.k≠.c:=by
           intro m
           induction m with
           | zero=>rintro _ _ ⟨j,_,_,h,_⟩; omega
           | succ m aJ=>
             intro I J ⟨j,A,g1,g2,g3,g4⟩;by_cases hex:∃ j A,lo≤j∧j < m∧rs[j]? =some A∧A.k= .c
             · obtain ⟨ad,bt,a0,a1,a2,a3⟩:=hex;exact aJ ag ag ⟨ad,bt,a0,a1,a2,a3⟩
             · refine ⟨j,A,g1,ag,g3,g4,fun ad q' a b c d=>hex ⟨ad,q',a,ag,c,d⟩⟩
          obtain ⟨j,A,g1,g2,g3,g4,g5⟩:=first i aR (bf _) hex
          have am:=(aA j A g3).1 g4;rw [du] at am;rcases am.1 g2 with hb | hb
          · rcases (tj aw hb).2 (.inr rfl) with h | h
            · have :=(C.lc j A g3 g4).1 h; omega
            · omega
          · obtain ⟨ar,ab⟩:=s.get' g3;rw [(s.line j ar A ab g3).hb,aL j g1 ag g5] at hb;exact hb
         · have :=aL i aR (bf _) fun j A a b c d=>hex ⟨j,A,a,b,c,d⟩;rw [← this,← aj.hb]; exact V
       obtain ⟨u,I,J⟩:=FN (N:=⟨n,Dl,[],rr⟩) (dst:=d) (ty:=ty) (pos :=pos) (af:=af) (g:=g) C.hr a9 az;exact xU aH (.inl J)<|next lo r u w (Rn.le_refl r) I (C.skip L (by rw [E]; intro h; cases h)<|by rw [E]; intro h; cases h) ax
     | a e l E V aK bq br=>
       subst V;obtain ⟨I,us,bn,bh⟩:=JY aK;obtain ⟨hle,aB⟩:=C.early s hT L E an bq bn I;refine xU (fun c e=>by cases e) (.inl<|bh ⟨n,Dl,[],rr⟩ σ d ty pos af g w)<|next lo _ _ _ hle ?_ aB ax
       rw [br];simp only [den,Rn.jl,du]
     | c E V=>
       have a4:=FI<|ay.2 E;have aG:lo≤i:=by
        rcases dM i lo with h | h
        · exact absurd ((C.lc i q L E).2 h) an
        · exact h
       have aO:∀ j A,j < i→rs[j]? =some A→(A.k= .c∨A.k= .a)→Yl listed j:=fun j A aS al aD=>by
        have hb:=a4 j A al aD ag;rw [du] at hb;rcases (tj aw hb).2 (.inr rfl) with h | h
        · exact h
        · omega
       have aP:=C.Bs s i aG (by rw [s.len]; omega) fun j A a b c=>⟨fun M=>by have :=(C.lc j A c M).1 (aO j A b c<|.inl M); omega,fun ha=>aO j A b c<|.inr ha⟩
       have a6:=aP.MO s hT L E;obtain ⟨bx,s1⟩:=V;rw [aj.hb,aj.ha] at s1;refine s1 _ r w ⟨n,Dl,[],rr⟩ σ d ty pos af g _ Q (bf _) a6 az fun r' u w' hu bK=> ?_;exact next (i+1) r' u w' bK.le hu (aP.QL s L E bK)<|.inr ⟨i,q,U,L,E,.inr U⟩
   · rw [if_neg (by rw [Et (N:=⟨n,Dl,[],rr⟩) (aQ.trans aC) O]; simp)];refine ⟨fun f _=>mg _ f,next lo r undef w (Rn.le_refl r) (by rw [bo]; exact kf r) (C.skip L (by rw [aT]; intro h; cases h)<|by rw [aT]; intro h; cases h) ax⟩
theorem LO {X:Xt} {ih:Tk→Rs} (ac:Good P G ih) (ad:j8 P G X) (ab:iJ P) (ae:∀ f args h v C,ih (.cl f args h)= .rv v C→∃ fn c,P.funcs[f]? =some fn∧fn.body=some c) (hm:P.follows .mixedOrders=true):yJ P G X ih:=by
 intro rd n id ops fr D h;show match vR P G X ih n ops fr D h with
  | .cd e aa I C=>eI P G rd n (fun rr Q a w=>(Iw id ⟨ops⟩ true).wpIn (fe rr) 0 P Q a w) fr D h e aa I C
  | .no=>True
  | _=>False
 have ai:vR P G X ih n ops fr D h=cond (qP ops (jP ops []) 0 ops) (match nv P G X ih n ops (jP ops []) 0 none ops fr h with
  | some (rs,fr,h)=>cond (np P (jP ops []) rs 0 ops rs) (.cd .cE fr D h) .no
  | none=> .no) .no:=rfl
 rw [ai];cases hc1:qP ops (jP ops []) 0 ops
 · exact trivial
 · rw [cond_true];cases hrec:nv P G X ih n ops (jP ops []) 0 none ops fr h with
   | none=>exact trivial
   | some x=>
     obtain ⟨rs,ap,aq⟩:=x;simp only;cases hok:np P (jP ops []) rs 0 ops rs
     · exact trivial
     · rw [cond_true];obtain ⟨F,H,J,L,M,O,V,Z⟩:=Gh ac ad ab ae hrec;have s:Sq P G n ops rs F H:=⟨V,Z,fun i j an ao hi A ar=>by
        have :=(za hc1 i an hi).2 j ao A ag;rwa [du] at this,fun i o am=>by
        have :=Dw (za hc1 i o am).1;rwa [du] at this⟩
       subst J; subst L; subst M; subst O;refine ⟨s.mono (sU _) (bf _),fun T r w σ Dl rr Q hT hr aj ah au al=> ?_⟩;refine wpIn_region_any hm ?_;have E:∀ j,¬Yl (Array.replicate ops.length false) j:=fun j A=>by
        unfold Yl at A;rw [Array.getElem?_replicate] at A;split at A <;> cases A
       refine LQ s hok hT (r0:=r) (w0:=w.drew) (fun r' w' σ' st ak=>al r' w' σ' Dl st.drew ak<|pf st.le ah) _ _ 0 (F 0) σ r w.drew (by simp) ?_ (fun j o A=>absurd A<|E j) (fun t=> .inr ⟨fun j o A=>absurd A (E j),U⟩) (HD.start s hr.drew E) (.inl U) aj;unfold un;exact cR (List.length_filter_le _ _)<|by simp
theorem Mf {X:Xt} (C:j8 P G X) (A:iJ P) (hm:P.follows .mixedOrders=true) (k:Nat):Good P G (jT P G X k):=D3 C A (fun ih E I=>LO E C A I hm) k
end
end Go.Hb
namespace Go.Hb
section
variable {P:av} {G:Nat} {X:Xt} {w:ai}
theorem RG {f:Nat} (J:∀ v w,(callFunc f #[v]).run P w= .ok (.value v) w) {xs:List AV} {h A:Hp} {v:AV} (he:BE xs h=some (v,A)):h.nx≤A.nx∧∀ (T:Nat) (r:Rn) (w:ai) (us:List ah),A.nx≤T→HR P G r T h w→bc r xs=some us→
 ∃ r' u w',den r' v=some u∧(callFunc f us.toArray).run P w= .ok (.value u) w'∧St P G T r h w r' A w':=by
 unfold BE at he;split at he
 · cases he;refine ⟨bf _,fun T r w us hT hr I=> ?_⟩;obtain ⟨u,L,rfl,C,E⟩:=fy I;obtain rfl :=me E;exact ⟨r,u,w,C,J u w,St.refl hr⟩
 · cases he
theorem EF {c:Nat} (E:c < 256):∀ (l:List UInt8) (i:Nat),tJ c l i=if l.idxOf (gi c) < l.length then mP (i+l.idxOf (gi c)) else -1
 | [],i=>by simp [tJ]
 | b::l,i=>by
   have I:(gi c).toNat=c:=by simp; omega
   simp only [tJ,List.idxOf_cons];cases hb:bC b.toNat c
   · have J:(b==gi c)=false :=by
      cases A:(b==gi c)
      · rfl
      · have :=eq_of_beq A;subst this;rw [I] at hb; simp at hb
     rw [J];simp only [cond_false,cg,EF E l (i+1)];by_cases C:l.idxOf (gi c) < l.length
     · rw [if_pos C,if_pos ag];congr 1; omega
     · rw [if_neg C,if_neg ag]
   · have :=cP hb;have A:(b==gi c)=true :=by
      rw [← this]; simp
     rw [A];simp
theorem RH {f:Nat} (V:∀ l c w,(callFunc f #[str l,.int .u8 (JG c)]).run P w= .ok (.value<|.int .i64<|fA c l) w) {xs:List AV} {h A:Hp} {v:AV} (he:BG xs h=some (v,A)):h.nx≤A.nx∧∀ (T:Nat) (r:Rn) (w:ai) (us:List ah),A.nx≤T→HR P G r T h w→bc r xs=some us→
 ∃ r' u w',den r' v=some u∧(callFunc f us.toArray).run P w= .ok (.value u) w'∧St P G T r h w r' A w':=by
 unfold BG at he;split at he
 · rename_i l c;replace he:=bG he; obtain ⟨C,he⟩:=he;have C:=dk.1 C;split at he
   · rename_i ac hm;cases he;refine ⟨bf _,fun T r w us hT hr U=> ?_⟩;obtain ⟨u,aa,rfl,I,J⟩:=fy U;obtain ⟨Z,ab,rfl,L,M⟩:=fy J;obtain rfl :=me M;obtain rfl :=jk I;obtain rfl :=dF L;have O:(gi c).toNat=c:=by simp; omega
     have E:=V l (gi c) w;rw [O] at E;refine ⟨r,_,w,?_,E,St.refl hr⟩;rw [EF C l 0] at hm;simp only [du] at hm;have :fA (gi c) l=if l.idxOf (gi c) < l.length then mP (l.idxOf<|gi c) else -1:=rfl
     rw [← this] at hm;rw [hH] at hm;cases hm;simp only [den]
   · cases he
 · cases he
def x2 (a b:Nat):Xt:=fun f=>cond (bC f a) (some BE)<|cond (bC f b) (some BG) none
theorem RF {a b:Nat} (C:∀ v w,(callFunc a #[v]).run P w= .ok (.value v) w) (E:∀ l c w,(callFunc b #[str l,.int .u8 (JG c)]).run P w= .ok (.value<|.int .i64<|fA c l) w):j8 P G (x2 a b):=by
 intro f e he xs h v I A;unfold x2 at he;cases ha:bC f a
 · rw [ha] at he;simp only [cond_false] at he;cases hb:bC f b
   · rw [hb] at he; cases he
   · rw [hb] at he;cases he;have :=cP hb;subst this;exact RH E A
 · rw [ha] at he;cases he;have :=cP ha;subst this;exact RG C A
theorem K4 (h:P.funcs.toList.all (fun fn=> !(fn.name== "runtime.NumGoroutine") || fn.body.isNone)=true):iJ P:=by
 intro f fn c A hb;have hm:fn∈P.funcs.toList:=by
  rw [cx] at A;obtain ⟨C,rfl⟩:=A;simp
 have :=List.all_eq_true.1 h fn hm;rw [hb] at this;simp only [Option.isNone_some,Bool.or_false,mI] at this;exact y8 A this<|by rw [hb]; rfl
theorem zx {k f:Nat} {args:List AV} {h A:Hp} {v:AV} (E:j8 P G X) (C:iJ P) (hm:P.follows .mixedOrders=true) (he:jT P G X k (.cl f args h)= .rv v A):Cf P G f args h v A:=by
 have :=Mf E C hm k<|.cl f args h;rw [he] at this;exact this
def sH (G T:Nat) (E:Nat→Nat):List Nat→Tr AO
 | []=> .nil
 | g::l=>(sH G T E l).set g<|.cells [.jU T (.ptr (G+g) 0)] (E g) 0 .x
theorem rW {T:Nat} {E:Nat→Nat} :∀ {l:List Nat},(∀ g∈l,ba g di=true)→∀ {i:Nat} {o:AO},(sH G T E l).get i=some o→i∈l∧o= .cells [.jU T (.ptr (G+i) 0)] (E i) 0 .x
 | [],_,i,o,h=>by simp only [sH] at h; cases h
 | g::l,hl,i,o,h=>by
   simp only [sH] at h;rw [Tr.n9 _ _ _ _ (hl g<|lS)] at h;split at h
   · rename_i e; subst e; cases h; exact ⟨lS,rfl⟩
   · obtain ⟨A,C⟩:=rW (fun g I=>hl g<|mQ _ I) h;exact ⟨mQ _ A,C⟩
def dY (T:Nat) (l:List Nat) (w:ai):Prop := ∀ g,g∈l→∃ (a:Addr) (e:Nat),a.spot=none∧w.heap[g]? =some (.cells #[.iface T (.pointer<|some a)] e (0,0))
theorem dY.mono {T:Nat} {l:List Nat} {w w':ai} {F:Nat→Prop} (h:dY T l w) (hm:Md F w w') (I:∀ g∈l,¬F g):dY T l w':=fun g A=>by
 obtain ⟨a,e,C,E⟩:=h g A;exact ⟨a,e,C,hm.ax E<|I g A⟩
theorem HR.xz {T:Nat} {l:List Nat} (J:∀ g∈l,g < G) (ae:G≤1000) (h:dY T l w):∃ (E:Nat→Nat) (r:Rn),∀ U,HR P G r U ⟨sH G T E l,G+G⟩ w:=by
 classical
 let A:Nat→Addr:=fun g=>if C:g∈l then (h g C).choose else ⟨0,0,none⟩
 let E:Nat→Nat:=fun g=>if C:g∈l then (h g C).choose_spec.choose else 0
 have aa:∀ g,g∈l→(A g).spot=none∧w.heap[g]? =some (.cells #[.iface T (.pointer<|some<|A g)] (E g) (0,0)):=fun g C=>by
  have :=(h g C).choose_spec.choose_spec;simp only [A,E,dif_pos C];exact this
 let r:Rn:=fun i=>if i < G then some ⟨i,0,0⟩ else if i < G+G then some ⟨(A<|i - G).block,(A<|i - G).off,0⟩ else none
 have L:∀ i,i < G→r i=some ⟨i,0,0⟩:=fun i hi=>if_pos hi;have ad:∀ g,g < G→r (G+g)=some ⟨(A g).block,(A g).off,0⟩:=fun g C=>by
  show (if G+g < G then _ else _)=_;rw [if_neg ag,if_pos ag,show G+g - G=g from by omega]
 have O:∀ g∈l,ba g di=true :=fun g C=>dk.2 (by have :=J g C; have :di=1048574:=rfl; omega);refine ⟨E,r,fun U=>⟨fun i o hi=> ?_,fun i j o ah q q' hi ab I M he=> ?_,fun i I M=> ?_,fun g C=>⟨0,L g C⟩,Nat.le_add_right _ _⟩⟩
 · obtain ⟨hm,rfl⟩:=rW O hi;have V:=J i hm;obtain ⟨Z,a2⟩:=aa i hm;refine ⟨⟨i,0,0⟩,L i V,?_⟩;rw [a2];refine AJ (us:= [.iface T (.pointer<|some<|A i)]) ?_ rfl;have e:(⟨(A i).block,(A i).off,none⟩:Addr)=A i:=by
    have :A i=⟨(A i).block,(A i).off,(A i).spot⟩:=rfl;rw [this,Z]
   simp only [bc,den,ad i V,lT,e]
 · obtain ⟨hm,rfl⟩:=rW O hi;obtain ⟨ac,rfl⟩:=rW O ab;rw [L i (J i hm)] at I;rw [L j (J j ac)] at M;cases I; cases M;exact he
 · show (if i < G then _ else _)=_;simp only at I;rw [if_neg ag,if_neg ag]
theorem St.wk {T C:Nat} {E:Nat→Nat} {l:List Nat} {r r':Rn} {I:Hp} {w':ai} (A:∀ g∈l,g < G) (U:G≤1000) (st:St P G C r ⟨sH G T E l,G+G⟩ w r' I w'):Wk w w':=by
 refine ⟨st.md.os,st.md.output,st.md.size,fun k M _=>st.md.dC k M fun ⟨i,o,q,O,J,_⟩=> ?_⟩;obtain ⟨hm,_⟩:=rW (fun g L=>dk.2 (by have :=A g L; have :di=1048574:=rfl; omega)) J;have :=A i hm;omega
theorem HR.dC {T:Nat} {r:Rn} {h:Hp} {F:Nat→Prop} {w':ai} (hr:HR P G r T h w) (hm:Md F w w') (E:∀ i o q,h.t.get i=some o→r i=some q→¬F q.ax):HR P G r T h w':=by
 refine ⟨fun i o hi=> ?_,hr.inj,hr.new,hr.gZ,hr.base⟩;obtain ⟨q,A,C⟩:=hr.live i o hi;refine ⟨q,A,?_⟩;rw [hm.dC _ (hr.lt hi A) (E i o q hi A)];exact C
end
end Go.Hb
end
