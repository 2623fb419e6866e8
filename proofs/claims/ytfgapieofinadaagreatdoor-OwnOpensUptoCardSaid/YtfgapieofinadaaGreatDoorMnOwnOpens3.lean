/-
  Walks and plain laws that the law rests on, laid together. No conditions but those that each theorem names.
-/
import Derived.Test.YtfgapieofinadaaGreatDoorMnOwnOpens2
set_option linter.unusedVariables false
open Array renaming all_eq_true_iff_forall_mem→HQ,foldl_toList→xO,getD_eq_getD_getElem?→kn,getElem?_eq_getElem→pU,getElem?_eq_some_iff→cr,getElem?_modify→xQ,getElem?_push→xR,getElem?_setIfInBounds→uq,getElem?_setIfInBounds_ne→ny,getElem?_setIfInBounds_self_of_lt→oC,getElem?_toList→sp,length_toList→pV,range→nA,toList_inj→su,toList_map→ju,toList_modify→ur,toList_push→xT
open BitVec renaming ofInt→jV
open Bool renaming and_eq_true→bO,false_eq_true→uu,noConfusion→dw,not_eq_true'→mC,or_eq_true→lI,or_eq_true_iff→HY
open Go.Builtin renaming append_→lJ,clear_→xV,delete_→sA,firstCells→xW,zeroCells→H5
open Go.Calls renaming mono→jv
open Go renaming Code→cj,Edge→cH,Exit→bM,IntKind→bY,Oper→aJ,Operand→bA,Program→av,TypeId→au,Value→ah,World→ai
open Go.Code renaming region→H8
open Go.Deferred renaming ofValue→mE
open Go.Exit renaming inBlock→If
open Go.Fence renaming wide→fX
open Go.FrameMode renaming noConfusion→Ig
open Go.Instr renaming alloc→xX,buildSlice→uv,fill→ko,keyThatStays→uw,mapUpdate→sB
open Go.Lib renaming run_unsafeString_none→Ir
open Go.Op renaming equal→oD,equalIn→jW
open Go.Oper renaming semAt_eq→uA,uponIn→sE
open Go.Region renaming binds→eQ,ready→fF,wanted→mH
open Go.Result renaming andThen_ok→gS
open Go.Sem renaming run→lK,run_bind→ie,run_pure→jY
open Go.World renaming freeze→nD,putObj→Iw,putObj_heap_other→lL,putObj_heap_same→qi
open Int renaming natCast_nonneg→ig,natCast_pos→Ix,ofNat→mJ,toNat_natCast→Iz
open List.Sublist renaming map→BG
open List renaming append_assoc→iC,eq_nil_of_length_eq_zero→ku,ext_getElem?→ya,filter_cons→uE,flatten_cons→IL,getD_eq_getElem?_getD→cW,getElem?_append_left→eZ,getElem?_append_right→eH,getElem?_cons_succ→jZ,getElem?_cons_zero→ky,getElem?_drop→kz,getElem?_eq_getElem→cI,getElem?_eq_none→qk,getElem?_eq_some_iff→dX,getElem?_map→ij,getElem?_take→j0,getElem?_toArray→nE,length→jx,length_append→bp,length_cons→cn,length_drop→fY,length_eq_one_iff→uI,length_nil→fq,length_take→bX,mapM_cons→IS,map_append→kA,map_cons→fZ,map_map→yd,mem_append→dz,mem_cons→ew,mem_cons_of_mem→mK,mem_cons_self→lN,mem_filter→ye,mem_map→iU,mem_of_getElem?→kX,mem_of_mem_drop→yf,mem_of_mem_take→yg,mem_range→IY,nodup_cons→sG,range→qt,range'→oG,replicate→eM,replicate_succ→I3,size_toArray→fP
open List.cons renaming injEq→lM
open Nat renaming add_assoc→jy,add_comm→yn,add_mul→oH,add_zero→lO,beq→bC,ble→bL,ble_eq→uM,ble_eq_true_of_le→BQ,blt→aZ,eq_of_beq_eq_true→cO,le_of_ble_eq_true→cE,le_refl→bf,le_succ→nF,le_trans→cQ,lt_of_lt_of_le→oI,lt_or_ge→dN,lt_succ_iff_lt_or_eq→Jb,lt_succ_self→oJ,lt_trichotomy→uN,mul_le_mul_right→qw,not_lt_zero→yo,pos_of_ne_zero→Jd,pow_succ→yp,succ_le_iff→uO,succ_pos→Je,testBit→uP,zero_add→dx,zero_le→sL,zero_mul→yq
open Option renaming getD_none→sM,getD_some→jz,map_eq_some_iff→iW,map_some→e7
open Option.some renaming inj→gF,injEq→bR
open Prod renaming fst→dj,snd→jA
open Prod.mk renaming injEq→kY
open UInt8 renaming lt_iff_toNat_lt→yt,ofNat→ga,toNat→Jh,toNat_inj→nG
open Go.Proofs.Tryz
open Go.RowKit

section
namespace Go.Hb
inductive Tr (α:Type) | nil | nd (l:Tr α) (v:Option α) (r:Tr α)
def Tr.get {α:Type} :Tr α→Nat→Option α
 | .nil,_=>none
 | .nd _ v _,0=>v
 | .nd l _ r,n+1=>cond (bC (n % 2) 0) (l.get<|n / 2)<|r.get<|n / 2
def Tr.put {α:Type} (v:Option α):Nat→Tr α→Nat→Tr α
 | 0,t,_=>t
 | _+1,.nil,0=> .nd .nil v .nil
 | _+1,.nd l _ r,0=> .nd l v r
 | k+1,.nil,n+1=>cond (bC (n % 2) 0) (.nd (Tr.put v k .nil<|n / 2) none .nil)<|.nd .nil none<|Tr.put v k .nil<|n / 2
 | k+1,.nd l u r,n+1=>cond (bC (n % 2) 0) (.nd (Tr.put v k l<|n / 2) u r)<|.nd l u<|Tr.put v k r<|n / 2
theorem Tr.get_nil {α:Type} (n:Nat):(Tr.nil:Tr α).get n=none:=by unfold Tr.get; rfl
theorem Hd {n:Nat} {b:Bool} (h:bC (n % 2) 0=b):n % 2=cond b 0 1:=by
 cases b
 · have :n % 2≠0:=fun e=>by rw [e] at h; cases h
   simp only [cond_false]; omega
 · exact cO h
theorem xp {n m:Nat} {b:Bool} (hn:bC (n % 2) 0=b) (hm:bC (m % 2) 0=b) (e:m / 2=n / 2):m+1=n+1:=by
 have :=Hd hn;have :=Hd hm;omega
theorem Tr.rI {α:Type} (v:Option α):∀ (k:Nat) (t:Tr α) (n m:Nat),m≠n→(Tr.put v k t n).get m=t.get m
 | 0,t,n,m,_=>by simp [Tr.put]
 | k+1,.nil,0,m,h=>by
   obtain ⟨m,rfl⟩:∃ j,m=j+1:=⟨m - 1,ag⟩
   simp [Tr.put,Tr.get]
 | k+1,.nd l u r,0,m,h=>by
   obtain ⟨m,rfl⟩:∃ j,m=j+1:=⟨m - 1,ag⟩
   simp [Tr.put,Tr.get]
 | k+1,.nil,n+1,0,h=>by
   simp only [Tr.put];cases bC (n % 2) 0 <;> rfl
 | k+1,.nd l u r,n+1,0,h=>by
   simp only [Tr.put];cases bC (n % 2) 0 <;> rfl
 | k+1,.nil,n+1,m+1,h=>by
   simp only [Tr.put];cases hn:bC (n % 2) 0 <;> cases hm:bC (m % 2) 0 <;> simp only [cond_true,cond_false,Tr.get,hm]
   · rw [Tr.rI v k .nil _ _ (fun e=>h<|xp hn hm e)]; rfl
   · rw [Tr.rI v k .nil _ _ (fun e=>h<|xp hn hm e)]; rfl
 | k+1,.nd l u r,n+1,m+1,h=>by
   simp only [Tr.put];cases hn:bC (n % 2) 0 <;> cases hm:bC (m % 2) 0 <;> simp only [cond_true,cond_false,Tr.get,hm]
   · rw [Tr.rI v k r _ _ (fun e=>h<|xp hn hm e)]
   · rw [Tr.rI v k l _ _ (fun e=>h<|xp hn hm e)]
theorem Tr.put_eq {α:Type} (v:Option α):∀ (k:Nat) (t:Tr α) (n:Nat),n+1 < 2 ^ k→(Tr.put v k t n).get n=v
 | 0,t,n,h=>ag
 | k+1,.nil,0,_=>by simp [Tr.put,Tr.get]
 | k+1,.nd l u r,0,_=>by simp [Tr.put,Tr.get]
 | k+1,.nil,n+1,h=>by
   have A:n / 2 +1 < 2 ^ k:=by rw [yp] at h; omega
   simp only [Tr.put];cases hn:bC (n % 2) 0 <;> simp only [cond_true,cond_false,Tr.get,hn] <;> exact Tr.put_eq v k _ _ A
 | k+1,.nd l u r,n+1,h=>by
   have A:n / 2 +1 < 2 ^ k:=by rw [yp] at h; omega
   simp only [Tr.put];cases hn:bC (n % 2) 0 <;> simp only [cond_true,cond_false,Tr.get,hn] <;> exact Tr.put_eq v k _ _ A
def di:Nat:=1048574
def Tr.set {α:Type} (t:Tr α) (n:Nat) (v:α):Tr α:=Tr.put (some v) 20 t n
def Tr.del {α:Type} (t:Tr α) (n:Nat):Tr α:=Tr.put none 20 t n
theorem Tr.nW {α:Type} (t:Tr α) (n m:Nat) (v:α) (h:aZ n di=true):(t.set n v).get m=if m=n then some v else t.get m:=by
 have A:n < 1048574:=by simpa [di,aZ,uM,uO] using h
 unfold Tr.set;split
 · rename_i e; subst e; exact Tr.put_eq _ _ _ _ ag
 · rename_i e; exact Tr.rI _ _ _ _ _ e
theorem Tr.qY {α:Type} (t:Tr α) (n m:Nat) (h:aZ n di=true):(t.del n).get m=if m=n then none else t.get m:=by
 have A:n < 1048574:=by simpa [di,aZ,uM,uO] using h
 unfold Tr.del;split
 · rename_i e; subst e; exact Tr.put_eq _ _ _ _ ag
 · rename_i e; exact Tr.rI _ _ _ _ _ e
inductive AV
 | bool (b:Bool) | int (k:bY) (n:Int) | str (l:List UInt8)
 | ptr (b o:Nat) | jl
 | sl (b o n c:Nat) (x:Bool)
 | fW
 | map (b:Nat) | mg
 | fn (f:Nat) (a c:List AV) | iS (l:Nat) | kf
 | jP (t:Nat) (v:AV) | fJ
 | agg (l:List AV) | dg (l:List AV)
structure Loc where
 ax:Nat
 sh:Nat
 room:Nat
abbrev Rn:=Nat→Option Loc
def Rn.le (r s:Rn):Prop := ∀ i x,r i=some x→s i=some x
theorem Rn.le_refl (r:Rn):r.le r:=fun _ _ h=>h
theorem Rn.le_trans {r s t:Rn} (h:r.le s) (A:s.le t):r.le t:=fun i x C=>A i x<|h i x C
mutual
def den (r:Rn):AV→Option ah
 | .bool b=>some<|.bool b
 | .int k n=>some<|.int k n
 | .str l=>some<|Hb.str l
 | .ptr b o=>match r b with
   | some q=>some<|.pointer<|some ⟨q.ax,q.sh+o,none⟩
   | none=>none
 | .jl=>some<|.pointer none
 | .sl b o n c x=>match r b with
   | some q=>cond x (cond (bL n c) (some<|.slice (some ⟨q.ax,q.sh+o,none⟩) n c) none)<|cond (bL (c+n) q.room) (some<|.slice (some ⟨q.ax,q.sh+o,none⟩) n<|q.room - c) none
   | none=>none
 | .fW=>some<|.slice none 0 0
 | .map b=>match r b with
   | some q=>some<|.map<|some q.ax
   | none=>none
 | .mg=>some<|.map none
 | .fn f a c=>match bc r a,bc r c with
   | some a,some c=>some<|.func (.func f) a.toArray c.toArray
   | _,_=>none
 | .iS l=>match r l with
   | some q=>some<|.func (.yield q.ax) #[] #[]
   | none=>none
 | .kf=>some .nilFunc
 | .jP t v=>match den r v with
   | some v=>some<|.iface t v
   | none=>none
 | .fJ=>some .nilIface
 | .agg l=>match bc r l with
   | some l=>some<|.agg l.toArray
   | none=>none
 | .dg l=>match bc r l with
   | some l=>some<|.tuple l.toArray
   | none=>none
def bc (r:Rn):List AV→Option (List ah)
 | []=>some []
 | v::l=>match den r v,bc r l with
   | some v,some l=>some (v::l)
   | _,_=>none
end
mutual
theorem mV {r s:Rn} (h:r.le s):∀ {v:AV} {u:ah},den r v=some u→den s v=some u
 | .bool _,_,hu | .int _ _,_,hu | .str _,_,hu | .jl,_,hu | .fW,_,hu | .mg,_,hu | .kf,_,hu | .fJ,_,hu=>by
   simp only [den] at hu ⊢; exact hu
 | .ptr b o,u,hu | .sl b o n c x,u,hu | .map b,u,hu | .iS b,u,hu=>by
   simp only [den] at hu ⊢;cases hb:r b with
   | none=>rw [hb] at hu; cases hu
   | some q=>rw [hb] at hu; rw [h b q hb]; exact hu
 | .fn f a c,u,hu=>by
   simp only [den] at hu ⊢;cases ha:bc r a with
   | none=>rw [ha] at hu; cases hu
   | some a'=>
     cases hc:bc r c with
     | none=>rw [ha,hc] at hu; cases hu
     | some c'=>rw [ha,hc] at hu; rw [jJ h ha,jJ h hc]; exact hu
 | .jP t v,u,hu=>by
   simp only [den] at hu ⊢;cases hv:den r v with
   | none=>rw [hv] at hu; cases hu
   | some C=>rw [hv] at hu; rw [mV h hv]; exact hu
 | .agg l,u,hu | .dg l,u,hu=>by
   simp only [den] at hu ⊢;cases hl:bc r l with
   | none=>rw [hl] at hu; cases hu
   | some A=>rw [hl] at hu; rw [jJ h hl]; exact hu
theorem jJ {r s:Rn} (h:r.le s):∀ {v:List AV} {u:List ah},bc r v=some u→bc s v=some u
 | [],_,hu=>by simp only [bc] at hu ⊢; exact hu
 | v::l,u,hu=>by
   simp only [bc] at hu ⊢;cases hv:den r v with
   | none=>rw [hv] at hu; cases hu
   | some C=>
     cases hl:bc r l with
     | none=>rw [hv,hl] at hu; cases hu
     | some A=>rw [hv,hl] at hu; rw [mV h hv,jJ h hl]; exact hu
end
theorem fw {r:Rn} {v:AV} {l:List AV} {us:List ah} (h:bc r (v::l)=some us):∃ u A,us=u::A∧den r v=some u∧bc r l=some A:=by
 simp only [bc] at h;split at h
 · rename_i u A C E; exact ⟨u,A,(gF h).symm,C,E⟩
 · cases h
theorem lX {r:Rn} {us:List ah} (h:bc r []=some us):us= []:=by simpa [bc] using h.symm
theorem ff {r:Rn} {v:AV} {l:List AV} {u:ah} {us:List ah} (A:den r v=some u) (C:bc r l=some us):bc r (v::l)=some (u::us):=by simp only [bc,A,C]
theorem dZ {r:Rn} :∀ {l:List AV} {us:List ah},bc r l=some us→us.length=l.length
 | [],_,h=>by rw [lX h]; rfl
 | v::l,us,h=>by obtain ⟨u,C,rfl,_,A⟩:=fw h; simp [dZ A]
theorem qM {r:Rn} :∀ {l:List AV} {us:List ah} {i:Nat} {v:AV},bc r l=some us→l[i]? =some v→∃ u,us[i]? =some u∧den r v=some u
 | [],_,i,v,h,hv=>by simp at hv
 | a::l,us,0,v,h,hv=>by
   obtain ⟨u,L,rfl,A,_⟩:=fw h;simp only [ky,bR] at hv;subst hv; exact ⟨u,rfl,A⟩
 | a::l,us,i+1,v,h,hv=>by
   obtain ⟨u,L,rfl,_,C⟩:=fw h;simp only [jZ] at hv;obtain ⟨J,E,I⟩:=qM C hv;exact ⟨J,by simpa using E,I⟩
theorem gH {r:Rn} :∀ {l m:List AV} {us vs:List ah},bc r l=some us→bc r m=some vs→bc r (l++m)=some (us++vs)
 | [],m,us,vs,h,h'=>by rw [lX h]; exact h'
 | a::l,m,us,vs,h,h'=>by
   obtain ⟨u,E,rfl,A,C⟩:=fw h;exact ff A<|gH C h'
theorem kE {r:Rn} :∀ {l:List AV} {us:List ah} (n:Nat),bc r l=some us→bc r (l.take n)=some (us.take n)
 | _,_,0,_=>by simp [bc]
 | [],us,n+1,h=>by rw [lX h]; simp [bc]
 | a::l,us,n+1,h=>by
   obtain ⟨u,E,rfl,A,C⟩:=fw h;exact ff A<|kE n C
theorem ln {r:Rn} :∀ {l:List AV} {us:List ah} (n:Nat),bc r l=some us→bc r (l.drop n)=some (us.drop n)
 | _,_,0,h=>h
 | [],us,n+1,h=>by rw [lX h]; simp [bc]
 | a::l,us,n+1,h=>by
   obtain ⟨u,E,rfl,C,A⟩:=fw h;exact ln n A
inductive Ck | a | z | x
inductive AO
 | cells (l:List AV) (e:Nat) (fz:Nat) (ex:Ck)
 | map (l:List (AV×AV))
 | loop (st:LoopState) (pe:Option cj) (n:Nat) (fr:Tr AV) (ps:List Nat) (aT body:cj) (D:Nat)
 | mW (b:Bool)
 | A3 (l:List UInt8) (p:Nat)
structure Hp where
 t:Tr AO
 nx:Nat
def eb (fr:Tr AV) (i:Nat):AV:=match fr.get i with
 | some v=>v
 | none=> .dg []
def fH (r:Rn) (n:Nat) (fr:Tr AV) (s:Nat→ah):Prop := ∀ i,i < n→den r (eb fr i)=some (s i)
def iw (r:Rn):List (AV×AV)→List MapEntry→Prop
 | [],[]=>True
 | p::l,m::es=>den r p.1=some m.key∧den r p.2=some m.val∧iw r l es
 | _,_=>False
def OR (P:av) (r:Rn) (q:Loc):AO→Option Obj→Prop
 | .cells l e fz ex,o=> ∃ c fr us,o=some (.cells c e fr)∧bc r l=some us∧q.sh+l.length≤c.size∧(∀ j u,us[j]? =some u→c[q.sh+j]? =some u)∧fr.2≤q.sh+fz∧
  (∀ u∈us,u.oneCell'=true)∧((ex= .x→q.sh=0∧c.size=l.length∧fr=(0,fz))∧(ex≠.a→q.sh=0))∧∀ s,cP P e=some s→q.sh+q.room*s≤c.size
 | .map l,o=> ∃ es c,o=some (.map es c)∧iw r l es.toList∧(es.toList.map fun e=>e.key).Nodup
 | .loop st E n fr ps aT body D,o=> ∃ fn A C,o=some (.loop {state:=st,pending:=E,fn:=fn,tmps:=A,params:=ps.toArray,assign:=aT,body:=body,defers:=C})∧(∃ x,r D=some x∧x.ax=C)∧A.size=n∧∀ i,i < n→den r (eb fr i)=A[i]?
 | .mW b,o=>o=some (.deferred<|cond b (some []) none)
 | .A3 l p,o=>o=some (.stringIter ⟨⟨l⟩⟩ p)
end Go.Hb
namespace Go.Hb
def mh (f:ah→Option AV):List ah→Option (List AV)
 | []=>some []
 | v::l=>match f v with
   | some a=>match mh f l with
     | some b=>some (a::b)
     | none=>none
   | none=>none
def kM:Nat→ah→Option AV
 | 0,_=>none
 | d+1,v=>match v with
   | .bool b=>some<|.bool b
   | .int k n=>some<|.int k n
   | .string ⟨⟨l⟩⟩=>some<|.str l
   | .pointer none=>some .jl
   | .slice none 0 0=>some .fW
   | .map none=>some .mg
   | .nilFunc=>some .kf
   | .nilIface=>some .fJ
   | .agg ⟨l⟩=>match mh (kM d) l with
     | some l=>some<|.agg l
     | none=>none
   | .tuple ⟨l⟩=>match mh (kM d) l with
     | some l=>some<|.dg l
     | none=>none
   | _=>none
theorem rq {f:ah→Option AV} {r:Rn} (A:∀ v a,f v=some a→den r a=some v):∀ {l:List ah} {m:List AV},mh f l=some m→bc r m=some l
 | [],m,h=>by simp only [mh,bR] at h; subst h; simp [bc]
 | v::l,m,h=>by
   simp only [mh] at h;split at h
   · rename_i a ha;split at h
     · rename_i b hb;cases h;exact ff (A v a ha)<|rq A hb
     · cases h
   · cases h
theorem og {r:Rn} :∀ (d:Nat) {v:ah} {a:AV},kM d v=some a→den r a=some v
 | 0,v,a,h=>by simp [kM] at h
 | d+1,v,a,h=>by
   simp only [kM] at h;split at h <;> first
    | (cases h; simp [den,str]; done)
    | (split at h
       · rename_i C A;cases h;simp only [den,rq (fun v a=>og d) A]
       · cases h)
    | cases h
def ml (G n:Nat) (fr:Tr AV):bA→Option AV
 | .tmp t=>cond (aZ t n) (some<|eb fr t) none
 | .const v=>kM 4 v
 | .func f=>some<|.fn f [] []
 | .global g=>cond (aZ g G) (some<|.ptr g 0) none
def mo (G n:Nat) (fr:Tr AV):List bA→Option (List AV)
 | []=>some []
 | x::l=>match ml G n fr x with
   | some a=>match mo G n fr l with
     | some b=>some (a::b)
     | none=>none
   | none=>none
def qz (G:Nat) (r:Rn):Prop := ∀ g,g < G→∃ m,r g=some ⟨g,0,m⟩
section
variable {G:Nat} {fr:Tr AV} {r:Rn} {N:Fm} {σ:Nat→ah}
theorem tK (C:qz G r) (A:fH r N.n fr σ) {x:bA} {a:AV} (h:ml G N.n fr x=some a):den r a=some (ev N σ x):=by
 cases x with
 | tmp t=>
   simp only [ml] at h;cases hb:aZ t N.n
   · rw [hb] at h; cases h
   · rw [hb] at h;simp only [cond_true,bR] at h;subst h;simp only [ev,hb,cond_true];exact A t<|by simpa [aZ,uM,uO] using hb
 | const v=>exact og 4 h
 | func f=>simp only [ml,bR] at h; subst h; simp [den,bc,ev]
 | global g=>
   simp only [ml] at h;cases hb:aZ g G
   · rw [hb] at h; cases h
   · rw [hb] at h;simp only [cond_true,bR] at h;subst h;obtain ⟨m,hm⟩:=C g<|by simpa [aZ,uM,uO] using hb
     simp only [den,hm,ev,lO]
theorem wy (C:qz G r) (A:fH r N.n fr σ):∀ {l:List bA} {m:List AV},mo G N.n fr l=some m→bc r m=some (l.map<|ev N σ)
 | [],m,h=>by simp only [mo,bR] at h; subst h; simp [bc]
 | x::l,m,h=>by
   simp only [mo] at h;split at h
   · rename_i a ha;split at h
     · rename_i b hb;cases h;exact ff (tK C A ha)<|wy C A hb
     · cases h
   · cases h
end
def iz:Op→List bA
 | .move x | .assign x | .box _ x | .load _ x | .nilCheck x | .unOp _ _ x | .convert _ _ x | .makeInterface _ x | .fieldAddr _ x _ | .field _ x _ | .range _ x | .next x _ | .typeAssert x _ _ _ | .extract x _=> [x]
 | .pick c a b=> [c,a,b]
 | .build _ ⟨ps⟩=>ps.map (·.2)
 | .buildSlice _ _ ⟨ps⟩=>ps.map (·.2)
 | .store _ a v | .binOp _ _ a v _ | .makeSlice _ a v | .indexAddr _ a v | .index _ a v | .lookup _ a v _=> [a,v]
 | .makeFunc _ ⟨a⟩ ⟨c⟩=>a++c
 | .slice _ x l h m=>x::(l.toList++(h.toList++m.toList))
 | .mapUpdate _ m k v | .insert _ m k v=> [m,k,v]
 | .call ⟨.value f,⟨l⟩,_⟩ | .defer ⟨.value f,⟨l⟩,_⟩=>f::l
 | .call ⟨.builtin _,⟨l⟩,_⟩=>l
 | _=> []
theorem gj {r:Rn} {a:AV} {u:ah} (h:bc r [a]=some [u]):den r a=some u:=by
 obtain ⟨C,us,he,A,_⟩:=fw h;cases he; exact A
theorem jI {r:Rn} {a b:AV} {u v:ah} (h:bc r [a,b]=some [u,v]):den r a=some u∧den r b=some v:=by
 obtain ⟨E,us,he,A,C⟩:=fw h;cases he; exact ⟨A,gj C⟩
theorem nO {r:Rn} {a b c:AV} {u v t:ah} (h:bc r [a,b,c]=some [u,v,t]):den r a=some u∧den r b=some v∧den r c=some t:=by
 obtain ⟨E,us,he,A,C⟩:=fw h;cases he; exact ⟨A,jI C⟩
section
variable {r:Rn} {u:ah}
theorem dF {k:bY} {n:Int} (h:den r (.int k n)=some u):u= .int k n:=by simpa [den] using h.symm
theorem kF {b:Bool} (h:den r (.bool b)=some u):u= .bool b:=by simpa [den] using h.symm
theorem jg {l:List UInt8} (h:den r (.str l)=some u):u=str l:=by simpa [den] using h.symm
theorem qP (h:den r .jl=some u):u= .pointer none:=by simpa [den] using h.symm
theorem jL (h:den r .fW=some u):u= .slice none 0 0:=by simpa [den] using h.symm
theorem Da (h:den r .mg=some u):u= .map none:=by simpa [den] using h.symm
theorem tf (h:den r .kf=some u):u= .nilFunc:=by simpa [den] using h.symm
theorem qO (h:den r .fJ=some u):u= .nilIface:=by simpa [den] using h.symm
theorem j7 {b o:Nat} (h:den r (.ptr b o)=some u):∃ q,r b=some q∧u= .pointer (some ⟨q.ax,q.sh+o,none⟩):=by
 simp only [den] at h;split at h
 · rename_i q A; exact ⟨q,A,(gF h).symm⟩
 · cases h
theorem o4 {b:Nat} (h:den r (.map b)=some u):∃ q,r b=some q∧u= .map (some q.ax):=by
 simp only [den] at h;split at h
 · rename_i q A; exact ⟨q,A,(gF h).symm⟩
 · cases h
theorem y7 {b:Nat} (h:den r (.iS b)=some u):∃ q,r b=some q∧u= .func (.yield q.ax) #[] #[]:=by
 simp only [den] at h;split at h
 · rename_i q A; exact ⟨q,A,(gF h).symm⟩
 · cases h
theorem Db {b o n c:Nat} (h:den r (.sl b o n c true)=some u):∃ q,r b=some q∧n≤c∧u= .slice (some ⟨q.ax,q.sh+o,none⟩) n c:=by
 simp only [den] at h;split at h
 · rename_i q A;cases hb:bL n c
   · rw [hb] at h; cases h
   · rw [hb] at h;exact ⟨q,A,cE hb,(gF h).symm⟩
 · cases h
theorem vy {b o n c:Nat} (h:den r (.sl b o n c false)=some u):∃ q,r b=some q∧c+n≤q.room∧u= .slice (some ⟨q.ax,q.sh+o,none⟩) n (q.room - c):=by
 simp only [den] at h;split at h
 · rename_i q A;cases hb:bL (c+n) q.room
   · rw [hb] at h; cases h
   · rw [hb] at h;exact ⟨q,A,cE hb,(gF h).symm⟩
 · cases h
theorem j8 {b o n c:Nat} {x:Bool} (h:den r (.sl b o n c x)=some u):∃ q cap,r b=some q∧n≤cap∧u= .slice (some ⟨q.ax,q.sh+o,none⟩) n cap∧(x=true→cap=c)∧(x=false→cap=q.room - c∧c+n≤q.room):=by
 cases x
 · obtain ⟨q,C,A,he⟩:=vy h;exact ⟨q,q.room - c,C,ag,he,(fun e=>by cases e),fun _=>⟨U,A⟩⟩
 · obtain ⟨q,C,A,he⟩:=Db h;exact ⟨q,c,C,A,he,fun _=>rfl,fun e=>by cases e⟩
theorem nQ {f:Nat} {a c:List AV} (h:den r (.fn f a c)=some u):∃ a' c',bc r a=some a'∧bc r c=some c'∧u= .func (.func f) a'.toArray c'.toArray:=by
 simp only [den] at h;split at h
 · rename_i a' c' ha A; exact ⟨a',c',ha,A,(gF h).symm⟩
 · cases h
theorem vx {t:Nat} {v:AV} (h:den r (.jP t v)=some u):∃ A,den r v=some A∧u= .iface t A:=by
 simp only [den] at h;split at h
 · rename_i A C; exact ⟨A,C,(gF h).symm⟩
 · cases h
theorem td {l:List AV} (h:den r (.agg l)=some u):∃ us,bc r l=some us∧u= .agg us.toArray:=by
 simp only [den] at h;split at h
 · rename_i C A; exact ⟨C,A,(gF h).symm⟩
 · cases h
theorem Dc {l:List AV} (h:den r (.dg l)=some u):∃ us,bc r l=some us∧u= .tuple us.toArray:=by
 simp only [den] at h;split at h
 · rename_i C A; exact ⟨C,A,(gF h).symm⟩
 · cases h
end
def zH (k:bY):Int→Bool
 | .ofNat m=>match k with
   | .i64=>aZ m 9223372036854775808
   | .u8=>aZ m 256
   | .u64=>aZ m 18446744073709551616
   | .i32=>aZ m 2147483648
   | .u32=>aZ m 4294967296
   | .u16=>aZ m 65536
   | _=>false
 | .negSucc m=>match k with
   | .i64=>aZ m 9223372036854775808
   | .i32=>aZ m 2147483648
   | _=>false
def pS (k:bY) (n:Int):Int:=cond (zH k n) n<|k.wrap n
theorem dk {a b:Nat} :aZ a b=true↔a < b:=by simp [aZ,uM,uO]
theorem u16_in (n:Int) (h:0≤n∧n≤65535):IntKind.u16.wrap n=n:=by
 unfold IntKind.wrap;simp only [IntKind.bits,IntKind.signed];simp;omega
theorem Mn {k:bY} {n:Int} (h:zH k n=true):k.wrap n=n:=by
 cases n with
 | ofNat m=>
   show k.wrap (m:Int)=(m:Int)
   cases k with
   | i64=>have :=dk.1 (show aZ m 9223372036854775808=true from h); exact km ⟨ag,ag⟩
   | u8=>have :=dk.1 (show aZ m 256=true from h); exact Bp ⟨ag,ag⟩
   | u64=>have :=dk.1 (show aZ m 18446744073709551616=true from h); exact jt ⟨ag,ag⟩
   | i32=>have :=dk.1 (show aZ m 2147483648=true from h); exact Bl ⟨ag,ag⟩
   | u32=>have :=dk.1 (show aZ m 4294967296=true from h); exact HK ⟨ag,ag⟩
   | u16=>have :=dk.1 (show aZ m 65536=true from h); exact u16_in _ ⟨ag,ag⟩
   | i8=>exact dw (show false =true from h)
   | i16=>exact dw (show false =true from h)
 | negSucc m=>
   rw [Int.negSucc_eq];cases k with
   | i64=>have :=dk.1 (show aZ m 9223372036854775808=true from h); exact km ⟨ag,ag⟩
   | i32=>have :=dk.1 (show aZ m 2147483648=true from h); exact Bl ⟨ag,ag⟩
   | _=>exact dw (show false =true from h)
theorem um (k:bY) (n:Int):pS k n=k.wrap n:=by
 unfold pS;cases h:zH k n
 · rfl
 · exact (Mn h).symm
def gC (k:bY):Int→Option AV
 | .ofNat 0=>some<|.int k 0
 | .ofNat (m+1)=>some<|.int k<|.ofNat<|m+1
 | .negSucc 0=>some<|.int k<|-1
 | .negSucc (m+1)=>some<|.int k<|.negSucc<|m+1
theorem gY (k:bY) (n:Int):gC k n=some (.int k n):=by
 unfold gC;split <;> rfl
def jM:List UInt8→List UInt8→Bool
 | [],[]=>true
 | a::l,b::m=>cond (bC a.toNat b.toNat) (jM l m) false
 | _,_=>false
theorem qR:∀ l m:List UInt8,jM l m=decide (l=m)
 | [],[]=>by simp [jM]
 | [],_::_=>by simp [jM]
 | _::_,[]=>by simp [jM]
 | a::l,b::m=>by
   have ih:=qR l m;simp only [jM];cases h:bC a.toNat b.toNat
   · have :a≠b:=fun e=>by subst e; simp at h
     simp [this]
   · have :a=b:=nG.1<|cO h;simp [this,ih]
def px:List UInt8→List UInt8→Bool
 | _,[]=>false
 | [],_::_=>true
 | a::l,b::m=>cond (aZ a.toNat b.toNat) true<|cond (bC a.toNat b.toNat) (px l m) false
theorem EU:∀ l m:List UInt8,px l m=cm l m
 | [],[]=>rfl
 | _::_,[]=>rfl
 | [],_::_=>rfl
 | a::l,b::m=>by
   have ih:=EU l m;rw [xi];simp only [px];rcases uN a.toNat b.toNat with h | h | h
   · have A:a < b:=yt.2 h;simp [dk.2 h,A]
   · have e:a=b:=nG.1 h;subst e;have A:¬a < a:=UInt8.lt_irrefl a;have C:aZ a.toNat a.toNat=false :=by cases hb:aZ a.toNat a.toNat; rfl; exact absurd (dk.1 hb)<|Nat.lt_irrefl _
     simp [C,A,ih]
   · have A:¬a < b:=fun E=>by have :=yt.1 E; omega
     have C:aZ a.toNat b.toNat=false :=by cases hb:aZ a.toNat b.toNat; rfl; exact absurd (dk.1 hb) ag
     have I:bC a.toNat b.toNat=false :=by cases hb:bC a.toNat b.toNat; rfl; exact absurd (cO hb) ag
     have J:a≠b:=fun e=>by subst e; omega
     simp [C,I,A,J]
end Go.Hb
namespace Go.Hb
def vO (op:BinOp) (k:bY) (a b:Int):Option AV:=match op with
 | .add=>gC k<|pS k<|Int.add a b
 | .sub=>gC k<|pS k<|Int.sub a b
 | .mul=>gC k<|pS k<|Int.mul a b
 | .lss=>some<|.bool<|decide (a < b)
 | .leq=>some<|.bool<|decide (a≤b)
 | .gtr=>some<|.bool<|decide (b < a)
 | .geq=>some<|.bool<|decide (b≤a)
 | .eql=>some<|.bool<|decide (a=b)
 | .neq=>some<|.bool<|decide (a≠b)
 | .quo=>match a,b with
   | .ofNat a,.ofNat (b+1)=>gC k<|pS k<|.ofNat<|a / (b+1)
   | _,_=>none
 | .rem=>match a,b with
   | .ofNat a,.ofNat (b+1)=>gC k<|.ofNat<|a % (b+1)
   | _,_=>none
 | .or =>gC k<|k.wrap (jV k.bits a ||| jV k.bits b).toNat
 | .and =>gC k<|k.wrap (jV k.bits a &&& jV k.bits b).toNat
 | _=>none
def AR (op:BinOp) (k:bY) (a:Int) (b:Nat):Option AV:=match op with
 | .shr=>gC k<|a.fdiv<|2 ^ min b k.bits
 | .shl=>gC k<|k.wrap<|a*2 ^ min b k.bits
 | _=>none
def A2 (op:BinOp) (l m:List UInt8):Option AV:=match op with
 | .eql=>some<|.bool<|jM l m
 | .neq=>some<|.bool<|!jM l m
 | .lss=>some<|.bool<|px l m
 | .gtr=>some<|.bool<|!(px l m || jM l m)
 | .leq=>some<|.bool (px l m || jM l m)
 | .geq=>some<|.bool<|!px l m
 | .add=>cond (bL (l.length+m.length) 9223372036854775807) (some<|.str<|l++m) none
 | _=>none
def tw (P:av) (t:au):Bool:=match P.underlying t with
 | some (.pointer e)=>(P.info? e).isSome
 | _=>false
def lz (P:av) (t:au):Bool:=match P.underlying t with
 | some (.slice _)=>true
 | _=>false
def vP (P:av) (t:au):Bool:=match P.underlying t with
 | some (.func _ _ _)=>true
 | _=>false
def zJ (P:av) (t:au):Bool:=match P.underlying t with
 | some .bool=>true
 | _=>false
def vQ (P:av) (t:au):Bool:=match P.underlying t with
 | some (.interface _)=>true
 | _=>false
def isStr (P:av) (t:au):Bool:=match P.underlying t with
 | some .string=>true
 | _=>false
def vD (P:av) (A:Bool) (t:au) (x y:AV):Option Bool:=match x,y with
 | .ptr _ _,.jl=>cond (tw P t) (some false) none
 | .jl,.jl=>cond (tw P t) (some true) none
 | .ptr b o,.ptr b' o'=>cond (tw P t && (bC b b' && bC o o')) (some true) none
 | .sl _ _ _ _ _,.fW=>cond (lz P t) (some false) none
 | .fW,.fW=>cond (lz P t) (some true) none
 | .fn _ _ _,.kf=>cond (vP P t) (some false) none
 | .kf,.kf=>cond (vP P t) (some true) none
 | .bool a,.bool b=>cond (zJ P t) (some<|a==b) none
 | .jP _ _,.fJ=>cond (vQ P t) (some false) none
 | .fJ,.fJ=>cond (vQ P t && A) (some true) none
 | _,_=>none
def yH (P:av) (A:Bool) (op:BinOp) (t:au) (x y:AV):Option AV:=match x,y with
 | .int k a,.int k' b=>match op with
   | .shl | .shr=>match b with
     | .ofNat b=>AR op k a b
     | _=>none
   | _=>cond (bC (eU k)<|eU k') (vO op k a b) none
 | .str l,.str m=>A2 op l m
 | x,y=>match op with
   | .eql=>match vD P A t x y with
     | some b=>some<|.bool b
     | none=>none
   | .neq=>match vD P A t x y with
     | some b=>some<|.bool<|!b
     | none=>none
   | _=>none
section
variable {P:av} {r:Rn} {N:Fm} {σ:Nat→ah} {dst:Option Nat} {ty:au} {pos :String} {af:Array cH} {g:Option (Nat×Bool)} {x y z:bA}
def YP (P:av) (r:Rn) (N:Fm) (σ:Nat→ah) (o:aJ) (v:AV):Prop := ∃ u,den r v=some u∧∀ w,(execOp (ev N σ) o).run P w= .ok (.value u) w
theorem Mt {op:BinOp} {k:bY} {a b:Int} {t E:au} {v:AV} (h:vO op k a b=some v) (A:ev N σ x= .int k a) (C:ev N σ y= .int k b):YP P r N σ ⟨dst,.binOp op t x y E,ty,pos,af,g⟩ v:=by
 unfold vO at h;split at h
 · rw [gY,um] at h; cases h; exact ⟨_,rfl,fun w=>yD _ A C rfl⟩
 · rw [gY,um] at h; cases h; exact ⟨_,rfl,fun w=>AL _ A C rfl⟩
 · rw [gY,um] at h; cases h; exact ⟨_,rfl,fun w=>Ah _ A C rfl⟩
 · cases h; exact ⟨_,rfl,fun w=>lt A C⟩
 · cases h; exact ⟨_,rfl,fun w=>le A C⟩
 · cases h; exact ⟨_,rfl,fun w=>gt A C⟩
 · cases h; exact ⟨_,rfl,fun w=>ge A C⟩
 · cases h; exact ⟨_,rfl,fun w=>DG A C⟩
 · cases h; exact ⟨_,rfl,fun w=>E9 A C⟩
 · split at h
   · rename_i a b;rw [gY,um] at h; cases h;exact ⟨_,U,fun w=>Au _ A C ⟨ig _,Ix.2<|Je _⟩ U⟩
   · cases h
 · split at h
   · rename_i a b;rw [gY] at h; cases h;exact ⟨_,U,fun w=>rm A C ⟨ig _,Ix.2<|Je _⟩⟩
   · cases h
 · rw [gY] at h; cases h; exact ⟨_,rfl,fun w=>Cu A C rfl⟩
 · rw [gY] at h; cases h; exact ⟨_,rfl,fun w=>dP A C rfl⟩
 · cases h
theorem Ph {op:BinOp} {k E:bY} {a:Int} {b:Nat} {t I:au} {v:AV} (h:AR op k a b=some v) (A:ev N σ x= .int k a) (C:ev N σ y= .int E (mJ b)):YP P r N σ ⟨dst,.binOp op t x y I,ty,pos,af,g⟩ v:=by
 unfold AR at h;split at h
 · rw [gY] at h; cases h; exact ⟨_,rfl,fun w=>shr A C (ig _) rfl⟩
 · rw [gY] at h; cases h; exact ⟨_,rfl,fun w=>shl A C (ig _) rfl⟩
 · cases h
theorem PY {op:BinOp} {l m:List UInt8} {t E:au} {v:AV} (h:A2 op l m=some v) (A:ev N σ x=str l) (C:ev N σ y=str m):YP P r N σ ⟨dst,.binOp op t x y E,ty,pos,af,g⟩ v:=by
 unfold A2 at h;simp only [qR,EU] at h;split at h
 · cases h; exact ⟨_,rfl,fun w=>DI A C⟩
 · cases h; exact ⟨.bool (decide (l≠m)),by simp [den],fun w=>Fa A C⟩
 · cases h; exact ⟨_,rfl,fun w=>z1 A C⟩
 · cases h; exact ⟨_,rfl,fun w=>Mf A C⟩
 · cases h; exact ⟨_,rfl,fun w=>M2 A C⟩
 · cases h; exact ⟨_,rfl,fun w=>L9 A C⟩
 · cases hb:bL (l.length+m.length) 9223372036854775807
   · rw [hb] at h; cases h
   · rw [hb] at h; cases h; exact ⟨_,rfl,fun w=>cc A C<|cE hb⟩
 · cases h
def bj:bA→Bool
 | .const _=>true
 | _=>false
def yv (P:av) (t:au) (x y:bA) (u v:ah) (q:Bool):Prop :=
 (∀ w,(binOp .eql t u v).run P w= .ok (.bool q) w)∧(∀ w,(binOp .neq t u v).run P w= .ok (.bool<|!q) w)∧∀ op w,(eqGuard op t x y u v).run P w= .ok () w
theorem yv.of {t:au} {u v:ah} {q:Bool} (h:∀ d w,(jW (d+1) t u v).run P w= .ok q w) (A:∀ w,(binOp .eql t u v).run P w=((oD t u v).run P w).andThen fun q w=> .ok (.bool q) w)
 (C:∀ w,(binOp .neq t u v).run P w=((oD t u v).run P w).andThen fun q w=> .ok (.bool<|!q) w) (E:∀ op w,(eqGuard op t x y u v).run P w= .ok () w):yv P t x y u v q:=by
 have e:∀ w,(oD t u v).run P w= .ok q w:=h 9999;exact ⟨fun w=>by rw [A,e]; rfl,fun w=>by rw [C,e]; rfl,E⟩
theorem DA {Z:Bool} {t:au} {a b:AV} {u v:ah} {q:Bool} (ac:Z=true→(bj x || bj y)=true) (h:vD P Z t a b=some q) (hu:den r a=some u) (E:den r b=some v):yv P t x y u v q:=by
 have J:tw P t=true→∃ e i,P.underlying t=some (.pointer e)∧P.info? e=some i:=by
  intro hp;unfold tw at hp;split at hp
  · rename_i e he;obtain ⟨i,hi⟩:=Option.isSome_iff_exists.1 hp;exact ⟨e,i,he,hi⟩
  · cases hp
 have O:lz P t=true→∃ e,P.underlying t=some (.slice e):=by
  intro hp; unfold lz at hp; split at hp
  · exact ⟨_,by assumption⟩
  · cases hp
 have L:vP P t=true→∃ a b c,P.underlying t=some (.func a b c):=by
  intro hp; unfold vP at hp; split at hp
  · exact ⟨_,_,_,by assumption⟩
  · cases hp
 have M:vQ P t=true→∃ m,P.underlying t=some (.interface m):=by
  intro hp; unfold vQ at hp; split at hp
  · exact ⟨_,by assumption⟩
  · cases hp
 have B1:zJ P t=true→P.underlying t=some .bool:=by
  intro hp; unfold zJ at hp; split at hp
  · assumption
  · cases hp
 have I:∀ {c:Bool} {p:Option Bool} {q:Bool},cond c p none=some q→c=true∧p=some q:=by
  intro c p q h; cases c
  · cases h
  · exact ⟨U,h⟩
 unfold vD at h;split at h
 · obtain ⟨y,V,rfl⟩:=j7 hu;obtain rfl :=qP E;obtain ⟨A,C⟩:=I h;cases C;obtain ⟨e,i,he,hi⟩:=J A;exact .of (fun d w=>ze d he) (fun w=>by simp [binOp]) (fun w=>by simp [binOp]) fun op w=>by simp [eqGuard]
 · obtain rfl :=qP hu;obtain rfl :=qP E;obtain ⟨A,C⟩:=I h;cases C;obtain ⟨e,i,he,hi⟩:=J A;exact .of (fun d w=>ze d he) (fun w=>by simp [binOp]) (fun w=>by simp [binOp]) fun op w=>by simp [eqGuard]
 · rename_i b o b' ag;obtain ⟨A,C⟩:=I h;cases C;simp only [bO] at A;obtain ⟨hp,aa,ab⟩:=A;obtain rfl :=cO aa;obtain rfl :=cO ab;rw [hu] at E; cases E;obtain ⟨y,V,rfl⟩:=j7 hu;obtain ⟨e,i,he,hi⟩:=J hp;exact .of (fun d w=>by simp [jW,bS he,sizeOf,eh hi,sameAddr]) (fun w=>by simp [binOp]) (fun w=>by simp [binOp]) fun op w=>by simp [eqGuard]
 · obtain ⟨y,cap,V,_,rfl,_⟩:=j8 hu;obtain rfl :=jL E;obtain ⟨A,C⟩:=I h;cases C;obtain ⟨e,he⟩:=O A;exact .of (fun d w=>DJ d he) (fun w=>by simp [binOp]) (fun w=>by simp [binOp]) fun op w=>by simp [eqGuard]
 · obtain rfl :=jL hu;obtain rfl :=jL E;obtain ⟨A,C⟩:=I h;cases C;obtain ⟨e,he⟩:=O A;exact .of (fun d w=>DJ d he) (fun w=>by simp [binOp]) (fun w=>by simp [binOp]) fun op w=>by simp [eqGuard]
 · obtain ⟨a',c',ha,_,rfl⟩:=nQ hu;obtain rfl :=tf E;obtain ⟨A,C⟩:=I h;cases C;obtain ⟨_,_,_,he⟩:=L A;exact .of (fun d w=>by simp [jW,bS he]) (fun w=>by simp [binOp]) (fun w=>by simp [binOp]) fun op w=>by simp [eqGuard]
 · obtain rfl :=tf hu;obtain rfl :=tf E;obtain ⟨A,C⟩:=I h;cases C;obtain ⟨_,_,_,he⟩:=L A;exact .of (fun d w=>by simp [jW,bS he]) (fun w=>by simp [binOp]) (fun w=>by simp [binOp]) fun op w=>by simp [eqGuard]
 · obtain rfl :=kF hu;obtain rfl :=kF E;obtain ⟨A,C⟩:=I h;cases C;exact .of (fun d w=>DE d<|B1 A) (fun w=>by simp [binOp]) (fun w=>by simp [binOp]) fun op w=>by simp [eqGuard]
 · obtain ⟨ai,ae,rfl⟩:=vx hu;obtain rfl :=qO E;obtain ⟨A,C⟩:=I h;cases C;obtain ⟨_,he⟩:=M A;exact .of (fun d w=>by simp [jW,bS he]) (fun w=>by simp [binOp]) (fun w=>by simp [binOp]) fun op w=>by simp [eqGuard]
 · obtain rfl :=qO hu;obtain rfl :=qO E;obtain ⟨A,C⟩:=I h;cases C;simp only [bO] at A;obtain ⟨_,he⟩:=M A.1;have ad:=ac A.2;exact .of (fun d w=>by simp [jW,bS he]) (fun w=>by simp [binOp]) (fun w=>by simp [binOp]) (fun op w=>by
    cases x <;> cases y <;> first | (cases ad; done) | simp [eqGuard])
 · cases h
theorem JR {Z:Bool} {op:BinOp} {t aa:au} {a b v:AV} (C:Z=true→(bj x || bj y)=true) (h:yH P Z op t a b=some v) (I:den r a=some (ev N σ x)) (J:den r b=some (ev N σ y)):YP P r N σ ⟨dst,.binOp op t x y aa,ty,pos,af,g⟩ v:=by
 unfold yH at h;split at h
 · rename_i k a V b;have A:=dF I;have O:=dF J;have key:(cond (bC (eU k)<|eU V) (vO op k a b) none)=some v→YP P r N σ ⟨dst,.binOp op t x y aa,ty,pos,af,g⟩ v:=by
    intro E;cases C:bC (eU k) (eU V)
    · rw [C] at E; cases E
    · rw [C] at E;obtain rfl :=pd C;exact Mt E A O
   cases op <;> first
    | exact key h
    | (dsimp only at h
       split at h
       · exact Ph h A O
       · cases h)
 · exact PY h (jg I)<|jg J
 · split at h
   · split at h
     · rename_i q M;cases h;obtain ⟨A,_,L⟩:=DA C M I J;exact ⟨_,U,fun w=>by simp [execOp,A,L]⟩
     · cases h
   · split at h
     · rename_i q M;cases h;obtain ⟨_,A,L⟩:=DA C M I J;exact ⟨_,U,fun w=>by simp [execOp,A,L]⟩
     · cases h
   · cases h
end
def AT (e b o n c:Nat) (x:Bool) (i j:Nat):Option AV:=
 cond (bL i j) (cond x (cond (bL j c) (cond (bC c i) (some<|.sl b o (j - i) (c - i) true)<|some<|.sl b (o+i*e) (j - i) (c - i) true) none)
  (cond (bL j n && (bC i 0 || aZ i n)) (some<|.sl b (o+i*e) (j - i) (c+i) false) none)) none
def rV (P:av) (t:au) (x:AV) (lo hi:Option Nat):Option AV:=match x with
 | .str l=>cond (isStr P t && (bL (lo.getD 0) (hi.getD l.length) && bL (hi.getD l.length) l.length)) (some<|.str<|(l.take<|hi.getD l.length).drop<|lo.getD 0) none
 | .sl b o n c q=>match dH P t with
   | some e=>AT e b o n c q (lo.getD 0)<|hi.getD n
   | none=>none
 | .fW=>match dH P t with
   | some _=>cond (bC (lo.getD 0) 0 && bC (hi.getD 0) 0) (some .fW) none
   | none=>none
 | _=>none
def AS (P:av) (t:au) (lo hi mx:Option bA) (xs:List AV):Option AV:=match lo,hi,mx with
 | none,some _,none=>match xs with
   | [x,.int _ (.ofNat j)]=>rV P t x none<|some j
   | _=>none
 | some _,none,none=>match xs with
   | [x,.int _ (.ofNat i)]=>rV P t x (some i) none
   | _=>none
 | some _,some _,none=>match xs with
   | [x,.int _ (.ofNat i),.int _ (.ofNat j)]=>rV P t x (some i)<|some j
   | _=>none
 | none,some _,some _=>match xs with
   | [.sl b o n c q,.int _ (.ofNat j),.int _ (.ofNat m)]=>match dH P t with
     | some e=>cond (bC j m && bL m n) (some<|.sl b o j j true) none
     | none=>none
   | _=>none
 | some _,some _,some _=>match xs with
   | [.sl b o n c q,.int _ (.ofNat i),.int _ (.ofNat j),.int _ (.ofNat m)]=>match dH P t with
     | some e=>cond (bL i j && (bL j m && bL m n)) (cond (bC m i) (some<|.sl b o (j - i) (m - i) true)<|some<|.sl b (o+i*e) (j - i) (m - i) true) none
     | none=>none
   | _=>none
 | _,_,_=>none
section
variable {P:av} {r:Rn} {N:Fm} {σ:Nat→ah} {dst:Option Nat} {ty:au} {pos :String} {af:Array cH} {g:Option (Nat×Bool)} {x y z:bA}
theorem bE {α:Type} {c:Bool} {p:Option α} {q:α} (h:cond c p none=some q):c=true∧p=some q:=by
 cases c
 · cases h
 · exact ⟨U,h⟩
theorem nP {b o n c:Nat} {q:Loc} (A:r b=some q) (h:n≤c):den r (.sl b o n c true)=some (.slice (some ⟨q.ax,q.sh+o,none⟩) n c):=by
 simp only [den,A,cond_true,BQ h]
theorem qN {b o n c:Nat} {q:Loc} (A:r b=some q) (h:c+n≤q.room):den r (.sl b o n c false)=some (.slice (some ⟨q.ax,q.sh+o,none⟩) n<|q.room - c):=by
 simp only [den,A,cond_true,cond_false,BQ h]
theorem AU {e b o n c i j:Nat} {q:Bool} {v:AV} {u:ah} (h:AT e b o n c q i j=some v) (hu:den r (.sl b o n c q)=some u):
 ∃ a cap,u= .slice a n cap∧n≤cap∧i≤j∧j≤cap∧den r v=some (.slice (dV a cap i e) (j - i)<|cap - i):=by
 unfold AT at h;replace h:=bE h; obtain ⟨C,h⟩:=h;have C:=cE C;cases q
 · simp only [cond_false] at h;replace h:=bE h; obtain ⟨A,h⟩:=h;simp only [bO,lI] at A;obtain ⟨q,E,I,rfl⟩:=vy hu;have M:=cE A.1;cases h;refine ⟨_,_,U,ag,C,ag,?_⟩;have L:dV (some ⟨q.ax,q.sh+o,none⟩) (q.room - c) i e=some ⟨q.ax,q.sh+(o+i*e),none⟩:=by
    unfold dV;rcases A.2 with A | A
    · obtain rfl :=cO A;split
      · simp
      · simp [gw]
    · have :=dk.1 A;rw [if_neg ag];simp [gw,jy]
   rw [L,qN E ag,show q.room - (c+i)=q.room - c - i from by omega]
 · simp only [cond_true] at h;replace h:=bE h; obtain ⟨A,h⟩:=h;have A:=cE A;obtain ⟨q,E,I,rfl⟩:=Db hu;refine ⟨_,_,U,I,C,A,?_⟩;cases hb:bC c i
   · rw [hb] at h; cases h;have J:c≠i:=fun e=>by subst e; simp at hb
     rw [nP E ag];simp only [dV,if_neg J,e7,gw,jy]
   · rw [hb] at h; cases h;obtain rfl :=cO hb;rw [nP E ag];simp only [dV,if_true]
theorem nZ {t:au} (h:isStr P t=true):P.underlying t=some .string:=by
 unfold isStr at h; split at h
 · assumption
 · cases h
theorem Gz (c i e:Nat):dV none c i e=none:=by unfold dV; split <;> rfl
theorem Pm (a:Option Addr) (c e:Nat):dV a c 0 e=a:=by
 unfold dV; split
 · rfl
 · cases a <;> simp [Addr.add]
theorem Pp {t:au} {lo hi mx:Option bA} {xs:List AV} {v:AV} (h:AS P t lo hi mx xs=some v) (V:bc r xs=some ((x::(lo.toList++(hi.toList++mx.toList))).map<|ev N σ)):
 YP P r N σ ⟨dst,.slice t x lo hi mx,ty,pos,af,g⟩ v:=by
 unfold AS at h;split at h
 · rename_i z;split at h
   · rename_i a k j;obtain ⟨C,I⟩:=jI (u:=ev N σ x) (v:=ev N σ z) V;have E:=dF I;unfold rV at h;split at h
     · replace h:=bE h; obtain ⟨A,h⟩:=h;simp only [bO,sM,jz] at A;cases h;refine ⟨_,U,fun w=>(rZ (nZ A.1) (jg C) E ⟨ig _,?_⟩).trans ?_⟩
       · have :=cE A.2.2; simp; omega
       · simp
     · split at h
       · rename_i e he;obtain ⟨a,cap,hu,aa,J,L,M⟩:=AU h C;simp only [sM,jz] at J L M;refine ⟨_,M,fun w=>(rX he hu E ⟨ig _,by simp; omega⟩).trans ?_⟩;simp [Pm]
       · cases h
     · split at h
       · rename_i e he;replace h:=bE h; obtain ⟨A,h⟩:=h;simp only [bO,sM,jz] at A;obtain rfl :=cO A.2;cases h;exact ⟨_,U,fun w=>rX he (jL C) E ⟨ig _,by simp⟩⟩
       · cases h
     · cases h
   · cases h
 · rename_i z;split at h
   · rename_i a k j;obtain ⟨C,I⟩:=jI (u:=ev N σ x) (v:=ev N σ z) V;have E:=dF I;unfold rV at h;split at h
     · replace h:=bE h; obtain ⟨A,h⟩:=h;simp only [bO,sM,jz] at A;cases h;refine ⟨_,U,fun w=>(mw (nZ A.1) (jg C) E ⟨ig _,?_⟩).trans ?_⟩
       · have :=cE A.2.1; simp; omega
       · simp
     · split at h
       · rename_i e he;obtain ⟨a,cap,hu,aa,J,L,M⟩:=AU h C;simp only [sM,jz] at J L M;exact ⟨_,M,fun w=>tX he hu E ⟨ig _,by simp; omega⟩⟩
       · cases h
     · split at h
       · rename_i e he;replace h:=bE h; obtain ⟨A,h⟩:=h;simp only [bO,sM,jz] at A;obtain rfl :=cO A.1;cases h;exact ⟨_,U,fun w=>(tX he (jL C) E ⟨ig _,by simp⟩).trans<|by simp [Gz]⟩
       · cases h
     · cases h
   · cases h
 · rename_i y z;split at h
   · rename_i a k i ae j;obtain ⟨C,I,J⟩:=nO (u:=ev N σ x) (v:=ev N σ y) (t:=ev N σ z) V;have O:=dF I;have E:=dF J;unfold rV at h;split at h
     · replace h:=bE h; obtain ⟨A,h⟩:=h;simp only [bO,jz] at A;cases h;have :=cE A.2.1;have :=cE A.2.2;exact ⟨_,U,fun w=>ox (nZ A.1) (jg C) O E ⟨ig _,by simp; omega,by simp; omega⟩⟩
     · split at h
       · rename_i e he;obtain ⟨a,cap,hu,aa,L,M,ac⟩:=AU h C;simp only [jz] at L M ac;exact ⟨_,ac,fun w=>xl he hu O E ⟨ig _,by simp; omega,by simp; omega⟩⟩
       · cases h
     · split at h
       · rename_i e he;replace h:=bE h; obtain ⟨A,h⟩:=h;simp only [bO,jz] at A;obtain rfl :=cO A.1;obtain rfl :=cO A.2;cases h;exact ⟨_,U,fun w=>(xl he (jL C) O E ⟨ig _,by simp,by simp⟩).trans<|by simp [Gz]⟩
       · cases h
     · cases h
   · cases h
 · rename_i y z;split at h
   · rename_i b o n c q k j ae m;obtain ⟨C,I,J⟩:=nO (u:=ev N σ x) (v:=ev N σ y) (t:=ev N σ z) V;have O:=dF I;have E:=dF J;split at h
     · rename_i e he;replace h:=bE h; obtain ⟨A,h⟩:=h;simp only [bO] at A;obtain rfl :=cO A.1;have :=cE A.2;cases h;obtain ⟨q,cap,ab,aa,hu,_⟩:=j8 C;exact ⟨_,nP ab (bf _),fun w=>CG he hu O E ag⟩
     · cases h
   · cases h
 · rename_i y z u;split at h
   · rename_i b o n c q k i ae j al m;obtain ⟨_,_,Z,C,L⟩:=fw V;obtain ⟨I,J,L⟩:=nO (u:=ev N σ y) (v:=ev N σ z) (t:=ev N σ u)<|by simp at Z; rw [L,← Z.2]
     have O:=dF I;have E:=dF J;have hu:=dF L;simp at Z;rw [← Z.1] at C;split at h
     · rename_i e he;replace h:=bE h; obtain ⟨A,h⟩:=h;simp only [bO] at A;have aj:=cE A.1;have ak:=cE A.2.1;have am:=cE A.2.2;obtain ⟨q,cap,ab,aa,ai,_⟩:=j8 C;have ad:=fun w=>GC (dst:=dst) (ty:=ty) (pos :=pos) (af:=af) (g:=g) (w:=w) he ai O E hu ⟨aj,ak,ag⟩;cases hb:bC m i
       · rw [hb] at h; cases h;have ah:m≠i:=fun e=>by subst e; simp at hb
         refine ⟨_,nP ab ag,fun w=>(ad w).trans ?_⟩;simp only [dV,if_neg ah,e7,gw,jy]
       · rw [hb] at h; cases h;obtain rfl :=cO hb;refine ⟨_,nP ab ag,fun w=>(ad w).trans ?_⟩;simp only [dV,if_true]
     · cases h
   · cases h
 · cases h
end
end Go.Hb
namespace Go.Hb
def mQ:AV→List AV
 | .agg l=>l
 | v=> [v]
theorem yO {r:Rn} {v:AV} {u:ah} (h:den r v=some u):bc r (mQ v)=some u.cells.toList:=by
 cases v with
 | agg l=>
   obtain ⟨us,C,rfl⟩:=td h;simpa [mQ,Value.cells] using C
 | bool b=>have :=kF h; subst this; exact ff h<|by simp [bc]
 | int k n=>have :=dF h; subst this; exact ff h<|by simp [bc]
 | str l=>have :=jg h; subst this; exact ff h<|by simp [bc]
 | ptr b o=>obtain ⟨q,A,rfl⟩:=j7 h; exact ff h<|by simp [bc]
 | jl=>have :=qP h; subst this; exact ff h<|by simp [bc]
 | sl b o n c x=>obtain ⟨q,cap,A,_,rfl,_⟩:=j8 h; exact ff h<|by simp [bc]
 | fW=>have :=jL h; subst this; exact ff h<|by simp [bc]
 | map b=>obtain ⟨q,A,rfl⟩:=o4 h; exact ff h<|by simp [bc]
 | mg=>have :=Da h; subst this; exact ff h<|by simp [bc]
 | fn f a c=>obtain ⟨_,_,_,_,rfl⟩:=nQ h; exact ff h<|by simp [bc]
 | iS l=>obtain ⟨q,A,rfl⟩:=y7 h; exact ff h<|by simp [bc]
 | kf=>have :=tf h; subst this; exact ff h<|by simp [bc]
 | jP t v=>obtain ⟨_,_,rfl⟩:=vx h; exact ff h<|by simp [bc]
 | fJ=>have :=qO h; subst this; exact ff h<|by simp [bc]
 | dg l=>obtain ⟨_,_,rfl⟩:=Dc h; exact ff h<|by simp [bc]
def wx:AV→Bool
 | .agg _ | .dg _=>false
 | _=>true
theorem NT {r:Rn} {v:AV} {u:ah} (h:den r v=some u) (C:wx v=true):u.oneCell'=true :=by
 cases v with
 | agg l=>cases C
 | bool b=>have :=kF h; subst this; rfl
 | int k n=>have :=dF h; subst this; rfl
 | str l=>have :=jg h; subst this; rfl
 | ptr b o=>obtain ⟨q,A,rfl⟩:=j7 h; rfl
 | jl=>have :=qP h; subst this; rfl
 | sl b o n c x=>obtain ⟨q,cap,A,_,rfl,_⟩:=j8 h; rfl
 | fW=>have :=jL h; subst this; rfl
 | map b=>obtain ⟨q,A,rfl⟩:=o4 h; rfl
 | mg=>have :=Da h; subst this; rfl
 | fn f a c=>obtain ⟨_,_,_,_,rfl⟩:=nQ h; rfl
 | iS l=>obtain ⟨q,A,rfl⟩:=y7 h; rfl
 | kf=>have :=tf h; subst this; rfl
 | jP t v=>obtain ⟨_,_,rfl⟩:=vx h; rfl
 | fJ=>have :=qO h; subst this; rfl
 | dg l=>cases C
def fC:List AV→Bool
 | []=>true
 | v::l=>cond (wx v) (fC l) false
theorem ru {r:Rn} :∀ {l:List AV} {us:List ah},bc r l=some us→fC l=true→∀ u∈us,u.oneCell'=true
 | [],us,h,_,u,hu=>by rw [lX h] at hu; cases hu
 | v::l,us,h,h1,u,hu=>by
   obtain ⟨E,I,rfl,A,C⟩:=fw h;simp only [fC] at h1;cases hv:wx v
   · rw [hv] at h1; cases h1
   · rw [hv] at h1;rcases ew.1 hu with rfl | hu
     · exact NT A hv
     · exact ru C h1 u hu
def o7 (pl:Nat→Option (Nat×Nat)):List AV→List (Nat×AV)→Option (List AV)
 | A,[]=>some A
 | A,(i,v)::ps=>match pl i with
   | some (off,s)=>cond (bC (mQ v).length s && bL (off+s) A.length) (o7 pl (A.take off++(mQ v++A.drop (off+s))) ps) none
   | none=>none
theorem DQ:∀ (l:List ah) (m off :Nat) (cs:Array ah),off+m+l.length≤cs.size→
 (l.zipIdx m).foldl (fun (cs:Array ah) (c,j)=>cs.setIfInBounds (off+j) c) cs=(cs.toList.take (off+m)++(l++cs.toList.drop (off+m+l.length))).toArray
 | [],m,off,cs,h=>by simp
 | c::l,m,off,cs,h=>by
   simp only [List.zipIdx_cons,List.foldl_cons,cn] at h ⊢;rw [DQ l (m+1) off _ (by simp; omega)];apply su.1;have A:off+m < cs.toList.length:=by rw [pV]; omega
   simp only [Array.toList_setIfInBounds];rw [show off+(m+1)=off+m+1 from by omega,Gv A,Gu ag,show off+m+1 +l.length=off+m+(l.length+1) from by omega];simp
theorem zk {r:Rn} {pl:Nat→Option (Nat×Nat)} :∀ {ps:List (Nat×AV)} {I L:List AV} {Z:List ah} {vs:List (Nat×ah)},o7 pl I ps=some L→bc r I=some Z→
 vs.map dj=ps.map dj→bc r (ps.map jA)=some (vs.map jA)→∃ C,bc r L=some C∧ko pl Z.toArray vs=some C.toArray
 | [],I,L,Z,vs,h,hz,A,E=>by
   simp only [o7,bR] at h;subst h;obtain rfl :vs= []:=by simpa using A
   exact ⟨Z,hz,U⟩
 | (i,v)::ps,I,L,Z,vs,h,hz,A,E=>by
   cases vs with
   | nil=>simp at A
   | cons p vs=>
     obtain ⟨j,u⟩:=p;simp only [fZ,lM] at A;obtain ⟨rfl,A⟩:=A;simp only [fZ] at E;obtain ⟨al,am,he,ag,E⟩:=fw E;simp only [lM] at he;obtain ⟨rfl,rfl⟩:=he;simp only [o7] at h;split at h
     · rename_i off s ae;replace h:=bE h; obtain ⟨J,h⟩:=h;simp only [bO] at J;have V:=cO J.1;have aj:=cE J.2;have M:=yO ag;have ad:=dZ M;have ak:=dZ hz;have ai:=gH (kE off hz)<|gH M<|ln (off+s) hz;obtain ⟨C,aa,ab⟩:=zk h ai A E;refine ⟨C,aa,?_⟩;have O:u.cells.size=s:=by rw [← pV,ad,V]
       simp only [ko,ae,O];rw [if_neg (by simp; omega),← ab];congr 1;have ac:=DQ u.cells.toList 0 off Z.toArray<|by simp; omega
       rw [show u.cells.zipIdx.foldl (fun (cs:Array ah) (c,j)=>cs.setIfInBounds (off+j) c) Z.toArray=((u.cells.toList.zipIdx 0).foldl (fun (cs:Array ah) (c,j)=>cs.setIfInBounds (off+j) c) Z.toArray) from by
        rw [← xO]; simp [Array.toList_zipIdx],ac]
       simp [O]
     · cases h
def nv:List (Nat×bA)→List AV→List (Nat×AV)
 | p::ps,v::vs=>(p.1,v)::nv ps vs
 | _,_=> []
theorem Bt {r:Rn} {f:bA→ah} :∀ {ps:List (Nat×bA)} {xs:List AV},bc r xs=some ((ps.map (·.2)).map f)→
 (ps.map fun p=>(p.1,f p.2)).map dj=(nv ps xs).map dj∧bc r ((nv ps xs).map jA)=some ((ps.map fun p=>(p.1,f p.2)).map jA)
 | [],xs,h=>by
   have :=dZ h;obtain rfl :xs= []:=ku<|by simpa using this.symm
   simp [nv,bc]
 | p::ps,[],h=>by have :=dZ h; simp at this
 | p::ps,v::xs,h=>by
   simp only [fZ] at h;obtain ⟨u,us,he,A,C⟩:=fw h;simp only [lM] at he;obtain ⟨rfl,rfl⟩:=he;obtain ⟨E,I⟩:=Bt (f:=f) C;refine ⟨?_,?_⟩
   · simp only [fZ,nv,lM,true_and]; exact E
   · simp only [fZ,nv]; exact ff A I
def CJ (P:av) (t u:au) (n:Int):Option AV:=match P.underlying u with
 | some (.int k)=>cond (P.underlying t).isSome (gC k<|pS k n) none
 | _=>none
def yI (P:av) (b:Builtin) (A:Array au) (xs:List AV):Option AV:=match b with
 | .len=>match xs,A with
   | [.str l],⟨[t]⟩=>cond (isStr P t) (gC .i64 l.length) none
   | [.sl _ _ n _ _],⟨[t]⟩=>cond (lz P t) (gC .i64 n) none
   | [.fW],⟨[t]⟩=>cond (lz P t) (gC .i64 0) none
   | _,_=>none
 | .min =>match xs with
   | [.int k a,.int k' b]=>cond (bC (eU k)<|eU k') (gC k<|min a b) none
   | _=>none
 | .max =>match xs with
   | [.int k a,.int k' b]=>cond (bC (eU k)<|eU k') (gC k<|max a b) none
   | _=>none
 | _=>none
def Cn (P:av) (t:au):Option (Nat×Nat):=match P.underlying t with
 | some (.array n e)=>match P.info? e with
   | some i=>match dD P e with
     | some none=>some (n,i.size)
     | _=>none
   | none=>none
 | _=>none
def pE (P:av) (o:Op) (xs:List AV):Option AV:=match o with
 | .move _=>match xs with
   | [x]=>some x
   | _=>none
 | .assign _=>match xs with
   | [x]=>some x
   | _=>none
 | .pick _ _ _=>match xs with
   | [.bool true,a,_]=>some a
   | [.bool false,_,b]=>some b
   | _=>none
 | .nilCheck _=>match xs with
   | [.ptr b o]=>some<|.ptr b o
   | _=>none
 | .extract _ i=>match xs with
   | [.dg l]=>l[i]?
   | _=>none
 | .fieldAddr s _ f=>match xs with
   | [.ptr b o]=>match qU P s f with
     | some n=>some<|.ptr b<|o+n
     | none=>none
   | _=>none
 | .field s _ f=>match xs with
   | [.agg l]=>match zi P s f with
     | some n=>l[n]?
     | none=>match zj P s f with
       | some (C,off)=>match dD P C with
         | some (some n)=>some<|.agg<|(l.drop off).take n
         | _=>none
       | none=>none
   | _=>none
 | .indexAddr s _ _=>match xs with
   | [.sl b o n _ _,.int _ (.ofNat i)]=>match dH P s with
     | some e=>cond (aZ i n) (some<|.ptr b<|o+i*e) none
     | none=>none
   | [.ptr b o,.int _ (.ofNat i)]=>match mP P s with
     | some (n,e)=>cond (aZ i n) (some<|.ptr b<|o+i*e) none
     | none=>none
   | _=>none
 | .index t _ _=>match xs with
   | [.str l,.int _ (.ofNat i)]=>cond (isStr P t) (match l[i]? with
     | some c=>gC .u8 c.toNat
     | none=>none) none
   | [.agg l,.int _ (.ofNat i)]=>match Cn P t with
     | some (n,s)=>cond (aZ i n) l[i*s]? none
     | none=>none
   | _=>none
 | .binOp op t x y _=>match xs with
   | [a,b]=>yH P (bj x || bj y) op t a b
   | _=>none
 | .unOp .not _ _=>match xs with
   | [.bool b]=>some<|.bool<|!b
   | _=>none
 | .convert t u _=>match xs with
   | [.int _ n]=>CJ P t u n
   | _=>none
 | .slice t _ lo hi mx=>AS P t lo hi mx xs
 | .makeInterface t _=>match xs with
   | [x]=>cond (mc P t) (some<|.jP t x) none
   | _=>none
 | .typeAssert _ _ a true =>match xs with
   | [.fJ]=>cond (mc P a) (match zeroV P a with
     | some z=>match kM 4 z with
       | some z=>some<|.dg [z,.bool false]
       | none=>none
     | none=>none) none
   | [.jP t v]=>cond (mc P a && bC t a) (some<|.dg [v,.bool true]) none
   | _=>none
 | .makeFunc (.func f) ⟨a⟩ _=>some<|.fn f (xs.take a.length)<|xs.drop a.length
 | .build t ⟨ps⟩=>match eF P t with
   | some (pl,A)=>match mh (kM 4) A with
     | some A=>match o7 (fun i=>pl.toArray[i]?) A (nv ps xs) with
       | some l=>some<|.agg l
       | none=>none
     | none=>none
   | none=>none
 | .call ⟨.builtin b,_,ts⟩=>yI P b ts xs
 | _=>none
section
variable {P:av} {r:Rn} {N:Fm} {σ:Nat→ah} {dst:Option Nat} {ty:au} {pos :String} {af:Array cH} {g:Option (Nat×Bool)} {x y z:bA}
theorem tz {t:au} (h:lz P t=true):∃ e,P.underlying t=some (.slice e):=by
 unfold lz at h; split at h
 · exact ⟨_,by assumption⟩
 · cases h
theorem JT {b:Builtin} {l:List bA} {J:Array au} {xs:List AV} {v:AV} (h:yI P b J xs=some v) (E:bc r xs=some (l.map<|ev N σ)):YP P r N σ ⟨dst,.call ⟨.builtin b,⟨l⟩,J⟩,ty,pos,af,g⟩ v:=by
 unfold yI at h;have one:∀ {a:AV},bc r [a]=some (l.map<|ev N σ)→∃ x,l= [x]∧den r a=some (ev N σ x):=by
  intro a h;have :=dZ h;simp at this;obtain ⟨x,rfl⟩:=uI.1 this;exact ⟨x,U,gj h⟩
 have two:∀ {a b:AV},bc r [a,b]=some (l.map<|ev N σ)→∃ x y,l= [x,y]∧den r a=some (ev N σ x)∧den r b=some (ev N σ y):=by
  intro a b h;have :=dZ h;simp at this;obtain ⟨x,y,rfl⟩:∃ x y,l= [x,y]:=by
   match l,this with
   | [x,y],_=>exact ⟨x,y,rfl⟩
  exact ⟨x,y,U,jI h⟩
 split at h
 · split at h
   · obtain ⟨x,rfl,C⟩:=one E;replace h:=bE h; obtain ⟨A,h⟩:=h;rw [gY] at h; cases h;exact ⟨_,U,fun w=>EO (nZ A) U<|jg C⟩
   · obtain ⟨x,rfl,C⟩:=one E;replace h:=bE h; obtain ⟨A,h⟩:=h;rw [gY] at h; cases h;obtain ⟨e,he⟩:=tz A;obtain ⟨q,cap,M,_,hu,_⟩:=j8 C;exact ⟨_,U,fun w=>zU he U hu⟩
   · obtain ⟨x,rfl,C⟩:=one E;replace h:=bE h; obtain ⟨A,h⟩:=h;rw [gY] at h; cases h;obtain ⟨e,he⟩:=tz A;exact ⟨_,U,fun w=>zU he U<|jL C⟩
   · cases h
 · split at h
   · rename_i k a L b;obtain ⟨x,y,rfl,C,I⟩:=two E;replace h:=bE h; obtain ⟨A,h⟩:=h;obtain rfl :=pd A;rw [gY] at h; cases h;exact ⟨_,U,fun w=>mn (dF C)<|dF I⟩
   · cases h
 · split at h
   · rename_i k a L b;obtain ⟨x,y,rfl,C,I⟩:=two E;replace h:=bE h; obtain ⟨A,h⟩:=h;obtain rfl :=pd A;rw [gY] at h; cases h;exact ⟨_,U,fun w=>mx (dF C)<|dF I⟩
   · cases h
 · cases h
theorem JS {t:au} {parts:Array (Nat×bA)} {pl:List (Nat×Nat)} {C L:List ah} (h:eF P t=some (pl,C)) (A:ko (pl.toArray[·]?) C.toArray (parts.toList.map fun p=>(p.1,ev N σ p.2))=some L.toArray) (w:ai):
 (execOp (ev N σ) ⟨dst,.build t parts,ty,pos,af,g⟩).run P w= .ok (.value<|.agg L.toArray) w:=by
 unfold eF at h;split at h
 · rename_i it fields hi hu;split at h
   · rename_i z I E hm;simp only [bR,kY] at h;obtain ⟨rfl,rfl⟩:=h;have hb:P.built t (parts.map fun p=>(p.1,ev N σ p.2)).toList=some L.toArray:=by
      simp only [Array.toArray_toList] at A;simp only [Program.built,hi,hu,E,hm,ju]; exact A
     simp [execOp,run_build w t _ _ hb]
   · cases h
 · cases h
theorem Fw {o:Op} {xs:List AV} {v:AV} (h:pE P o xs=some v) (E:bc r xs=some ((iz o).map<|ev N σ)):YP P r N σ ⟨dst,o,ty,pos,af,g⟩ v:=by
 unfold pE at h;split at h
 · split at h
   · cases h; exact ⟨_,gj E,fun w=>mv⟩
   · cases h
 · split at h
   · cases h; exact ⟨_,gj E,fun w=>aT⟩
   · cases h
 · split at h
   · cases h;obtain ⟨A,I,aa⟩:=nO E;exact ⟨_,I,fun w=>rG<|kF A⟩
   · cases h;obtain ⟨A,I,aa⟩:=nO E;exact ⟨_,aa,fun w=>rF<|kF A⟩
   · cases h
 · split at h
   · cases h;have A:=gj E;obtain ⟨q,O,hu⟩:=j7 A;exact ⟨_,A.trans (by rw [hu]),fun w=>nc hu⟩
   · cases h
 · split at h
   · obtain ⟨us,L,hu⟩:=Dc<|gj E;obtain ⟨u,V,Z⟩:=qM L h;exact ⟨u,Z,fun w=>xt hu<|by simpa using V⟩
   · cases h
 · split at h
   · split at h
     · rename_i n hn;cases h;obtain ⟨q,O,hu⟩:=j7<|gj E;exact ⟨_,by simp only [den,O]; rfl,fun w=>(fa hn hu).trans<|by rw [jy]⟩
     · cases h
   · cases h
 · split at h
   · split at h
     · rename_i n hn;obtain ⟨us,L,hu⟩:=td<|gj E;obtain ⟨u,V,Z⟩:=qM L h;exact ⟨u,Z,fun w=>LR hn hu<|by simpa using V⟩
     · split at h
       · rename_i ao off aj;split at h
         · rename_i n ha;cases h;obtain ⟨us,L,hu⟩:=td<|gj E;have A:=kE n<|ln off L;exact ⟨_,by simp only [den,A],fun w=>L1 aj ha hu U⟩
         · cases h
       · cases h
   · cases h
 · split at h
   · split at h
     · rename_i e he;replace h:=bE h; obtain ⟨J,h⟩:=h;cases h;obtain ⟨A,I⟩:=jI E;obtain ⟨q,cap,O,L,hu,_⟩:=j8 A;have :=dk.1 J;refine ⟨_,by simp only [den,O]; rfl,fun w=>(ia he hu (dF I) ⟨ig _,by simp; omega⟩).trans ?_⟩;simp [jy]
     · cases h
   · split at h
     · rename_i n e he;replace h:=bE h; obtain ⟨J,h⟩:=h;cases h;obtain ⟨A,I⟩:=jI E;obtain ⟨q,O,hu⟩:=j7 A;have :=dk.1 J;refine ⟨_,by simp only [den,O]; rfl,fun w=>(pc he hu (dF I) ⟨ig _,by simp; omega⟩).trans ?_⟩;simp [jy]
     · cases h
   · cases h
 · split at h
   · rename_i t _ _ l k i;replace h:=bE h; obtain ⟨J,h⟩:=h;obtain ⟨A,I⟩:=jI E;split at h
     · rename_i c L;rw [gY] at h; cases h;obtain ⟨am,ae⟩:=dX.1 L;refine ⟨_,U,fun w=>(dc (nZ J) (jg A) (dF I) am).trans ?_⟩;simp [cW,L]
     · cases h
   · rename_i l k i;split at h
     · rename_i n s M;replace h:=bE h; obtain ⟨J,h⟩:=h;have J:=dk.1 J;obtain ⟨A,I⟩:=jI E;obtain ⟨us,L,hu⟩:=td A;obtain ⟨u,V,Z⟩:=qM L h;have an:=dF I;unfold Cn at M;split at M
       · rename_i ap e hn;split at M
         · rename_i j ak;split at M
           · rename_i ha;cases M;refine ⟨u,Z,fun w=> ?_⟩;have ae:us.toArray[i*j.size]? =some u:=by simpa using V
             have h0:(0:Int)≤mJ i∧mJ i < (n:Int):=⟨ig _,by simp; omega⟩
             simp only [execOp,Instr.index,hu,an,asIntOf,ie,jY,gS,bS hn,Sem.run_ite,h0,and_self,if_true,sizeOf,eh ak,part,Ge ha];simp [ae]
           · cases M
         · cases M
       · cases M
     · cases h
   · cases h
 · split at h
   · obtain ⟨A,I⟩:=jI E;exact JR (fun h=>h) h A I
   · cases h
 · split at h
   · cases h; exact ⟨_,rfl,fun w=>no<|kF<|gj E⟩
   · cases h
 · split at h
   · unfold CJ at h;split at h
     · rename_i k al;replace h:=bE h; obtain ⟨J,h⟩:=h;rw [gY,um] at h; cases h;exact ⟨_,U,fun w=>KM al J (dF<|gj E) U⟩
     · cases h
   · cases h
 · exact Pp h E
 · split at h
   · replace h:=bE h; obtain ⟨J,h⟩:=h;cases h;have A:=gj E;exact ⟨_,by simp only [den,A],fun w=>Ag J U⟩
   · cases h
 · split at h
   · replace h:=bE h; obtain ⟨J,h⟩:=h;split at h
     · rename_i z ab;split at h
       · rename_i au ac;cases h;have aa:=og (r:=r) 4 ac;exact ⟨_,by simp [den,bc,aa],fun w=>G6 J ab<|qO<|gj E⟩
       · cases h
     · cases h
   · replace h:=bE h; obtain ⟨J,h⟩:=h;simp only [bO] at J;obtain rfl :=cO J.2;cases h;obtain ⟨ar,A,I⟩:=vx<|gj E;exact ⟨_,by simp [den,bc,A],fun w=>G5 J.1 I⟩
   · cases h
 · rename_i f a c;cases h;simp only [iz,kA] at E;obtain ⟨c⟩:=c;simp only at E;have A:=kE a.length E;have I:=ln a.length E;rw [List.take_left' (by simp)] at A;rw [List.drop_left' (by simp)] at I;exact ⟨_,by simp only [den,A,I],fun w=>ri⟩
 · rename_i t ps;split at h
   · rename_i pl av M;split at h
     · rename_i aw ab;split at h
       · rename_i l ah;cases h;have ac:=rq (r:=r) (fun v a=>og 4) ab;obtain ⟨A,I⟩:=Bt (f:=ev N σ) E;obtain ⟨C,ag,ai⟩:=zk ah ac A I;exact ⟨.agg C.toArray,by simp only [den,ag],fun w=>JS M ai w⟩
       · cases h
     · cases h
   · cases h
 · rename_i b ad aq;obtain ⟨ad⟩:=ad;exact JT h E
 · cases h
end
end Go.Hb
namespace Go.Hb
theorem EY {r s:Rn} (h:r.le s):∀ {l:List (AV×AV)} {es:List MapEntry},iw r l es→iw s l es
 | [],[],_=>trivial
 | p::l,m::es,hm=>⟨mV h hm.1,mV h hm.2.1,EY h hm.2.2⟩
 | [],_::_,hm=>hm.elim
 | _::_,[],hm=>hm.elim
theorem OR.le {P:av} {r s:Rn} (h:r.le s) {q:Loc} {o:AO} {ob:Option Obj} (I:OR P r q o ob):OR P s q o ob:=by
 cases o with
 | cells l e fz ex=>obtain ⟨c,fr,us,A,C,E⟩:=I; exact ⟨c,fr,us,A,jJ h C,E⟩
 | map l=>obtain ⟨es,c,A,C,E⟩:=I; exact ⟨es,c,A,EY h C,E⟩
 | loop st U n fr ps aT body D=>
   obtain ⟨fn,L,O,A,⟨x,C,E⟩,h4,h5⟩:=I;refine ⟨fn,L,O,A,⟨x,h _ _ C,E⟩,h4,fun i hi=> ?_⟩;have J:=h5 i hi;have M:i < L.size:=ag;rw [pU M] at J ⊢;exact mV h J
 | mW b=>exact I
 | A3 l p=>exact I
structure HR (P:av) (G:Nat) (r:Rn) (T:Nat) (h:Hp) (w:ai):Prop where
 live:∀ i o,h.t.get i=some o→∃ q,r i=some q∧OR P r q o w.heap[q.ax]?
 inj:∀ i j o o' q q',h.t.get i=some o→h.t.get j=some o'→r i=some q→r j=some q'→q.ax=q'.ax→i=j
 new:∀ i,h.nx≤i→i < T→r i=none
 gX:qz G r
 base:G≤h.nx
def Fr (G:Nat) (r:Rn) (h:Hp) (k:Nat):Prop := ∃ i o q,G≤i∧h.t.get i=some o∧r i=some q∧q.ax=k
structure St (P:av) (G T:Nat) (r:Rn) (h:Hp) (w:ai) (r':Rn) (h':Hp) (w':ai):Prop where
 le:r.le r'
 hr:HR P G r' T h' w'
 nx:h.nx≤h'.nx
 md:Md (Fr G r h) w w'
 fB:∀ g,g≤G→∀ k,k < w.heap.size→Fr g r' h' k→Fr g r h k
 out:∀ i,h'.nx≤i→r' i=r i
theorem St.trans {P:av} {G T:Nat} {r r' L:Rn} {h E I:Hp} {w w' w'':ai} (a:St P G T r h w r' E w') (b:St P G T r' E w' L I w''):St P G T r h w L I w'':=
 ⟨Rn.le_trans a.le b.le,b.hr,cQ a.nx b.nx,Md.trans' a.md b.md (fun k A C=>a.fB G (bf _) k A C),fun g J k A C=>a.fB g J k A (b.fB g J k (oI A a.md.size) C),fun i hi=>(b.out i hi).trans<|a.out i<|cQ b.nx hi⟩
theorem St.refl {P:av} {G T:Nat} {r:Rn} {h:Hp} {w:ai} (hr:HR P G r T h w):St P G T r h w r h w:=⟨Rn.le_refl r,hr,bf _,Md.refl _ _,fun _ _ _ _ h=>h,fun _ _=>rfl⟩
theorem St.drew {P:av} {G T:Nat} {r r':Rn} {h A:Hp} {w w':ai} (a:St P G T r h w.drew r' A w'):St P G T r h w r' A w':=⟨a.le,a.hr,a.nx,⟨a.md.os,a.md.output,a.md.size,a.md.dA⟩,a.fB,a.out⟩
section
variable {P:av} {G:Nat} {r:Rn} {T:Nat} {h:Hp} {w:ai}
theorem HR.drew (hr:HR P G r T h w):HR P G r T h w.drew:=⟨hr.live,hr.inj,hr.new,hr.gX,hr.base⟩
theorem HR.cells (hr:HR P G r T h w) {b:Nat} {l:List AV} {e fz:Nat} {ex:Ck} (hb:h.t.get b=some (.cells l e fz ex)):
 ∃ q us,r b=some q∧bc r l=some us∧(∀ j u,us[j]? =some u→aO w.heap q.ax (q.sh+j)=some u)∧∃ c fr,w.heap[q.ax]? =some (.cells c e fr):=by
 obtain ⟨q,J,c,fr,us,A,C,L,E,_⟩:=hr.live b _ hb;exact ⟨q,us,J,C,fun j u I=>by rw [eC A]; exact E j u I,c,fr,A⟩
def YL (P:av) (r:Rn) (N:Fm) (σ:Nat→ah) (o:aJ) (w:ai) (v:AV):Prop := ∃ u,den r v=some u∧(execOp (ev N σ) o).run P w= .ok (.value u) w
end
def pP:List AV→Option (List UInt8)
 | []=>some []
 | .int .u8 (.ofNat n)::l=>match pP l with
   | some m=>cond (aZ n 256) (some (ga n::m)) none
   | none=>none
 | _=>none
theorem A9 {r:Rn} :∀ {l:List AV} {m:List UInt8} {us:List ah},pP l=some m→bc r l=some us→us=U8 m
 | [],m,us,h,hd=>by simp only [pP,bR] at h; subst h; rw [lX hd]; rfl
 | a::l,m,us,h,hd=>by
   unfold pP at h;split at h
   · rename_i h0; cases h0
   · rename_i n I h0;cases h0;split at h
     · rename_i J hm;replace h:=bE h; obtain ⟨E,h⟩:=h;cases h;obtain ⟨u,L,rfl,A,C⟩:=fw hd;obtain rfl :=dF A;obtain rfl :=A9 hm C;have :=dk.1 E;simp only [U8,fZ,lM,and_true];congr 1;exact (Qe n this).symm
     · cases h
   · cases h
inductive KK | s | i (k:bY) | bs
def pk (P:av) (k:au) (a:AV):Option KK:=match a with
 | .str _=>cond (isStr P k) (some .s) none
 | .int q _=>match P.underlying k with
   | some (.int _)=>some<|.i q
   | _=>none
 | .agg _=>cond (oY P k) (some .bs) none
 | _=>none
def eO (A:KK) (a:AV):Bool:=match A,a with
 | .s,.str _=>true
 | .i k,.int k' _=>bC (eU k)<|eU k'
 | .bs,.agg [.bool _,.str _]=>true
 | _,_=>false
def gy (A:KK):List (AV×AV)→Bool
 | []=>true
 | p::l=>cond (eO A p.1) (gy A l) false
def qZ:KK→ah→Prop
 | .s=>Mx
 | .i k=>Ep k
 | .bs=>zK
where Mx (v:ah):Prop := ∃ s:List UInt8,v=str s
def ir (a b:AV):Bool:=match a,b with
 | .str l,.str m=>jM l m
 | .int _ a,.int _ b=>decide (a=b)
 | .agg [.bool a,.str l],.agg [.bool b,.str m]=>cond (a==b) (jM l m) false
 | _,_=>false
def n6 (x:AV):List (AV×AV)→Option AV
 | []=>none
 | p::l=>cond (ir p.1 x) (some p.2)<|n6 x l
section
variable {P:av} {r:Rn}
theorem vS {C:KK} {a:AV} {u:ah} (h:eO C a=true) (A:den r a=some u):qZ C u:=by
 unfold eO at h;split at h
 · exact ⟨_,jg A⟩
 · rename_i k O n;obtain rfl :=pd h;exact ⟨_,dF A⟩
 · obtain ⟨us,E,rfl⟩:=td A;obtain ⟨V,aa,rfl,I,J⟩:=fw E;obtain ⟨Z,ab,rfl,L,M⟩:=fw J;obtain rfl :=lX M;obtain rfl :=kF I;obtain rfl :=jg L;exact ⟨_,_,U⟩
 · cases h
theorem EB {a:AV} (h:eO .s a=true):∃ l,a= .str l:=by
 cases a with
 | str l=>exact ⟨l,rfl⟩
 | _=>exact dw (show false =true from h)
theorem EA {k:bY} {a:AV} (h:eO (.i k) a=true):∃ n,a= .int k n:=by
 cases a with
 | int A n=>exact ⟨n,by rw [pd (show bC (eU k) (eU A)=true from h)]⟩
 | _=>exact dw (show false =true from h)
theorem Ez {a:AV} (h:eO .bs a=true):∃ f l,a= .agg [.bool f,.str l]:=by
 unfold eO at h;split at h <;> first
  | exact ⟨_,_,rfl⟩
  | contradiction
  | (exfalso; cases h; done)
  | (rename_i A; cases A; done)
  | (rename_i A _; cases A; done)
theorem C9 {f:Bool} {l:List UInt8} {u:ah} (h:den r (.agg [.bool f,.str l])=some u):u= .agg #[.bool f,str l]:=by simpa [den,bc] using h.symm
theorem str_inj {l m:List UInt8} (h:str l=str m):l=m:=by unfold str at h; cases h; rfl
theorem na {I:KK} {a b:AV} {u v:ah} (A:eO I a=true) (C:eO I b=true) (hu:den r a=some u) (E:den r b=some v):ir a b=true↔u=v:=by
 cases I with
 | s=>
   obtain ⟨l,rfl⟩:=EB A;obtain ⟨m,rfl⟩:=EB C;rw [jg hu,jg E];simp only [ir,qR,decide_eq_true_iff];exact ⟨fun h=>by rw [h],str_inj⟩
 | i k=>
   obtain ⟨l,rfl⟩:=EA A;obtain ⟨m,rfl⟩:=EA C;rw [dF hu,dF E];simp only [ir,decide_eq_true_iff];exact ⟨fun h=>by rw [h],fun h=>by cases h; rfl⟩
 | bs=>
   obtain ⟨f,l,rfl⟩:=Ez A;obtain ⟨g,m,rfl⟩:=Ez C;rw [C9 hu,C9 E];simp only [ir,qR];cases hab:(f==g)
   · have :f≠g:=by simpa using hab
     exact ⟨fun h=>dw h,fun h=>by simp at h; exact absurd h.1 this⟩
   · obtain rfl :f=g:=by simpa using hab
     simp only [cond_true,decide_eq_true_iff];exact ⟨fun h=>by rw [h],fun h=>by simp at h; exact str_inj h⟩
theorem zN {k:au} {a:AV} {C:KK} (h:pk P k a=some C):qA P k (qZ C):=by
 unfold pk at h;split at h
 · replace h:=bE h; obtain ⟨A,h⟩:=h;cases h;exact (zM<|nZ A).key
 · split at h
   · cases h; exact (Ex<|by assumption).key
   · cases h
 · replace h:=bE h; obtain ⟨A,h⟩:=h;cases h;exact ML A
 · cases h
theorem vZ {A:KK} :∀ {l:List (AV×AV)} {es:List MapEntry},iw r l es→gy A l=true→∀ p∈es.map (fun e=>(e.key,e.val)),qZ A p.1
 | [],[],_,_,p,hp=>by simp at hp
 | q::l,m::es,hm,hk,p,hp=>by
   simp only [gy] at hk;cases h1:eO A q.1
   · rw [h1] at hk; cases hk
   · rw [h1] at hk;rcases ew.1 hp with rfl | hp
     · exact vS h1 hm.1
     · exact vZ hm.2.2 hk p hp
 | [],_::_,hm,_,_,_=>hm.elim
 | _::_,[],hm,_,_,_=>hm.elim
theorem Ew {E:KK} {x v:AV} {kx:ah} (C:eO E x=true) (A:den r x=some kx):∀ {l:List (AV×AV)} {es:List MapEntry},iw r l es→gy E l=true→n6 x l=some v→∃ u,den r v=some u∧(kx,u)∈es.map (fun e=>(e.key,e.val))
 | [],_,_,_,h=>by cases h
 | q::l,[],hm,_,_=>hm.elim
 | q::l,m::es,hm,hk,h=>by
   simp only [gy] at hk;cases h1:eO E q.1
   · rw [h1] at hk; cases hk
   · rw [h1] at hk;simp only [n6] at h;cases he:ir q.1 x
     case true =>
      have he:=(na h1 C hm.1 A).1 he;rw [(na h1 C hm.1 A).2 he] at h;cases h;exact ⟨m.val,hm.2.1,by rw [← he]; exact lN⟩
     case false =>
      rw [he] at h;obtain ⟨u,I,J⟩:=Ew C A hm.2.2 hk h;exact ⟨u,I,mK _ J⟩
theorem zL {C:KK} {x:AV} {kx:ah} (I:eO C x=true) (E:den r x=some kx):∀ {l:List (AV×AV)} {es:List MapEntry},iw r l es→gy C l=true→n6 x l=none→∀ v,(kx,v)∉es.map (fun e=>(e.key,e.val))
 | [],[],_,_,_,v=>by simp
 | [],_::_,hm,_,_,_=>hm.elim
 | q::l,[],hm,_,_,_=>hm.elim
 | q::l,m::es,hm,hk,h,v=>by
   simp only [gy] at hk;cases h1:eO C q.1
   · rw [h1] at hk; cases hk
   · rw [h1] at hk;simp only [n6] at h;cases he:ir q.1 x
     case true =>rw [he] at h; cases h
     case false =>
      rw [he] at h;intro J;rcases ew.1 J with A | A
      · cases A; have :=(na h1 I hm.1 E).2 rfl; rw [he] at this; cases this
      · exact zL I E hm.2.2 hk h v A
end
end Go.Hb
namespace Go.Hb
def CK (P:av) (t u:au) (x:AV) (h:Hp):Option AV:=match x with
 | .sl _ _ 0 _ _=>match P.underlying t with
   | some (.slice e)=>cond (nN P t e u) (some<|.str []) none
   | _=>none
 | .sl b o n _ _=>match h.t.get b with
   | some (.cells l e _ _)=>cond (nN P t e u && bL (o+n) l.length) (match pP ((l.drop o).take n) with
     | some m=>some<|.str m
     | none=>none) none
   | _=>none
 | .fW=>match P.underlying t with
   | some (.slice e)=>cond (nN P t e u) (some<|.str []) none
   | _=>none
 | .ptr b 0=>match h.t.get b with
   | some (.cells l e 0 .x)=>cond (pQ P t u e l.length || pQ P u t e l.length) (some<|.ptr b 0) none
   | _=>none
 | _=>none
def vT (P:av) (t:au) (x:AV) (h:Hp):Option AV:=match x with
 | .ptr b o=>match h.t.get b with
   | some (.cells l _ _ _)=>match dD P t with
     | some none=>l[o]?
     | some (some n)=>cond (bL (o+n) l.length) (some<|.agg<|(l.drop o).take n) none
     | none=>none
   | _=>none
 | _=>none
def kO (P:av) (o:Op) (xs:List AV) (h:Hp):Option AV:=match o with
 | .load t _=>match xs with
   | [x]=>vT P t x h
   | _=>none
 | .lookup t _ _ ok=>match xs with
   | [.map b,k]=>match h.t.get b with
     | some (.map l)=>match P.underlying t with
       | some (.map kt e)=>match pk P kt k with
         | some A=>cond (eO A k && gy A l) (match n6 k l with
           | some v=>some<|cond ok (.dg [v,.bool true]) v
           | none=>match zeroV P e with
             | some z=>match kM 4 z with
               | some z=>some<|cond ok (.dg [z,.bool false]) z
               | none=>none
             | none=>none) none
         | none=>none
       | _=>none
     | _=>none
   | _=>none
 | .convert t u _=>match xs with
   | [x]=>CK P t u x h
   | _=>none
 | .slice t _ none none none=>match xs with
   | [.ptr b 0]=>match h.t.get b with
     | some (.cells _ _ _ .x)=>match mP P t with
       | some (n,_)=>some<|.sl b 0 n n true
       | none=>none
     | _=>none
   | _=>none
 | .call ⟨.builtin .len,_,⟨[t]⟩⟩=>match xs with
   | [.map b]=>match h.t.get b with
     | some (.map l)=>match P.underlying t with
       | some (.map _ _)=>gC .i64 l.length
       | _=>none
     | _=>none
   | _=>none
 | _=>none
section
variable {P:av} {G:Nat} {r:Rn} {T:Nat} {h:Hp} {w:ai} {N:Fm} {σ:Nat→ah} {dst:Option Nat} {ty:au} {pos :String} {af:Array cH} {g:Option (Nat×Bool)} {x y z:bA}
theorem EZ:∀ {l:List (AV×AV)} {es:List MapEntry},iw r l es→es.length=l.length
 | [],[],_=>rfl
 | p::l,m::es,hm=>by simp [EZ hm.2.2]
 | [],_::_,hm=>hm.elim
 | _::_,[],hm=>hm.elim
theorem HR.map (hr:HR P G r T h w) {b:Nat} {l:List (AV×AV)} (hb:h.t.get b=some (.map l)):∃ q es c,r b=some q∧w.heap[q.ax]? =some (.map es c)∧iw r l es.toList∧(es.toList.map fun e=>e.key).Nodup:=by
 obtain ⟨q,I,es,c,A,C,E⟩:=hr.live b _ hb;exact ⟨q,es,c,I,A,C,E⟩
theorem EG (hr:HR P G r T h w) {t:au} {a v:AV} {v0:ah} (A:vT P t a h=some v) (V:den r a=some v0):∃ b off u,v0= .pointer (some ⟨b,off,none⟩)∧den r v=some u∧
 ((dD P t=some none∧aO w.heap b off =some u)∨∃ (n:Nat) (cs:List ah),dD P t=some (some n)∧u= .agg cs.toArray∧cs.length=n∧∀ j,j < n→aO w.heap b (off+j)=cs[j]?):=by
 unfold vT at A;split at A
 · rename_i b o;split at A
   · rename_i l _ _ _ hb;obtain ⟨q,us,aa,E,I,_⟩:=hr.cells hb;obtain ⟨q',L,rfl⟩:=j7 V;rw [aa] at L; cases L;split at A
     · rename_i ha;obtain ⟨u,C,M⟩:=qM E A;exact ⟨_,_,u,U,M,.inl ⟨ha,I _ _ C⟩⟩
     · rename_i n ha;replace A:=bE A; obtain ⟨O,A⟩:=A;have hle:=cE O;cases A;have C:=kE n<|ln o E;have hlen:=dZ E;refine ⟨_,_,.agg ((us.drop o).take n).toArray,U,by simp only [den,C],.inr ⟨n,_,ha,U,by simp; omega,fun j Z=> ?_⟩⟩;rw [j0,if_pos Z,kz];have J:o+j < us.length:=ag;rw [jy,cI J];exact I _ _<|cI J
     · cases A
   · cases A
 · cases A
theorem Fv (hr:HR P G r T h w) {o:Op} {xs:List AV} {v:AV} (A:kO P o xs h=some v) (Z:bc r xs=some ((iz o).map<|ev N σ)):YL P r N σ ⟨dst,o,ty,pos,af,g⟩ w v:=by
 unfold kO at A;split at A
 · split at A
   · obtain ⟨b,off,u,O,hu,J⟩:=EG hr A<|gj Z;rcases J with ⟨ha,E⟩ | ⟨n,cs,ha,rfl,aa,E⟩
     · exact ⟨u,hu,ld ha O E⟩
     · exact ⟨_,hu,fi ha O aa E⟩
   · cases A
 · rename_i t a b ok;split at A
   · rename_i b k;split at A
     · rename_i l hb;obtain ⟨q,es,c,L,hw,hm,hn⟩:=hr.map hb;obtain ⟨J,M⟩:=jI Z;obtain ⟨q',C,hu⟩:=o4 J;rw [L] at C; cases C;split at A
       · rename_i kt e ae;split at A
         · rename_i ay ar;replace A:=bE A; obtain ⟨E,A⟩:=A;simp only [bO] at E;have aj:=zN ar;have al:lR w.heap q.ax (es.toList.map fun e=>(e.key,e.val)):=⟨es,c,hw,rfl⟩
           have ak:=vZ hm E.2;have hi:=vS E.1 M;split at A
           · rename_i az ai;cases A;obtain ⟨u,V,ab⟩:=Ew E.1 M hm E.2 ai;refine ⟨if ok then .tuple #[u,.bool true] else u,?_,EK ae aj al ak hu U hi (by rw [yd]; exact hn) ab⟩;cases ok
             · exact V
             · simp [den,bc,V]
           · rename_i ai;have ab:=zL E.1 M hm E.2 ai;split at A
             · rename_i z av;split at A
               · rename_i aA aw;cases A;have V:=og (r:=r) 4 aw;refine ⟨if ok then .tuple #[z,.bool false] else z,?_,EL ae av aj al ak hu U hi ab⟩;cases ok
                 · exact V
                 · simp [den,bc,V]
               · cases A
             · cases A
         · cases A
       · cases A
     · cases A
   · cases A
 · rename_i t u a;split at A
   · rename_i x;have O:=gj Z;unfold CK at A;split at A
     · split at A
       · rename_i e he;replace A:=bE A; obtain ⟨I,A⟩:=A;cases A;obtain ⟨q',cap,C,hn,hu,_⟩:=j8 O;exact ⟨_,U,lW I hu (aU.nil _ _) U⟩
       · cases A
     · rename_i b o n c q _;split at A
       · rename_i l e _ _ hb;obtain ⟨q,us,L,aa,E,_⟩:=hr.cells hb;obtain ⟨q',cap,C,hn,hu,_⟩:=j8 O;rw [L] at C; cases C;replace A:=bE A; obtain ⟨I,A⟩:=A;simp only [bO] at I;have hle:=cE I.2;split at A
         · rename_i m hm;cases A;have J:=kE n<|ln o aa;have M:=A9 hm J;have hlen:=dZ aa;have au:m.length=n:=by
            have :=congrArg jx M;simp [vd] at this;omega
           refine ⟨_,U,lW I.1 hu ⟨fun _=>rfl,fun j u ac=> ?_⟩ au⟩;rw [← M,j0] at ac;split at ac
           · rw [kz] at ac;show aO w.heap q.ax (q.sh+o+j)=some u;rw [jy]; exact E _ _ ac
           · cases ac
         · cases A
       · cases A
     · split at A
       · rename_i e he;replace A:=bE A; obtain ⟨I,A⟩:=A;cases A;exact ⟨_,U,lW I (jL O) (aU.nil _ _) U⟩
       · cases A
     · rename_i b;split at A
       · rename_i l e hb;replace A:=bE A; obtain ⟨I,A⟩:=A;cases A;obtain ⟨q,L,c,fr,us,J,M,V,ab,an,ao,ah,ap⟩:=hr.live b _ hb;obtain ⟨ad,am,rfl⟩:=ah.1 rfl;obtain ⟨q',C,hu⟩:=j7 O;rw [L] at C; cases C;rw [ad] at hu;have aq:c=c.toList.toArray:=by simp
         rw [aq] at J;refine ⟨_,O.trans (congrArg some hu),?_⟩;rcases HY.1 I with I | I
         · exact Hc I hu J<|by simpa using am
         · exact D8 I hu J<|by simpa using am
       · cases A
     · cases A
   · cases A
 · split at A
   · rename_i b;split at A
     · rename_i hb;split at A
       · rename_i n _ hn;cases A;obtain ⟨q,L,c,fr,us,J,M,V,ab,an,ao,ah,ap⟩:=hr.live b _ hb;obtain ⟨ad,_,_⟩:=ah.1 rfl;obtain ⟨q',C,hu⟩:=j7<|gj Z;rw [L] at C; cases C;rw [ad] at hu;exact ⟨_,by rw [nP L (bf _),ad],JJ hn hu⟩
       · cases A
     · cases A
   · cases A
 · rename_i ag t;split at A
   · rename_i b;split at A
     · rename_i l hb;obtain ⟨q,es,c,L,hw,hm,hn⟩:=hr.map hb;split at A
       · rename_i ae;rw [gY] at A; cases A;obtain ⟨ag⟩:=ag;have aa:=dZ Z;obtain ⟨x,rfl⟩:∃ x,ag= [x]:=uI.1<|by simpa [iz] using aa
         obtain ⟨q',C,hu⟩:=o4<|gj Z;rw [L] at C; cases C;refine ⟨_,U,?_⟩;have :=EN (dst:=dst) (ty:=ty) (pos :=pos) (af:=af) (g:=g) (P:=P) ae rfl hu hw;rw [this];have :=EZ hm;rw [pV] at this;rw [this]
       · cases A
     · cases A
   · cases A
 · cases A
end
end Go.Hb
namespace Go.Hb
def Rn.ext (r:Rn) (i:Nat) (q:Loc):Rn:=fun k=>if k=i then some q else r k
theorem Rn.jh (r:Rn) (i:Nat) (q:Loc):r.ext i q i=some q:=if_pos rfl
theorem Rn.lx (r:Rn) {i k:Nat} (q:Loc) (h:k≠i):r.ext i q k=r k:=if_neg h
theorem Rn.tB {r:Rn} {i:Nat} (q:Loc) (h:r i=none):r.le (r.ext i q):=fun k x A=>by
 by_cases e:k=i
 · subst e; rw [h] at A; cases A
 · rw [Rn.lx r q e]; exact A
theorem OR.obj {P:av} {r:Rn} {q:Loc} {o:AO} {ob:Option Obj} (h:OR P r q o ob):∃ b,ob=some b:=by
 cases o with
 | cells l e fz ex=>obtain ⟨c,fr,us,A,_⟩:=h; exact ⟨_,A⟩
 | map l=>obtain ⟨es,c,A,_⟩:=h; exact ⟨_,A⟩
 | loop st C n fr ps aT body D=>obtain ⟨_,_,_,A,_⟩:=h; exact ⟨_,A⟩
 | mW b=>exact ⟨_,h⟩
 | A3 l p=>exact ⟨_,h⟩
section
variable {P:av} {G:Nat} {r:Rn} {T:Nat} {h:Hp} {w:ai}
theorem qz.le {r s:Rn} (A:qz G r) (h:r.le s):qz G s:=fun g C=>let ⟨m,hm⟩:=A g C; ⟨m,h _ _ hm⟩
theorem HR.lt (hr:HR P G r T h w) {i:Nat} {o:AO} {q:Loc} (hi:h.t.get i=some o) (E:r i=some q):q.ax < w.heap.size:=by
 obtain ⟨q',A,C⟩:=hr.live i o hi;rw [E] at A; cases A;obtain ⟨b,hb⟩:=C.obj;exact (cr.1 hb).1
theorem HR.put (hr:HR P G r T h w) {i Z:Nat} {o:AO} {q:Loc} {r':Rn} {w':ai} (hle:r.le r') (hi:aZ i di=true) (V:r' i=some q) (ad:OR P r' q o w'.heap[q.ax]?)
 (hw:∀ k,k≠q.ax→k < w.heap.size→w'.heap[k]? =w.heap[k]?) (U:∀ j L q',j≠i→h.t.get j=some L→r j=some q'→q'.ax≠q.ax)
 (ac:h.nx≤Z) (ab:∀ k,Z≤k→k < T→r' k=none):HR P G r' T ⟨h.t.set i o,Z⟩ w':=by
 refine ⟨fun j L A=> ?_,fun j k M O ag ah A I C J he=> ?_,ab,hr.gX.le hle,cQ hr.base ac⟩
 · rw [Tr.nW _ _ _ _ hi] at A;split at A
   · rename_i e; subst e; cases A; exact ⟨q,V,ad⟩
   · rename_i e;obtain ⟨q',C,E⟩:=hr.live j L A;refine ⟨q',hle _ _ C,?_⟩;rw [hw _ (U j L q' e A C) (hr.lt A C)];exact E.le hle
 · simp only [Tr.nW _ _ _ _ hi] at A I;split at A
   · rename_i e;split at I
     · rename_i e'; rw [e,e']
     · rename_i e';exfalso;subst e;rw [V] at C; cases C;obtain ⟨q',E,_⟩:=hr.live k O I;rw [hle _ _ E] at J; cases J;exact U k O _ e' I E he.symm
   · rename_i e;split at I
     · rename_i e';exfalso;subst e';rw [V] at J; cases J;obtain ⟨q',E,_⟩:=hr.live j M A;rw [hle _ _ E] at C; cases C;exact U j M _ e A E he
     · obtain ⟨q',E,_⟩:=hr.live j M A;obtain ⟨ae,aa,_⟩:=hr.live k O I;rw [hle _ _ E] at C; cases C;rw [hle _ _ aa] at J; cases J;exact hr.inj j k M O _ _ A I E aa he
theorem HR.del (hr:HR P G r T h w) {i:Nat} (hi:aZ i di=true):HR P G r T ⟨h.t.del i,h.nx⟩ w:=by
 refine ⟨fun j o A=> ?_,fun j k E I J L A C=> ?_,hr.new,hr.gX,hr.base⟩
 · rw [Tr.qY _ _ _ hi] at A;split at A
   · cases A
   · exact hr.live j o A
 · simp only [Tr.qY _ _ _ hi] at A C;split at A
   · cases A
   · split at C
     · cases C
     · exact hr.inj j k E I J L A C
theorem Fr.set {g:Nat} {r':Rn} {i O:Nat} {o:AO} {q:Loc} (hi:aZ i di=true) (M:r' i=some q) (hle:r.le r') (hr:HR P G r T h w) {k:Nat} (L:Fr g r' ⟨h.t.set i o,O⟩ k):k=q.ax∨Fr g r h k:=by
 obtain ⟨j,I,q',J,A,C,rfl⟩:=L;rw [Tr.nW _ _ _ _ hi] at A;split at A
 · rename_i e; subst e; rw [M] at C; cases C; exact .inl rfl
 · obtain ⟨V,E,_⟩:=hr.live j I A;have :=hle _ _ E;rw [C] at this; cases this;exact .inr ⟨j,I,_,J,A,E,U⟩
def YM (P:av) (G:Nat) (r:Rn) (T:Nat) (N:Fm) (σ:Nat→ah) (o:aJ) (h:Hp) (w:ai) (v:AV) (A:Hp):Prop :=
 ∃ r' u w',den r' v=some u∧((execOp (ev N σ) o).run P w= .ok (.value u) w'∨(execOp (ev N σ) o).run P w= .ok .skip w'∧u=undef)∧St P G T r h w r' A w'
def dQ (h:Hp) (o:AO):Option Hp:=cond (aZ h.nx di) (some ⟨h.t.set h.nx o,h.nx+1⟩) none
theorem Nv (w:ai) (ob:Obj) (F:Nat→Prop):Md F w {w with heap:=w.heap.push ob} :=
 ⟨rfl,rfl,by simp,fun k A _=>by simp only [xR]; rw [if_neg ag]⟩
theorem HR.dQ (hr:HR P G r T h w) {o:AO} {C:Hp} (hn:dQ h o=some C) (hT:C.nx≤T) (room:Nat) {w':ai} {ob:Obj} (I:w'.heap=w.heap.push ob) (aa:w'.os=w.os) (ab:w'.output=w.output) (Z:∀ r',r.le r'→r' h.nx=some ⟨w.heap.size,0,room⟩→OR P r' ⟨w.heap.size,0,room⟩ o (some ob)):
 ∃ r',r' h.nx=some ⟨w.heap.size,0,room⟩∧St P G T r h w r' C w':=by
 unfold Hb.dQ at hn;replace hn:=bE hn; obtain ⟨J,hn⟩:=hn;cases hn;simp only at hT;have hle:=Rn.tB (i:=h.nx) ⟨w.heap.size,0,room⟩<|hr.new h.nx (bf _) ag;have L:∀ k,k < w.heap.size→w'.heap[k]? =w.heap[k]? :=fun k A=>by rw [I,xR,if_neg ag]
 refine ⟨r.ext h.nx ⟨w.heap.size,0,room⟩,Rn.jh _ _ _,hle,hr.put hle J (Rn.jh _ _ _) ?_ (fun k _ V=>L k V) (fun j ae q' ad O ac=> ?_) (nF _) (fun k A U=> ?_),nF _,⟨aa,ab,by rw [I]; simp,fun k A _=>L k A⟩,fun g _ k A M=> ?_,fun k A=>Rn.lx _ _<|by simp only at A; omega⟩
 · rw [I]; simp only [xR,if_true]; exact Z _ hle<|Rn.jh _ _ _
 · have :=hr.lt O ac; simp only; omega
 · rw [Rn.lx _ _ ag]; exact hr.new k ag U
 · rcases Fr.set J (Rn.jh _ _ _) hle hr M with E | E
   · simp only at E; omega
   · exact E
theorem As {r':Rn} {l:List AV} {us:List ah} {e b:Nat} (A:bc r' l=some us) (C:fC l=true):OR P r' ⟨b,0,0⟩ (.cells l e 0 .x) (some<|.cells us.toArray e (0,0)):=
 ⟨us.toArray,(0,0),us,rfl,A,by simp [dZ A],fun j u E=>by simpa using E,bf _,ru A C,⟨fun _=>⟨rfl,by simp [dZ A],rfl⟩,fun _=>rfl⟩,fun s _=>by simp⟩
variable {N:Fm} {σ:Nat→ah} {dst:Option Nat} {ty:au} {pos :String} {af:Array cH} {g:Option (Nat×Bool)} {x y z:bA}
theorem YM.new (hr:HR P G r T h w) {o:aJ} {l:List AV} {us:List ah} {e:Nat} {A:Hp} {v:AV} {f:Nat→ah} (hn:Hb.dQ h (.cells l e 0 .x)=some A) (hT:A.nx≤T) (E:bc r l=some us) (C:fC l=true)
 (L:(execOp (ev N σ) o).run P w= .ok (.value<|f w.heap.size) {w with heap:=w.heap.push<|.cells us.toArray e (0,0)}) (M:∀ r':Rn,r' h.nx=some ⟨w.heap.size,0,0⟩→den r' v=some (f w.heap.size)):YM P G r T N σ o h w v A:=by
 obtain ⟨r',I,J⟩:=hr.dQ hn hT 0 (w':= {w with heap:=w.heap.push<|.cells us.toArray e (0,0)}) rfl rfl rfl fun r' hle _=>As (jJ hle E) C;exact ⟨r',_,_,M r' I,.inl L,J⟩
theorem HR.ng (hr:HR P G r T h w) {i:Nat} {o L:AO} {q:Loc} {w':ai} (hi:h.t.get i=some L) (hb:aZ i di=true) (E:r i=some q) (M:G≤i) (Z:OR P r q o w'.heap[q.ax]?) (hm:Md (fun k=>k=q.ax) w w'):
 St P G T r h w r ⟨h.t.set i o,h.nx⟩ w':=by
 have J:∀ g,g≤G→Fr g r h q.ax:=fun g C=>⟨i,L,q,cQ C M,hi,E,rfl⟩
 refine ⟨Rn.le_refl r,hr.put (Rn.le_refl r) hb E Z (fun k I V=>hm.dA k V I) (fun j aa ab U C A he=>U<|hr.inj j i _ _ _ _ C hi A E he) (bf _) hr.new,bf _,hm.mono fun k _ I=>by rw [I]; exact J G (bf _),fun g C k _ O=> ?_,fun _ _=>rfl⟩;rcases Fr.set hb E (Rn.le_refl r) hr O with A | A
 · rw [A]; exact J g C
 · exact A
end
end Go.Hb
namespace Go.Hb
def pj (x v:AV):List (AV×AV)→List (AV×AV)
 | []=> [(x,v)]
 | p::l=>cond (ir p.1 x) ((p.1,v)::l) (p::pj x v l)
def EC:KK→Bool
 | .bs=>false
 | _=>true
def rH (P:av) (t:au) (b:Nat) (k v:AV) (h:Hp):Option Hp:=match h.t.get b with
 | some (.map l)=>match P.underlying t with
   | some (.map kt e)=>match pk P kt k with
     | some A=>cond (aZ b di && (bL h.nx b==false) && (eO A k && gy A l) && (EC A || (n6 k l).isNone)) (some ⟨h.t.set b (.map<|pj k v l),h.nx⟩) none
     | none=>none
   | _=>none
 | _=>none
section
variable {P:av} {G:Nat} {r:Rn} {T:Nat} {h:Hp} {w:ai}
theorem E0 {x v:AV} {kx u:ah} {C:KK} (J:eO C x=true) (A:den r x=some kx) (I:den r v=some u) {m:MapEntry} (zF:m.key=kx) (E:m.val=u):∀ {l:List (AV×AV)} {es:List MapEntry},iw r l es→gy C l=true→(∀ e∈es,e.key≠kx)→iw r (pj x v l) (es++ [m])
 | [],[],_,_,_=>⟨by rw [zF]; exact A,by rw [E]; exact I,trivial⟩
 | [],_::_,hm,_,_=>hm.elim
 | _::_,[],hm,_,_=>hm.elim
 | q::l,e::es,hm,hk,hn=>by
   simp only [gy] at hk;cases h1:eO C q.1
   · rw [h1] at hk; cases hk
   · rw [h1] at hk;have he:ir q.1 x=false :=by
      cases hq:ir q.1 x
      · rfl
      · exact absurd ((na h1 J hm.1 A).1 hq)<|hn e lN
     simp only [pj,he,cond_false];exact ⟨hm.1,hm.2.1,E0 J A I zF E hm.2.2 hk fun e he=>hn e<|mK _ he⟩
theorem E1 {x v:AV} {kx u:ah} {A:KK} (E:eO A x=true) (C:den r x=some kx) (J:den r v=some u) {f:MapEntry→MapEntry} (I:∀ e,e.key=kx→(f e).key=kx∧(f e).val=u):∀ {l:List (AV×AV)} {es:List MapEntry} {j:Nat} {e':MapEntry},iw r l es→gy A l=true→
 es[j]? =some e'→e'.key=kx→(es.map fun e=>e.key).Nodup→iw r (pj x v l) (es.modify j f)
 | [],[],j,e',_,_,hj,_,_=>by simp at hj
 | [],_::_,_,_,hm,_,_,_,_=>hm.elim
 | _::_,[],_,_,hm,_,_,_,_=>hm.elim
 | q::l,e::es,0,e',hm,hk,hj,hk',_=>by
   simp only [gy] at hk;cases h1:eO A q.1
   · rw [h1] at hk; cases hk
   · simp only [ky,bR] at hj;subst hj;simp only [pj,(na h1 E hm.1 C).2 hk',cond_true];obtain ⟨L,M⟩:=I e hk';exact ⟨by show den r q.1=some (f e).key; rw [hm.1,L,hk'],by show den r v=some (f e).val; rw [M]; exact J,hm.2.2⟩
 | q::l,e::es,j+1,e',hm,hk,hj,hk',hn=>by
   simp only [gy] at hk;cases h1:eO A q.1
   · rw [h1] at hk; cases hk
   · rw [h1] at hk;simp only [jZ] at hj;simp only [fZ,sG] at hn;have he:ir q.1 x=false :=by
      cases hq:ir q.1 x
      · rfl
      · have :=(na h1 E hm.1 C).1 hq;exact absurd (iU.2 ⟨e',kX hj,hk'.trans this.symm⟩) hn.1
     simp only [pj,he,cond_false];exact ⟨hm.1,hm.2.1,E1 E C J I hm.2.2 hk hj hk' hn.2⟩
theorem MQ {k:au} {a:AV} {A:KK} (h:pk P k a=some A) (E:EC A=true):∀ w v,qZ A v→(uw v v).run P w= .ok v w:=by
 unfold pk at h;split at h
 · replace h:=bE h; obtain ⟨C,h⟩:=h;cases h;exact (zM<|nZ C).stays
 · split at h
   · cases h; exact (Ex<|by assumption).stays
   · cases h
 · replace h:=bE h; obtain ⟨C,h⟩:=h;cases h;cases E
 · cases h
theorem FM (hr:HR P G r T h w) {t:au} {b:Nat} {k v:AV} {V:Hp} {q:Loc} {kx u:ah} (Z:G≤b) (hp:rH P t b k v h=some V) (O:r b=some q) (E:den r k=some kx) (al:den r v=some u):
 ∃ w',(sB t (.map<|some q.ax) kx u).run P w= .ok () w'∧St P G T r h w r V w':=by
 unfold rH at hp;split at hp
 · rename_i l hb;split at hp
   · rename_i kt e ak;split at hp
     · rename_i ar ae;replace hp:=bE hp; obtain ⟨ac,hp⟩:=hp;simp only [bO] at ac;obtain ⟨⟨⟨ab,_⟩,hka,hkl⟩,hstay⟩:=ac;cases hp;obtain ⟨q',es,c,aj,hw,hm,hn⟩:=hr.map hb;rw [O] at aj; cases aj;have J:=zN ae;have hi:=vS hka E;have an:∀ e∈es.toList,qZ ar e.key:=vG rfl (vZ hm hkl);have ag:=(cr.1 hw).1;rcases J.find w kx es.toList hi an with ⟨L,ai⟩ | ⟨j,e',L,C,A⟩
       · refine ⟨{w with heap:=w.heap.setIfInBounds q.ax<|.map (es.push {key:=kx,val:=u,born:=c})<|c+1},by simp [sB,bS ak,run_getObj_map hw,J.check _ w kx hi,L,setObj,lK,hw],?_⟩;refine hr.ng hb ab O Z ?_ ⟨U,U,by simp,fun i _ M=>by simp only; rw [ny (fun e=>M e.symm)]⟩;refine ⟨_,_,by simp only; rw [oC ag],?_,?_⟩
         · simp only [xT];exact E0 hka E al U U hm hkl ai
         · simp only [xT,kA,fZ,List.map_nil];rw [List.nodup_append];refine ⟨hn,by simp,?_⟩;intro a ha b' aa am;simp at aa;subst am aa;obtain ⟨p,hp,aq⟩:=iU.1 ha;exact ai p hp aq
       · have ap:(uw kx kx).run P w= .ok kx w:=by
          rcases HY.1 hstay with I | I
          · exact MQ ae I w kx hi
          · exfalso;cases hg:n6 k l with
            | none=>exact zL hka E hm hkl hg e'.val<|by rw [← A]; exact iU.2 ⟨e',kX C,rfl⟩
            | some v=>rw [hg] at I; cases I
         have ao:es[j]? =some e':=by simpa using C
         refine ⟨{w with heap:=w.heap.setIfInBounds q.ax<|.map (es.modify j fun e=> {e with key:=kx,val:=u}) c},?_,?_⟩
         · simp [sB,bS ak,run_getObj_map hw,J.check _ w kx hi,L,ao,A,ap,setObj,lK,hw]
         · refine hr.ng hb ab O Z ?_ ⟨U,U,by simp,fun i _ M=>by simp only; rw [ny (fun e=>M e.symm)]⟩;refine ⟨_,_,by simp only; rw [oC ag],?_,?_⟩
           · rw [ur];exact E1 hka E al (fun e _=>⟨U,U⟩) hm hkl C A hn
           · rw [ur];have :(es.toList.modify j fun e=> {e with key:=kx,val:=u}).map (fun e=>e.key)=es.toList.map fun e=>e.key:=by
              apply ya;intro i;simp only [ij,List.getElem?_modify];by_cases ad:j=i
              · subst ad; rw [C]; simp [A]
              · simp [ad]
             rw [this]; exact hn
     · cases hp
   · cases hp
 · cases hp
end
def mq (A:List AV):Nat→List AV
 | 0=> []
 | n+1=>A++mq A n
def tY (P:av) (G:Nat) (t:au) (b o:Nat) (v:AV) (h:Hp):Option Hp:=match h.t.get b with
 | some (.cells l e fz ex)=>match cP P t with
   | some n=>cond ((bC (mQ v).length n && bL (o+n) l.length) && (bL fz o && (fC (mQ v) && (bL G b && aZ b di)))) (some ⟨h.t.set b (.cells (l.take o++(mQ v++l.drop (o+n))) e fz ex),h.nx⟩) none
   | none=>none
 | _=>none
def rW (P:av) (t:au):Option (Nat×Nat×Nat×List AV):=match P.underlying t with
 | some (.slice e)=>match P.info? e with
   | some i=>match i.zero with
     | some z=>match mh (kM 4) z.cells.toList with
       | some A=>cond (bC A.length i.size && (aZ 0 i.size && fC A)) (some (e,i.size,i.bytes,A)) none
       | none=>none
     | none=>none
   | none=>none
 | _=>none
def rz (P:av) (G:Nat) (o:Op) (xs:List AV) (h:Hp):Option (AV×Hp):=match o with
 | .alloc e=>match zeroOf P e with
   | some (some C)=>match mh (kM 4) C with
     | some l=>cond (fC l) (match dQ h (.cells l e 0 .x) with
       | some A=>some (.ptr h.nx 0,A)
       | none=>none) none
     | none=>none
   | _=>none
 | .box e _=>match xs with
   | [x]=>cond (fC<|mQ x) (match dQ h (.cells (mQ x) e 0 .x) with
     | some A=>some (.ptr h.nx 0,A)
     | none=>none) none
   | _=>none
 | .makeMap _ none=>match dQ h (.map []) with
   | some A=>some (.map h.nx,A)
   | none=>none
 | .buildSlice t n ⟨ps⟩=>match rW P t with
   | some (e,s,_,C)=>cond (bL (n*s) 16777216) (match o7 (fun i=>some (i*s,s)) (mq C n) (nv ps xs) with
     | some l=>cond (fC l) (match dQ h (.cells l e 0 .x) with
       | some A=>some (.sl h.nx 0 n n true,A)
       | none=>none) none
     | none=>none) none
   | none=>none
 | .makeSlice t _ _=>match xs with
   | [.int .i64 (.ofNat n),.int .i64 (.ofNat c)]=>match rW P t with
     | some (e,s,by_,C)=>cond (bL n c && (bL (by_*c) 281474976710656 && aZ c 9223372036854775808)) (match dQ h (.cells (mq C c) e 0 .x) with
       | some A=>some (.sl h.nx 0 n c true,A)
       | none=>none) none
     | none=>none
   | _=>none
 | .store t _ _=>match xs with
   | [.ptr b o,v]=>match tY P G t b o v h with
     | some A=>some (.dg [],A)
     | none=>none
   | _=>none
 | .mapUpdate t _ _ _=>match xs with
   | [.map b,k,v]=>cond (bL G b) (match rH P t b k v h with
     | some A=>some (.dg [],A)
     | none=>none) none
   | _=>none
 | .insert t _ _ _=>match xs with
   | [.map b,k,v]=>cond (bL G b) (match rH P t b k v h with
     | some A=>some (.dg [],A)
     | none=>none) none
   | _=>none
 | _=>none
section
variable {P:av} {G:Nat} {r:Rn} {T:Nat} {h:Hp} {w:ai} {N:Fm} {σ:Nat→ah} {dst:Option Nat} {ty:au} {pos :String} {af:Array cH} {g:Option (Nat×Bool)} {x y z:bA}
theorem j6 (r:Rn):den r (.dg [])=some undef:=by simp [den,bc]; rfl
theorem wT {r:Rn} {A:List AV} {Z:List ah} (h:bc r A=some Z):∀ n,bc r (mq A n)=some ((eM n Z).flatten)
 | 0=>by simp [mq,bc]
 | n+1=>by simp only [mq,I3,IL]; exact gH h<|wT h n
theorem Ft:∀ {l m:List AV},fC l=true→fC m=true→fC (l++m)=true
 | [],m,_,h=>h
 | a::l,m,h,h'=>by
   simp only [fC,List.cons_append] at h ⊢;cases ha:wx a
   · rw [ha] at h; cases h
   · rw [ha] at h; exact Ft h h'
theorem Ax {A:List AV} (h:fC A=true):∀ n,fC (mq A n)=true
 | 0=>rfl
 | n+1=>Ft h<|Ax h n
theorem Av (Z:Array ah) (A:0 < Z.size):∀ n,(nA<|n*Z.size).map (Z[· % Z.size]!)=((eM n Z.toList).flatten).toArray:=by
 intro n;apply su.1;simp only [ju,Array.toList_range]
 induction n with
 | zero=>simp
 | succ n ih=>
   rw [Nat.succ_mul,yn,List.range_add,kA,I3,IL,yd];congr 1
   · apply ya;intro i;simp only [ij];by_cases hi:i < Z.size
     · rw [List.getElem?_range hi,e7,Nat.mod_eq_of_lt hi];rw [getElem!_pos Z i hi];simp [hi]
     · rw [qk (by simp; omega),qk (by simp; omega)]; rfl
   · rw [← ih];apply List.map_congr_left;intro i _;simp
theorem xj {r:Rn} {t e s E:Nat} {C:List AV} (h:rW P t=some (e,s,E,C)):∃ i z,P.underlying t=some (.slice e)∧P.info? e=some i∧i.zero=some z∧i.size=s∧i.bytes=E∧z.cells.size=s∧0 < s∧bc r C=some z.cells.toList∧fC C=true∧C.length=s:=by
 unfold rW at h;split at h
 · rename_i e' hu;split at h
   · rename_i i hi;split at h
     · rename_i z L;split at h
       · rename_i O M;replace h:=bE h; obtain ⟨A,h⟩:=h;simp only [bO] at A;cases h;have I:=rq (r:=r) (fun v a=>og 4) M;have J:=cO A.1;have :=dZ I;exact ⟨i,z,hu,hi,L,U,U,by rw [← pV]; omega,dk.1 A.2.1,I,A.2.2,J⟩
       · cases h
     · cases h
   · cases h
 · cases h
theorem PQ (hr:HR P G r T h w) {t b o:Nat} {v:AV} {aa:Hp} {u:ah} (A:tY P G t b o v h=some aa) (ay:den r v=some u) (az:den r (.ptr b o)=some (ev N σ x)) (aA:ev N σ y=u):YM P G r T N σ ⟨dst,.store t x y,ty,pos,af,g⟩ h w (.dg []) aa:=by
 unfold tY at A;split at A
 · rename_i l e fz ex hb;split at A
   · rename_i n hn;replace A:=bE A; obtain ⟨ai,A⟩:=A;simp only [bO] at ai;obtain ⟨⟨I,c2⟩,c3,c4,J,c6⟩:=ai;have I:=cO I;have c2:=cE c2;have c3:=cE c3;have J:=cE J;cases A;obtain ⟨q,ak,c,fr,us,ab,M,aC,ac,ap,ad,ae,aq⟩:=hr.live b _ hb;obtain ⟨q',al,hu⟩:=j7 az;rw [ak] at al; cases al;have V:=yO ay;have av:=dZ V;have aE:=dZ M;have aj:=ru V c4;have hlen:u.cells.toList.length=n:=by rw [av,I]
     have bK:=run_storeCells_atF P q.ax (q.sh+o) e fr u.cells.toList 0 c w ab ag ag aj;unfold cP at hn;simp only [iW] at hn;obtain ⟨i,hi,A⟩:=hn;have aw:u.cells.size=n:=by rw [← pV,hlen]
     obtain ⟨L,O⟩:∃ L,c.toList.take (q.sh+o+0)++u.cells.toList++c.toList.drop (q.sh+o+0 +u.cells.toList.length)=L:=⟨_,rfl⟩
     rw [O] at bK;have aD:L.length=c.size:=by rw [← O]; simp; omega
     have ar:∀ k,L[k]? =if k < q.sh+o then c[k]? else if k < q.sh+o+n then u.cells.toList[k - (q.sh+o)]? else c[k]? :=by
      intro k;rw [← O,lO];by_cases E:k < q.sh+o
      · rw [if_pos E,iC,eZ (by simp; omega),j0,if_pos E]; simp
      · rw [if_neg E];by_cases Z:k < q.sh+o+n
        · rw [if_pos Z,eZ (by simp; omega),eH (by simp; omega)];congr 1; simp; omega
        · rw [if_neg Z,eH (by simp; omega),kz];simp only [bp,bX,pV,sp];congr 1; omega
     refine ⟨r,undef,w.setRow q.ax L.toArray,j6 r,.inr ⟨?_,U⟩,?_⟩
     · simp [execOp,Instr.storeAt,hu,aA,Instr.sureAddr,storeVar,sizeOf,eh hi,A,aw,bK]
     · refine hr.ng hb c6 ak J ?_ ⟨U,U,by simp,fun k _ au=>setRow_other w q.ax k _ au⟩;rw [setRow_heap w q.ax _ _ e _ ab];refine ⟨L.toArray,fr,us.take o++(u.cells.toList++us.drop (o+n)),U,gH (kE o M) (gH V<|ln (o+n) M),?_,fun j a C=> ?_,ap,?_,⟨fun hex=> ?_,ae.2⟩,fun s A=> ?_⟩
       · simp only [bp,bX,fY,fP]; omega
       · rw [nE,ar];by_cases E:j < o
         · rw [eZ (by simp; omega),j0,if_pos E] at C;rw [if_pos ag]; exact ac _ _ C
         · rw [eH (by simp; omega)] at C;rw [if_neg ag];have am:(us.take o).length=o:=by simp; omega
           rw [am] at C;by_cases Z:j < o+n
           · rw [eZ ag] at C;rw [if_pos ag,show q.sh+j - (q.sh+o)=j - o from by omega]; exact C
           · rw [eH ag,kz,hlen] at C;rw [if_neg ag];refine ac j a ?_;rw [← C]; congr 1; omega
       · intro a ha;rcases dz.1 ha with ha | ha
         · exact ad a<|yg ha
         · rcases dz.1 ha with ha | ha
           · exact aj a ha
           · exact ad a<|yf ha
       · obtain ⟨an,aB,ao⟩:=ae.1 hex;refine ⟨an,?_,ao⟩;simp only [bp,bX,fY,fP]; omega
       · have :=aq s A;simp only [fP]; omega
   · cases A
 · cases A
end
end Go.Hb
namespace Go.Hb
section
variable {P:av} {G:Nat} {r:Rn} {T:Nat} {h:Hp} {w:ai} {N:Fm} {σ:Nat→ah} {dst:Option Nat} {ty:au} {pos :String} {af:Array cH} {g:Option (Nat×Bool)} {x y z:bA}
theorem C6 {r':Rn} {i b room n c:Nat} (hi:r' i=some ⟨b,0,room⟩) (hn:n≤c):den r' (.sl i 0 n c true)=some (.slice (some ⟨b,0,none⟩) n c):=by
 rw [nP hi hn]
theorem LW {t e s n:Nat} {A L:List AV} {Z:ah} {ps:List (Nat×bA)} {xs:List AV} (ab:0 < s) (aa:Z.cells.size=s) (V:bc r A=some Z.cells.toList) (O:o7 (fun i=>some (i*s,s)) (mq A n) (nv ps xs)=some L) (M:bc r xs=some ((ps.map (·.2)).map<|ev N σ)):
 ∃ C,bc r L=some C∧ko (fun i=>some (i*s,s)) ((nA<|n*s).map (Z.cells[· % Z.cells.size]!)) (ps.map fun p=>(p.1,ev N σ p.2))=some C.toArray:=by
 obtain ⟨E,I⟩:=Bt (f:=ev N σ) M;obtain ⟨C,J,U⟩:=zk O (wT V n) E I;refine ⟨C,J,?_⟩;rw [← U];congr 1;have :=Av Z.cells ag n;rw [aa] at this ⊢;exact this
theorem NW (hr:HR P G r T h w) {o:Op} {xs:List AV} {v:AV} {aa:Hp} (A:rz P G o xs h=some (v,aa)) (hT:aa.nx≤T) (V:bc r xs=some ((iz o).map<|ev N σ)):YM P G r T N σ ⟨dst,o,ty,pos,af,g⟩ h w v aa:=by
 unfold rz at A;split at A
 · rename_i e;split at A
   · rename_i ap O;split at A
     · rename_i l ay;replace A:=bE A; obtain ⟨E,A⟩:=A;split at A
       · rename_i L hn;cases A;have aw:=rq (r:=r) (fun v a=>og 4) ay;unfold zeroOf at O;simp only [iW] at O;obtain ⟨i,hi,zv,aF,rfl⟩:=O;refine YM.new hr (f:=fun b=> .pointer<|some ⟨b,0,none⟩) hn hT aw E ?_ fun r' I=>by simp only [den,I]
         simp [execOp,xX,zeroValue,eh hi,aF,newVar,newRow]
       · cases A
     · cases A
   · cases A
 · rename_i e _;split at A
   · rename_i x;replace A:=bE A; obtain ⟨E,A⟩:=A;split at A
     · rename_i L hn;cases A;have J:=gj V;refine YM.new hr (f:=fun b=> .pointer<|some ⟨b,0,none⟩) hn hT (yO J) E ?_ fun r' I=>by simp only [den,I]
       simp [execOp,Instr.box,newVar,newRow]
     · cases A
   · cases A
 · split at A
   · rename_i L hn;cases A;obtain ⟨r',aA,I⟩:=hr.dQ hn hT 0 (w':= {w with heap:=w.heap.push<|.map #[] 0}) rfl rfl rfl fun r' hle _=>⟨#[],0,rfl,trivial,by simp⟩
     refine ⟨r',.map (some w.heap.size),_,by simp only [den,aA],.inl ?_,I⟩;simp [execOp,Instr.makeMap]
   · cases A
 · rename_i t n ps;split at A
   · rename_i e s aq ap O;replace A:=bE A; obtain ⟨E,A⟩:=A;have E:=cE E;split at A
     · rename_i l ax;replace A:=bE A; obtain ⟨J,A⟩:=A;split at A
       · rename_i L hn;cases A;obtain ⟨i,zv,hu,hi,ai,rfl,rfl,Z,am,aj,ao,aE⟩:=xj (r:=r) O;obtain ⟨C,av,ac⟩:=LW (N:=N) (σ:=σ) (t:=t) (e:=e) am Z aj ax V;refine YM.new hr (f:=fun b=> .slice (some ⟨b,0,none⟩) n n) hn hT av J ?_ fun r' I=>C6 I<|bf _;have aG:(ps.toArray.map fun p=>(p.1,ev N σ p.2)).toList=ps.map fun p=>(p.1,ev N σ p.2):=by simp
         by_cases al:n*i.size=0
         · have az:n=0:=by rcases Nat.mul_eq_zero.1 al with h | h; exact h; omega
           subst az;have ak:∀ f:Nat→ah,Array.map f (nA 0)= #[]:=fun f=>Array.eq_empty_of_size_eq_zero<|by simp
           rw [yq,ak] at ac;simp [execOp,uv,bS hu,sizeOf,eh hi,ak,ac,newRow]
         · simp only [execOp,uv,ie,bS hu,gS,sizeOf,eh hi,jY,Sem.run_ite,zeroValue,ai,ju,ac];rw [if_neg (by rw [show (2:Nat) ^ 24=16777216 from rfl]; omega),if_neg al];simp [newRow]
       · cases A
     · cases A
   · cases A
 · rename_i t _ _;split at A
   · rename_i n c;split at A
     · rename_i e s aq ap O;replace A:=bE A; obtain ⟨E,A⟩:=A;simp only [bO] at E;have ar:=cE E.1;have c2:=cE E.2.1;have c3:=dk.1 E.2.2;split at A
       · rename_i L hn;cases A;obtain ⟨i,zv,hu,hi,ai,rfl,rfl,Z,am,aj,ao,aE⟩:=xj (r:=r) O;have an:=run_make (P:=P) w t e i zv hu hi ai .i64 .i64 n c ag ag (by rw [← Int.natCast_mul]; omega) ag;have au:madeCells zv.cells (c*i.size)=((eM c zv.cells.toList).flatten).toArray:=by
          have :=Av zv.cells ag c;rw [Z] at this;rw [← this]; unfold madeCells; rw [Z]
         rw [Iz,Iz,au] at an;refine YM.new hr (f:=fun b=> .slice (some ⟨b,0,none⟩) n c) hn hT (wT aj c) (Ax ao c) ?_ fun r' I=>C6 I ar;obtain ⟨J,M⟩:=jI V;have aC:=dF J;have aD:=dF M;simp [execOp,aC,aD,an]
       · cases A
     · cases A
   · cases A
 · split at A
   · split at A
     · rename_i L aB;cases A;obtain ⟨J,M⟩:=jI V;exact PQ hr aB M J U
     · cases A
   · cases A
 · split at A
   · replace A:=bE A; obtain ⟨E,A⟩:=A;split at A
     · rename_i L hp;cases A;obtain ⟨J,M,ab⟩:=nO V;obtain ⟨q,ad,hu⟩:=o4 J;obtain ⟨w',ae,I⟩:=FM hr (cE E) hp ad M ab;exact ⟨r,undef,w',j6 r,.inr ⟨by simp [execOp,hu,ae],U⟩,I⟩
     · cases A
   · cases A
 · split at A
   · replace A:=bE A; obtain ⟨E,A⟩:=A;split at A
     · rename_i L hp;cases A;obtain ⟨J,M,ab⟩:=nO V;obtain ⟨q,ad,hu⟩:=o4 J;obtain ⟨w',ae,I⟩:=FM hr (cE E) hp ad M ab;exact ⟨r,undef,w',j6 r,.inr ⟨by simp [execOp,hu,ae],U⟩,I⟩
     · cases A
   · cases A
 · cases A
end
end Go.Hb
namespace Go.Hb
def xw:List UInt8→List AV
 | []=> []
 | c::l=> .int .u8 (mJ c.toNat)::xw l
def tc (o:Nat):Ck→Ck
 | .a=> .a
 | _=>match o with
   | 0=> .z
   | _=> .a
theorem CF {o:Nat} {e:Ck} :tc o e≠.x:=by
 cases e <;> simp only [tc] <;> first | (intro h; cases h; done) | (split <;> intro h <;> cases h)
theorem Kr {o:Nat} {e:Ck} (h:tc o e≠.a):e≠.a∧o=0:=by
 cases e with
 | a=>exact absurd rfl h
 | _=>
   refine ⟨fun h=>(by cases h),?_⟩;simp only [tc] at h;split at h
   · rfl
   · exact absurd U h
def A0 (P:av) (s:Nat) (A:au) (x:AV) (h:Hp):Option (Nat×List AV):=match x with
 | .sl b o n _ _=>match h.t.get b with
   | some (.cells l _ _ _)=>cond (lz P A && bL (o+n*s) l.length) (some (n,(l.drop o).take (n*s))) none
   | _=>none
 | .fW=>cond (lz P A) (some (0,[])) none
 | .str l=>cond (isStr P A && bC s 1) (some (l.length,xw l)) none
 | _=>none
def yE (P:av) (G:Nat) (t E:au) (C I:AV) (h:Hp):Option (AV×Hp):=match rW P t with
 | some (e,s,by_,_)=>match A0 P s E I h with
   | some (m,news)=>cond (fC news) (match C with
     | .fW=>match m with
       | 0=>some (.fW,h)
       | _=>cond (bL (m*by_) 140737488355328 && bL m 1000000000) (match dQ h (.cells news e 0 .z) with
         | some A=>some (.sl h.nx 0 m 0 false,A)
         | none=>none) none
     | .sl b o n c x=>match m with
       | 0=>some (.sl b o n c x,h)
       | _=>match h.t.get b with
         | some (.cells l e' fz ex)=>cond ((bC e e' && (bL ((n+m)*by_) 140737488355328 && bL (n+m) 1000000000)) && (bL (o+n*s) l.length && (bL G b && aZ b di)))
           (cond x (cond (bL (n+m) c)
            (cond (bL (o+(n+m)*s) l.length && bL fz (o+n*s)) (some (.sl b o (n+m) c true,⟨h.t.set b (.cells (l.take (o+n*s)++(news++l.drop (o+(n+m)*s))) e fz ex),h.nx⟩)) none)
            (match dQ h (.cells ((l.drop o).take (n*s)++news) e 0 .z) with
             | some A=>some (.sl h.nx 0 (n+m) 0 false,A)
             | none=>none))
            (cond (bC o (c*s) && bL fz (o+n*s)) (match dQ ⟨h.t.del b,h.nx⟩ (.cells ((l.drop o).take (n*s)++news) e (fz - o)<|tc o ex) with
             | some A=>some (.sl h.nx 0 (n+m) 0 false,A)
             | none=>none) none)) none
         | _=>none
     | _=>none) none
   | none=>none
 | none=>none
section
variable {P:av} {G:Nat} {r:Rn} {T:Nat} {h:Hp} {w:ai} {N:Fm} {σ:Nat→ah} {dst:Option Nat} {ty:au} {pos :String} {af:Array cH} {g:Option (Nat×Bool)} {x y z:bA}
theorem Hl:∀ l:List UInt8,bc r (xw l)=some (U8 l)
 | []=>by simp [xw,bc,U8]
 | c::l=>ff rfl (Hl l)
theorem Py (hr:HR P G r T h w) {s m:Nat} {M:au} {x:AV} {news:List AV} {u:ah} (he:A0 P s M x h=some (m,news)) (O:fC news=true) (hu:den r x=some u):∃ N,bc r news=some N∧Src P s M u m N w:=by
 unfold A0 at he;split at he
 · rename_i b o n Z aa;split at he
   · rename_i l _ _ _ hb;replace he:=bE he; obtain ⟨A,he⟩:=he;simp only [bO] at A;cases he;obtain ⟨q,us,V,J,U,_⟩:=hr.cells hb;obtain ⟨q',cap,L,hn,rfl,_⟩:=j8 hu;rw [V] at L; cases L;obtain ⟨e',E⟩:=tz A.1;have hle:=cE A.2;have hlen:=dZ J;have I:=kE (m*s)<|ln o J;refine ⟨_,I,Src.ofSlice w E _ _ _ _ (by simp; omega) (fun j u C=> ?_)<|ru I O⟩;rw [gw,j4,jy];rw [j0] at C;split at C
     · rw [kz] at C; exact U _ _ C
     · cases C
   · cases he
 · replace he:=bE he; obtain ⟨A,he⟩:=he;cases he;obtain rfl :=jL hu;obtain ⟨e',E⟩:=tz A;exact ⟨[],by simp [bc],Src.ofNil w E 0⟩
 · replace he:=bE he; obtain ⟨A,he⟩:=he;simp only [bO] at A;cases he;obtain rfl :=jg hu;obtain rfl :=cO A.2;exact ⟨_,Hl _,Src.ofString w (nZ A.1) ⟨⟨_⟩⟩⟩
 · cases he
theorem Cg {t J ty e:au} {i:TypeInfo} (I:P.underlying t=some (.slice e)) (hi:P.info? e=some i) {x:ah} {news:List ah} (A:Src P i.size J x 0 news w) {base:Option Addr} {n c:Nat} (hn:n≤c):
 (lJ #[t,J] ty #[.slice base n c,x]).run P w= .ok (.slice base n c) w:=by
 have L:news= []:=ku<|by rw [A.newsLen]; simp
 subst L;have E:=A.cells;cases base with
 | none=>rcases A.kind with ⟨e',C⟩ | C <;> simp [lJ,run_underlying I,run_underlying C,sizeOf,typeInfo,hi,A.len,hn,E]
 | some a=>rcases A.kind with ⟨e',C⟩ | C <;> simp [lJ,run_underlying I,run_underlying C,sizeOf,typeInfo,hi,A.len,hn,E,storeCells]
theorem Ch {t E ty e:au} {i:TypeInfo} (I:P.underlying t=some (.slice e)) (hi:P.info? e=some i) {x:ah} {m:Nat} {news:List ah} (A:Src P i.size E x m news w) {b off n c:Nat} {cur:Array ah} {fz:Nat×Nat} (hn:n+m≤c)
 (hb:w.heap[b]? =some (.cells cur e fz)) (J:fz.2≤off+n*i.size) (L:off+n*i.size+news.length≤cur.size):
 (lJ #[t,E] ty #[.slice (some ⟨b,off,none⟩) n c,x]).run P w= .ok (.slice (some ⟨b,off,none⟩) (n+m) c) (w.setRow b (cur.toList.take (off+n*i.size)++news++cur.toList.drop (off+n*i.size+news.length)).toArray):=by
 have bK:=run_storeCells_atF P b (off+n*i.size) e fz news 0 cur w hb ag ag A.one;simp only [lO] at bK;rcases A.kind with ⟨e',C⟩ | C <;> simp [lJ,run_underlying I,run_underlying C,sizeOf,typeInfo,hi,A.len,hn,A.cells,Addr.add_lit,bK]
theorem AM (L X:List ah) (a:Nat) (h:a+X.length≤L.length) (k:Nat):(L.take a++X++L.drop (a+X.length))[k]? =if k < a then L[k]? else if k < a+X.length then X[k - a]? else L[k]? :=by
 by_cases A:k < a
 · rw [if_pos A,iC,eZ (by simp; omega),j0,if_pos A]
 · rw [if_neg A];by_cases C:k < a+X.length
   · rw [if_pos C,eZ (by simp; omega),eH (by simp; omega)];congr 1; simp; omega
   · rw [if_neg C,eH (by simp; omega),kz];simp only [bp,bX];congr 1; omega
theorem Cf {t A ty e:au} {i:TypeInfo} {z:ah} (L:P.underlying t=some (.slice e)) (hi:P.info? e=some i) (M:i.zero=some z) (O:z.cells.size=i.size) (Z:0 < i.size) {x:ah} {m:Nat} {olds news:List ah} (I:Src P i.size A x m news w) {base:Option Addr} {n c:Nat}
 (J:olds.length=n*i.size) (hold:(xW i.size n<|.slice base n c).run P w.drew= .ok olds.toArray w.drew) (V:∀ u∈olds,u.oneCell'=true) (C:c < n+m) (U:n+m≤1000000000) (hb:(n+m)*i.bytes≤140737488355328):
 ∃ (cap:Nat) (cs:Array ah),n+m≤cap∧cap*i.size=cs.size∧(∀ (j:Nat) (u:ah),(olds++news)[j]? =some u→cs[j]? =some u)∧(lJ #[t,A] ty #[.slice base n c,x]).run P w= .ok (.slice (some ⟨w.heap.size,0,none⟩) (n+m) cap) {w.drew with heap:=w.heap.push<|.cells cs e (0,0)} :=by
 have hr:=run_append_grow_src (P:=P) w t A ty e i z L hi M base n c olds hold x m news I C ag<|growslice_fits C hb;refine ⟨_,_,grownCap_ge w (n+m) c e,?_,?_,hr⟩
 · have :=grownCap_ge w (n+m) c e;simp only [Array.size_append,fP,size_zeroCells,O,bp,J,I.newsLen,← oH];congr 1; omega
 · intro j u E;rw [Array.getElem?_append_left (by have :=(dX.1 E).1; simpa using this)];simpa using E
theorem LY (hr:HR P G r T h w) {b o n c s:Nat} {x:Bool} {l:List AV} {e fz:Nat} {ex:Ck} {us:List ah} {q:Loc} (hb:h.t.get b=some (.cells l e fz ex)) (L:r b=some q) (C:bc r l=some us) (hle:o+n*s≤l.length) (cap:Nat):
 (xW s n<|.slice (some ⟨q.ax,q.sh+o,none⟩) n cap).run P w.drew= .ok ((us.drop o).take<|n*s).toArray w.drew:=by
 obtain ⟨q',M,I,E,J,_⟩:=hr.cells hb;rw [L] at I; cases I;rw [C] at E; cases E;have hlen:=dZ C;refine run_firstCells_some (P:=P) w.drew s n _ n cap _ (by simp; omega) fun j u A=> ?_;rw [gw,j4,jy];rw [j0] at A;split at A
 · rw [kz] at A; exact J _ _ A
 · cases A
theorem JH (hr:HR P G r T h w) {t an:au} {aX aZ v:AV} {az:Hp} (ha:yE P G t an aX aZ h=some (v,az)) (hT:az.nx≤T) (av:den r aX=some (ev N σ x)) (bo:den r aZ=some (ev N σ y)):YM P G r T N σ ⟨dst,.call ⟨.builtin .append,#[x,y],#[t,an]⟩,ty,pos,af,g⟩ h w v az:=by
 have ae:∀ {u:ah} {w':ai},(lJ #[t,an] ty #[ev N σ x,ev N σ y]).run P w= .ok u w'→(execOp (ev N σ) ⟨dst,.call ⟨.builtin .append,#[x,y],#[t,an]⟩,ty,pos,af,g⟩).run P w= .ok (.value u) w':=by
  intro u w' h;simp [execOp,resolve,invoke,builtin,h]
 unfold yE at ha;split at ha
 · rename_i e s bu bH bq;obtain ⟨i,zv,hu,hi,aU,rfl,rfl,aV,aS,bC,bF,bD⟩:=xj (r:=r) bq;split at ha
   · rename_i m news bm;replace ha:=bE ha; obtain ⟨aQ,ha⟩:=ha;obtain ⟨Nw,al,V⟩:=Py hr bm aQ bo;have a7:=dZ al;have aI:=ru al aQ;split at ha
     · have ab:=jL av;split at ha
       · cases ha;exact ⟨r,_,w,av,.inl (ae<|by rw [ab]; exact Cg hu hi V<|bf _),St.refl hr⟩
       · rename_i aG;replace ha:=bE ha; obtain ⟨C,ha⟩:=ha;simp only [bO] at C;have aw:=cE C.1;have c2:=cE C.2;have hm:0 < m:=Jd fun e=>aG<|by rw [e]
         split at ha
         · rename_i Z hn;cases ha;obtain ⟨cap,cs,g1,g2,g3,g4⟩:=Cf (w:=w) (ty:=ty) (base:=none) (n:=0) (c:=0) (olds:= []) hu hi aU aV aS V (by simp) (run_firstCells_none (P:=P) w.drew i.size 0 0 0) (by simp) ag ag<|by rw [dx]; exact aw
           rw [dx] at g1 g4;rw [List.nil_append] at g3;obtain ⟨r',aq,bK⟩:=hr.dQ hn hT cap (w':= {w.drew with heap:=w.heap.push<|.cells cs e (0,0)}) rfl rfl rfl fun r' hle _=>by
            refine ⟨cs,(0,0),Nw,U,jJ hle al,?_,fun j u A=>by rw [dx]; exact g3 j u A,by simp,aI,⟨(fun h=>by cases h),fun _=>rfl⟩,fun s E=> ?_⟩
            · rw [dx,← a7,V.newsLen,← g2]; exact qw _ g1
            · have :s=i.size:=by unfold cP at E; rw [hi] at E; simpa using E.symm
              rw [this,dx,g2]; exact bf _
           refine ⟨r',_,_,?_,.inl (ae<|by rw [ab]; exact g4),bK⟩;rw [qN aq (by simpa using g1)]; simp
         · cases ha
     · rename_i b o n c aY;obtain ⟨q,cap,ac,bh,ab,ba,a9⟩:=j8 av;split at ha
       · cases ha;exact ⟨r,_,w,av,.inl (ae<|by rw [ab]; exact Cg hu hi V bh),St.refl hr⟩
       · rename_i aG;have hm:0 < m:=Jd fun e=>aG<|by rw [e]
         split at ha
         · rename_i l e' fz ex hb;replace ha:=bE ha; obtain ⟨C,ha⟩:=ha;simp only [bO] at C;obtain ⟨⟨aw,c2,c3⟩,ay,ao,c6⟩:=C;obtain rfl :=cO aw;have c2:=cE c2;have c3:=cE c3;have ay:=cE ay;have ao:=cE ao;obtain ⟨q',ad,cc,fr,us,O,aa,bx,aA,a4,aB,aC,aL⟩:=hr.live b _ hb;rw [ac] at ad; cases ad;have bB:=dZ aa;have bc:=LY (s:=i.size) (x:=aY) (c:=c) hr hb ac aa ay;have holds:=kE (n*i.size)<|ln o aa;have aH:((us.drop o).take<|n*i.size).length=n*i.size:=by simp; omega
           have aR:∀ u∈(us.drop o).take (n*i.size),u.oneCell'=true :=fun u hu=>aB u<|yf<|yg hu;have ap:=gH holds al;have aN:∀ u∈(us.drop o).take (n*i.size)++Nw,u.oneCell'=true :=fun u hu=>(dz.1 hu).elim (aR u)<|aI u;have aO:∀ s,cP P e=some s→s=i.size:=fun s E=>by unfold cP at E; rw [hi] at E; simpa using E.symm
           have aP:((us.drop o).take (n*i.size)++Nw).length=(n+m)*i.size:=by rw [bp,aH,V.newsLen,oH]
           have grow:∀ {h0 Z:Hp} {aK:Nat} {ck:Ck},ck≠.x→HR P G r T h0 w→St P G T r h w r h0 w→h0.nx=h.nx→cap < n+m→Hb.dQ h0 (.cells ((l.drop o).take (n*i.size)++news) e aK ck)=some Z→Z.nx≤T→
            YM P G r T N σ ⟨dst,.call ⟨.builtin .append,#[x,y],#[t,an]⟩,ty,pos,af,g⟩ h w (.sl h.nx 0 (n+m) 0 false) Z:=by
            intro h0 Z aK ck a8 bj bn bi J hn hT;obtain ⟨a0,cs,g1,g2,g3,g4⟩:=Cf (w:=w) (ty:=ty) (base:=some ⟨q.ax,q.sh+o,none⟩) (n:=n) (c:=cap) hu hi aU aV aS V aH (bc cap) aR J c3 c2;obtain ⟨r',aq,bK⟩:=bj.dQ hn hT a0 (w':= {w.drew with heap:=w.heap.push<|.cells cs e (0,0)}) rfl rfl rfl fun r' hle _=>by
             refine ⟨cs,(0,0),_,U,jJ hle ap,?_,fun j u A=>by rw [dx]; exact g3 j u A,by simp,aN,⟨fun h=>absurd h a8,fun _=>rfl⟩,fun s E=> ?_⟩
             · rw [dx,← dZ ap,aP,← g2]; exact qw _ g1
             · rw [aO s E,dx,g2]; exact bf _
            rw [bi] at aq;refine ⟨r',_,_,?_,.inl (ae<|by rw [ab]; exact g4),St.trans bn bK⟩;rw [qN aq (by simpa using g1)]; simp
           cases aY
           · obtain ⟨rfl,bA⟩:=a9 rfl;simp only [cond_false] at ha;replace ha:=bE ha; obtain ⟨C,ha⟩:=ha;simp only [bO] at C;have d1:=cO C.1;have d2:=cE C.2;split at ha
             · rename_i Z hn;cases ha;have ar:=hr.del c6;have aT:St P G T r h w r ⟨h.t.del b,h.nx⟩ w:=⟨Rn.le_refl r,ar,bf _,Md.refl _ _,fun g _ k _ aE=>by
                obtain ⟨j,aW,q',a5,A,ad,rfl⟩:=aE;rw [Tr.qY _ _ _ c6] at A;split at A
                · cases A
                · exact ⟨j,aW,q',a5,A,ad,U⟩,fun _ _=>rfl⟩
               by_cases M:n+m≤q.room - c
               ·
                have bz:=aL i.size<|by unfold cP; rw [hi]; rfl
                have bv:q.sh+o+(n+m)*i.size≤cc.size:=by
                 have :(c+(n+m))*i.size≤q.room*i.size:=qw _ ag;rw [oH] at this;omega
                have a1:Nw.length=m*i.size:=V.newsLen;have a2:(n+m)*i.size=n*i.size+m*i.size:=oH _ _ _;have am:=Ch (w:=w) (ty:=ty) (off :=q.sh+o) hu hi V M O ag ag;unfold Hb.dQ at hn;replace hn:=bE hn; obtain ⟨aD,hn⟩:=hn;cases hn;simp only at hT aD;have hle:=Rn.tB (i:=h.nx) ⟨q.ax,q.sh+o,q.room - c⟩<|hr.new h.nx (bf _) ag;obtain ⟨L,aj⟩:∃ L,cc.toList.take (q.sh+o+n*i.size)++Nw++cc.toList.drop (q.sh+o+n*i.size+Nw.length)=L:=⟨_,rfl⟩
                have ak:=AM cc.toList Nw (q.sh+o+n*i.size)<|by simp; omega
                rw [aj] at am ak;have a6:L.length=cc.size:=by rw [← aj]; simp; omega
                have aF:=setRow_heap w q.ax _ L.toArray e _ O;have aM:∀ g,g≤G→Fr g r h q.ax:=fun g J=>⟨b,_,q,cQ J ao,hb,ac,rfl⟩
                refine ⟨r.ext h.nx ⟨q.ax,q.sh+o,q.room - c⟩,_,w.setRow q.ax L.toArray,?_,.inl (ae<|by rw [ab]; exact am),⟨hle,ar.put hle aD (Rn.jh _ _ _) ?_ (fun k I _=>setRow_other w q.ax k _ I) ?_ (nF _) (fun k I bg=> ?_),nF _,⟨U,U,by simp,fun k _ I=>setRow_other w q.ax k _ fun e=>I<|by rw [e]; exact aM G<|bf _⟩,fun g J k I aE=> ?_,fun k I=>Rn.lx _ _<|by simp only at I; omega⟩⟩
                · rw [qN (Rn.jh _ _ _) (by simpa using M)]; simp
                · rw [aF];refine ⟨L.toArray,fr,_,U,jJ hle ap,?_,fun j u A=> ?_,by simp only; omega,aN,⟨fun h=>absurd h CF,fun h=>by obtain ⟨O,aa⟩:=Kr h; simp only; rw [aC.2 O,aa]⟩,fun s E=> ?_⟩
                  · rw [← dZ ap,aP]; simp only [fP]; omega
                  · simp only [nE];rw [ak];by_cases aJ:j < n*i.size
                    · rw [eZ ag,j0,if_pos aJ,kz] at A;rw [if_pos ag,sp,jy]; exact aA _ _ A
                    · rw [eH ag,aH] at A;have :=(dX.1 A).1;rw [if_neg ag,if_pos ag,show q.sh+o+j - (q.sh+o+n*i.size)=j - n*i.size from by omega]; exact A
                  · rw [aO s E];simp only [fP];have :(c+(q.room - c))*i.size=q.room*i.size:=by congr 1; omega
                    rw [oH] at this;omega
                · intro j aW q' A J ad he;rw [Tr.qY _ _ _ c6] at J;split at J
                  · cases J
                  · rename_i bd;exact bd<|hr.inj j b _ _ _ _ J hb ad ac he
                · rw [Rn.lx _ _ (by simp only at I; omega)]; exact hr.new k (by simp only at I; omega) bg
                · rcases Fr.set aD (Rn.jh _ _ _) hle ar aE with O | O
                  · rw [O]; exact aM g J
                  · exact aT.fB g J k I O
               · exact grow CF ar aT U ag hn hT
             · cases ha
           · obtain rfl :=ba rfl;simp only [cond_true] at ha;cases M:bL (n+m) cap
             · rw [M] at ha;simp only [cond_false] at ha;split at ha
               · rename_i Z hn;cases ha;exact grow (fun h=>by cases h) hr (St.refl hr) U (by
                  rcases dN cap (n+m) with h | h
                  · exact h
                  · rw [BQ h] at M; cases M) hn hT
               · cases ha
             · rw [M] at ha;simp only [cond_true] at ha;replace ha:=bE ha; obtain ⟨C,ha⟩:=ha;simp only [bO] at C;have d1:=cE C.1;have d2:=cE C.2;have M:=cE M;cases ha;have a1:Nw.length=m*i.size:=V.newsLen;have a2:(n+m)*i.size=n*i.size+m*i.size:=oH _ _ _;have am:=Ch (w:=w) (ty:=ty) (off :=q.sh+o) hu hi V M O ag ag;obtain ⟨L,aj⟩:∃ L,cc.toList.take (q.sh+o+n*i.size)++Nw++cc.toList.drop (q.sh+o+n*i.size+Nw.length)=L:=⟨_,rfl⟩
               have ak:=AM cc.toList Nw (q.sh+o+n*i.size)<|by simp; omega
               rw [aj] at am ak;have a6:L.length=cc.size:=by rw [← aj]; simp; omega
               have aF:=setRow_heap w q.ax _ L.toArray e _ O;refine ⟨r,_,w.setRow q.ax L.toArray,nP ac M,.inl (ae<|by rw [ab]; exact am),hr.ng hb c6 ac ao ?_ ⟨U,U,by simp,fun k _ I=>setRow_other w q.ax k _ I⟩⟩;rw [aF];have bb:=gH (kE (o+n*i.size) aa)<|gH al<|ln (o+(n+m)*i.size) aa;refine ⟨L.toArray,fr,_,U,bb,?_,fun j u A=> ?_,a4,?_,⟨fun hex=> ?_,aC.2⟩,fun s E=> ?_⟩
               · simp only [bp,bX,fY,fP]; omega
               · simp only [nE];rw [ak];by_cases aJ:j < o+n*i.size
                 · rw [eZ (by simp; omega),j0,if_pos aJ] at A;rw [if_pos ag,sp]; exact aA _ _ A
                 · rw [eH (by simp; omega)] at A;have a3:(us.take<|o+n*i.size).length=o+n*i.size:=by simp; omega
                   rw [a3] at A;rw [if_neg ag];by_cases bG:j < o+(n+m)*i.size
                   · rw [eZ ag] at A;rw [if_pos ag,show q.sh+j - (q.sh+o+n*i.size)=j - (o+n*i.size) from by omega]; exact A
                   · rw [eH ag,kz] at A;rw [if_neg ag,sp];refine aA j u ?_;rw [← A]; congr 1; omega
               · intro a ha;rcases dz.1 ha with ha | ha
                 · exact aB a<|yg ha
                 · rcases dz.1 ha with ha | ha
                   · exact aI a ha
                   · exact aB a<|yf ha
               · obtain ⟨br,x2,bt⟩:=aC.1 hex;refine ⟨br,?_,bt⟩;simp only [bp,bX,fY,fP]; omega
               · have :=aL s E;simp only [fP]; omega
         · cases ha
     · cases ha
   · cases ha
 · cases ha
end
end Go.Hb
namespace Go.Hb
def A4 (P:av) (G:Nat) (t:au) (b o n c i:Nat) (h:Hp):Option (AV×Hp):=match dH P t with
 | some e=>cond (bC i n && (bL G b && aZ b di)) (match h.t.get b with
   | some (.cells l A fz ex)=>match cP P A with
     | some e'=>cond (bC e e' && (bC o (c*e) && bL (o+n*e) l.length)) (match dQ ⟨h.t.del b,h.nx⟩ (.cells [] A fz .a) with
       | some C=>some (.sl h.nx 0 0 0 false,C)
       | none=>none) none
     | none=>none
   | _=>none) none
 | none=>none
def Al (P:av) (t:au) (n i j:Nat) (h:Hp):Option (AV×Hp):=match dH P t with
 | some _=>cond (bC i n && (bC j n && aZ h.nx di)) (some (.sl h.nx 0 0 0 false,⟨h.t,h.nx+1⟩)) none
 | none=>none
def yQ (P:av) (G:Nat) (t:au) (x:AV) (h:Hp):Option (AV×Hp):=match x with
 | .fW=>cond (lz P t) (some (.dg [],h)) none
 | .sl b o n c q=>match rW P t with
   | some (e,s,_,zs)=>match n with
     | 0=>some (.dg [],h)
     | _=>match h.t.get b with
       | some (.cells l e' fz ex)=>cond ((bL (o+n*s) l.length && bL fz o) && (bL G b && aZ b di)) (some (.dg [],⟨h.t.set b (.cells (l.take o++(mq zs n++l.drop (o+n*s))) e' fz ex),h.nx⟩)) none
       | _=>none
   | none=>none
 | _=>none
def m9 (x:AV):List (AV×AV)→List (AV×AV)
 | []=> []
 | p::l=>cond (ir p.1 x) l (p::m9 x l)
def yZ (P:av) (G:Nat) (t:au) (b:Nat) (k:AV) (h:Hp):Option (AV×Hp):=match h.t.get b with
 | some (.map l)=>match P.underlying t with
   | some (.map kt e)=>match pk P kt k with
     | some A=>cond ((bL G b && aZ b di) && (eO A k && gy A l)) (some (.dg [],⟨h.t.set b (.map<|m9 k l),h.nx⟩)) none
     | none=>none
   | _=>none
 | _=>none
def Bh (P:av) (G:Nat) (A:au) (x y:AV) (h:Hp):Option (AV×Hp):=match x,y with
 | .ptr _ _,.int .i64 0=>some (.str [],h)
 | .jl,.int .i64 0=>some (.str [],h)
 | .ptr b 0,.int .i64 (.ofNat n)=>match h.t.get b with
   | some (.cells l e fz ex)=>match ex with
     | .a=>none
     | _=>cond ((ptrTo P A e && (bL n l.length && (aZ 0 n && aZ n 1000000000))) && (bL G b && aZ b di)) (match pP (l.take n) with
       | some m=>some (.str m,⟨h.t.set b (.cells l e (max fz n) .z),h.nx⟩)
       | none=>none) none
   | _=>none
 | _,_=>none
def wG (P:av) (G:Nat) (o:Op) (xs:List AV) (h:Hp):Option (AV×Hp):=match o with
 | .call ⟨.builtin .append,_,⟨[t,tx]⟩⟩=>match xs with
   | [s,x]=>yE P G t tx s x h
   | _=>none
 | .call ⟨.builtin .clear,_,⟨[t]⟩⟩=>match xs with
   | [x]=>yQ P G t x h
   | _=>none
 | .call ⟨.builtin .delete,_,⟨[t,_]⟩⟩=>match xs with
   | [.map b,k]=>yZ P G t b k h
   | _=>none
 | .call ⟨.builtin .unsafeSliceData,_,_⟩=>match xs with
   | [.fW]=>some (.jl,h)
   | [.sl b o n c x]=>cond (aZ 0 n) (some (.ptr b o,h)) none
   | _=>none
 | .call ⟨.builtin .unsafeString,_,⟨[pt,_]⟩⟩=>match xs with
   | [x,y]=>Bh P G pt x y h
   | _=>none
 | .slice t _ (some _) none none=>match xs with
   | [.sl b o n c false,.int _ (.ofNat i)]=>A4 P G t b o n c i h
   | _=>none
 | .slice t _ (some _) (some _) none=>match xs with
   | [.sl b o n c false,.int _ (.ofNat i),.int _ (.ofNat j)]=>Al P t n i j h
   | _=>none
 | _=>none
inductive AD | mark (D:Nat) | fn (f:Nat) (args:List AV)
inductive EX | cD | ret | ext (id:Nat)
inductive Tk
 | cd (rd:Option Nat) (n:Nat) (c:cj) (fr:Tr AV) (D:List AD) (h:Hp)
 | lp (rd:Option Nat) (n:Nat) (c:cj) (fr:Tr AV) (D:List AD) (h:Hp)
 | cl (f:Nat) (args:List AV) (h:Hp)
 | yl (l:Nat) (args:List AV) (h:Hp)
 | df (f:Nat) (args:List AV) (h:Hp)
inductive Rs | no | cd (e:EX) (fr:Tr AV) (D:List AD) (h:Hp) | rv (v:AV) (h:Hp)
inductive Ro | no | v (x:AV) (h:Hp) | d (a:AD)
abbrev Xt:=Nat→Option (List AV→Hp→Option (AV×Hp))
def hZ (n:Nat) (fr:Tr AV) (d:Option Nat) (v:AV):Option (Tr AV):=match d with
 | none=>some fr
 | some d=>cond (aZ d n && aZ d di) (some<|fr.set d v) none
def vn (X:Xt) (ih:Tk→Rs) (f:AV) (args:List AV) (h:Hp):Ro:=match f with
 | .fn f a c=>match X f with
   | some e=>match e (a++(args++c)) h with
     | some (v,h)=> .v v h
     | none=> .no
   | none=>match ih (.cl f (a++(args++c)) h) with
     | .rv v h=> .v v h
     | _=> .no
 | .iS l=>match ih (.yl l args h) with
   | .rv v h=> .v v h
   | _=> .no
 | _=> .no
def tL (P:av) (G:Nat) (X:Xt) (ih:Tk→Rs) (o:Op) (xs:List AV) (h:Hp):Ro:=match pE P o xs with
 | some v=> .v v h
 | none=>match kO P o xs h with
   | some v=> .v v h
   | none=>match o with
     | .call ⟨.value _,_,_⟩=>match xs with
       | f::args=>vn X ih f args h
       | []=> .no
     | .defer ⟨.value _,_,_⟩=>match xs with
       | .fn f a c::args=> .d<|.fn f<|a++(args++c)
       | _=> .no
     | _=>match rz P G o xs h with
       | some (v,h)=> .v v h
       | none=>match wG P G o xs h with
         | some (v,h')=>cond (bL h.nx h'.nx) (.v v h') .no
         | none=> .no
inductive Gd | y | n | no
def ly (n:Nat) (ops:List aJ) (fr:Tr AV) (g:Option (Nat×Bool)):Gd:=match g with
 | none=> .y
 | some (j,want)=>match ops[j]? with
   | some o=>match o.dst with
     | some t=>cond (aZ t n) (match eb fr t with
       | .bool b=>cond (b==want) .y .n
       | .dg []=> .n
       | _=> .no) .no
     | none=> .no
   | none=> .no
def lF (P:av) (G:Nat) (X:Xt) (ih:Tk→Rs) (rd:Option Nat) (n:Nat) (ops:List aJ):List aJ→Tr AV→List AD→Hp→Rs
 | [],fr,D,h=> .cd .cD fr D h
 | o::l,fr,D,h=>match ly n ops fr o.guard with
   | .y=>match mo G n fr (iz o.op) with
     | some xs=>match tL P G X ih o.op xs h with
       | .v v h=>match hZ n fr o.dst v with
         | some fr=>lF P G X ih rd n ops l fr D h
         | none=> .no
       | .d a=>match rd with
         | none=>match hZ n fr o.dst (.dg []) with
           | some fr=>lF P G X ih rd n ops l fr (a::D) h
           | none=> .no
         | some _=> .no
       | .no=> .no
     | none=> .no
   | .n=>match hZ n fr o.dst (.dg []) with
     | some fr=>lF P G X ih rd n ops l fr D h
     | none=> .no
   | .no=> .no
def j9:Nat→List AV→Tr AV→Tr AV
 | _,[],fr=>fr
 | i,v::l,fr=>j9 (i+1) l<|fr.set i v
def pJ (n:Nat):List Nat→List AV→Tr AV→Option (Tr AV)
 | [],[],fr=>some fr
 | p::ps,v::vs,fr=>match hZ n fr (some p) v with
   | some fr=>pJ n ps vs fr
   | none=>none
 | _,_,_=>none
def kg (P:av) (n:Nat) (fr:Tr AV) (h:Hp):List ResultVar→Option (List AV)
 | []=>some []
 | .tmp t::l=>match kg P n fr h l with
   | some vs=>cond (aZ t n) (some (eb fr t::vs)) none
   | none=>none
 | .cell a t::l=>match kg P n fr h l with
   | some vs=>cond (aZ a n) (match vT P t (eb fr a) h with
     | some v=>some (v::vs)
     | none=>none) none
   | none=>none
def pG:List AV→AV
 | [v]=>v
 | vs=> .dg vs
def lD (G:Nat) (ih:Tk→Rs):List AD→Hp→Option Hp
 | [],h=>some h
 | .mark d::l,h=>match h.t.get d with
   | some (.mW true)=>cond (bL G d && aZ d di) (lD G ih l ⟨h.t.set d (.mW false),h.nx⟩) none
   | _=>none
 | .fn f args::l,h=>match ih (.df f args h) with
   | .rv _ h=>lD G ih l h
   | _=>none
def DN:EX→Option cj
 | .cD=>none
 | .ret=>some .ret
 | .ext i=>some<|.exit i
def qQ (G:Nat) (ih:Tk→Rs) (rd:Option Nat) (n:Nat) (fr:Tr AV) (D:List AD) (l:Nat) (h:Hp):Rs:=match h.t.get l with
 | some (.loop st A m C ps aT body d)=>match st with
   | .busy=> .no
   | _=>cond (bL G l && aZ l di) (match A with
     | none=> .cd .cD fr D ⟨h.t.set l (.loop .exhausted A m C ps aT body d),h.nx⟩
     | some c=>ih (.cd rd n c fr D ⟨h.t.set l (.loop .exhausted A m C ps aT body d),h.nx⟩)) .no
 | _=> .no
def rL (ih:Tk→Rs) (G:Nat) (rd:Option Nat) (n:Nat) (g:bA) (ps:List Nat) (aT body:cj) (fr:Tr AV) (D:List AD) (h:Hp):Rs:=match ml G n fr g with
 | some (.fn f a c)=>match rd with
   | none=>match dQ h (.mW true) with
     | some A=>match dQ A (.loop .ready none n fr ps aT body h.nx) with
       | some C=>match ih (.cl f (a++(.iS A.nx::c)) C) with
         | .rv _ E=>qQ G ih rd n fr (.mark h.nx::D) A.nx E
         | _=> .no
       | none=> .no
     | none=> .no
   | some I=>match h.t.get I with
     | some (.loop _ _ _ _ _ _ _ d)=>match dQ h (.loop .ready none n fr ps aT body d) with
       | some C=>match ih (.cl f (a++(.iS h.nx::c)) C) with
         | .rv _ E=>qQ G ih rd n fr D h.nx E
         | _=> .no
       | none=> .no
     | _=> .no
 | _=> .no
def uo (G:Nat) (ih:Tk→Rs) (l:Nat) (args:List AV) (h:Hp):Rs:=match h.t.get l with
 | some (.loop .ready J n fr ps aT body d)=>match pJ n ps args fr with
   | some fr=>match ih (.cd (some l) n aT fr [] h) with
     | .cd .cD fr [] h=>match h.t.get l with
       | some (.loop .ready L C A M E I d1)=>cond (bL G l && aZ l di) (match ih (.cd (some l) n body fr [] ⟨h.t.set l (.loop .busy L C A M E I d1),h.nx⟩) with
         | .cd e fr [] h=>match h.t.get l with
           | some (.loop .busy J C A ps aT body d)=>match e with
             | .cD=> .rv (.bool true) ⟨h.t.set l (.loop .ready none C A ps aT body d),h.nx⟩
             | e=> .rv (.bool false) ⟨h.t.set l (.loop .done (DN e) C A ps aT body d),h.nx⟩
           | _=> .no
         | _=> .no) .no
       | _=> .no
     | _=> .no
   | none=> .no
 | _=> .no
mutual
def iH:AV→AV→Bool
 | .bool a,.bool b=>a==b
 | .int k a,.int k' b=>cond (bC (eU k)<|eU k') (decide (a=b)) false
 | .str l,.str m=>jM l m
 | .ptr b o,.ptr b' o'=>bC b b' && bC o o'
 | .jl,.jl=>true
 | .sl b o n c x,.sl b' o' n' c' x'=>(bC b b' && bC o o') && (bC n n' && (bC c c' && (x==x')))
 | .fW,.fW=>true
 | .map b,.map b'=>bC b b'
 | .mg,.mg=>true
 | .fn f a c,.fn f' a' c'=>bC f f' && (mY a a' && mY c c')
 | .iS l,.iS l'=>bC l l'
 | .kf,.kf=>true
 | .jP t v,.jP t' v'=>bC t t' && iH v v'
 | .fJ,.fJ=>true
 | .agg l,.agg m=>mY l m
 | .dg l,.dg m=>mY l m
 | _,_=>false
def mY:List AV→List AV→Bool
 | [],[]=>true
 | a::l,b::m=>cond (iH a b) (mY l m) false
 | _,_=>false
end
def rY:List bA→List Nat
 | []=> []
 | .tmp t::l=>t::rY l
 | _::l=>rY l
def zB (ops:List aJ) (g:Option (Nat×Bool)):List Nat:=match g with
 | none=> []
 | some (j,_)=>match ops[j]? with
   | some q=>match q.dst with
     | some t=> [t]
     | none=> []
   | none=> []
def rK (ops:List aJ) (o:aJ):List Nat:=zB ops o.guard++rY (iz o.op)
def tH (t:Nat):List Nat→Bool
 | []=>false
 | u::l=>cond (bC t u) true<|tH t l
def wh (d:Option Nat) (l:List Nat):Bool:=match d with
 | some t=>tH t l
 | none=>false
def oe (l:List Nat) (i:Nat):Nat:=nb l i 0
def n9 (acc:List Nat):List cH→Nat
 | []=>0
 | e::l=>cond (eQ .any e && aZ e.on acc.length) (Nat.lor (Nat.lor (Nat.pow 2 e.on)<|oe acc e.on)<|n9 acc l)<|n9 acc l
def jK:List aJ→List Nat→List Nat
 | [],acc=>acc
 | o::l,acc=>jK l<|acc++ [n9 acc o.after.toList]
def k9 (A:List Nat) (i j:Nat):Bool:=uP (oe A i) j
def tg (i:Nat):List cH→Bool
 | []=>true
 | e::l=>cond (eQ .any e && !(aZ e.on i)) false<|tg i l
def Dz (a b:Option Nat):Bool:=match a,b with
 | some a,some b=>bC a b
 | _,_=>false
def vq (ops:List aJ) (E:List Nat) (i:Nat) (A:aJ):Nat→List aJ→Bool
 | _,[]=>true
 | j,C::l=>cond (aZ j i) ((!(Dz A.dst C.dst) && (k9 E i j || (!(wh C.dst<|rK ops A) && !(wh A.dst<|rK ops C)))) && vq ops E i A (j+1) l) true
def qJ (ops:List aJ) (A:List Nat):Nat→List aJ→Bool
 | _,[]=>true
 | i,C::l=>(tg i C.after.toList && vq ops A i C 0 ops) && qJ ops A (i+1) l
inductive Cs | s | p | l | a | c
structure Rec where
 k:Cs
 xs:List AV
 v:AV
 hb:Hp
 ha:Hp
def vh (P:av) (e:au):Option (List AV):=match zeroOf P e with
 | some (some A)=>match mh (kM 4) A with
   | some l=>cond (fC l) (some l) none
   | none=>none
 | _=>none
def early (A:List Nat) (i:Nat) (last:Option Nat):Bool:=match last with
 | some c=> !(k9 A i c)
 | none=>false
def Aw (P:av) (G:Nat) (X:Xt) (ih:Tk→Rs) (fr:Bool) (o:Op) (xs:List AV) (h:Hp):Option Rec:=match pE P o xs with
 | some v=>some ⟨.p,xs,v,h,h⟩
 | none=>match kO P o xs h with
   | some v=>some ⟨.l,xs,v,h,h⟩
   | none=>match fr,o with
     | true,.alloc e=>match vh P e with
       | some l=>match dQ h (.cells l e 0 .x) with
         | some A=>some ⟨.a,xs,.ptr h.nx 0,h,A⟩
         | none=>none
       | none=>none
     | _,_=>match tL P G X ih o xs h with
       | .v v A=>some ⟨.c,xs,v,h,A⟩
       | _=>none
def MU (i:Nat) (last:Option Nat):Cs→Option Nat
 | .c=>some i
 | _=>last
def nk (P:av) (G:Nat) (X:Xt) (ih:Tk→Rs) (n:Nat) (ops:List aJ) (A:List Nat):Nat→Option Nat→List aJ→Tr AV→Hp→Option (List Rec×Tr AV×Hp)
 | _,_,[],fr,h=>some ([],fr,h)
 | i,last,o::l,fr,h=>match ly n ops fr o.guard with
   | .y=>match mo G n fr (iz o.op) with
     | some xs=>match Aw P G X ih (early A i last) o.op xs h with
       | some r=>match hZ n fr o.dst r.v with
         | some fr=>match nk P G X ih n ops A (i+1) (MU i last r.k) l fr r.ha with
           | some (rs,fr,h)=>some (r::rs,fr,h)
           | none=>none
         | none=>none
       | none=>none
     | none=>none
   | .n=>match hZ n fr o.dst (.dg []) with
     | some fr=>match nk P G X ih n ops A (i+1) last l fr h with
       | some (rs,fr,h')=>some (⟨.s,[],.dg [],h,h⟩::rs,fr,h')
       | none=>none
     | none=>none
   | .no=>none
def zd (a:Option AV) (v:AV):Bool:=match a with
 | some a=>iH a v
 | none=>false
def tJ (P:av) (A:List Nat) (i:Nat) (o:Op) (xs:List AV) (v:AV):Nat→List Rec→Bool
 | _,[]=>true
 | j,q::l=>cond (match q.k with
   | .c=>cond (aZ j i) (k9 A i j || zd (kO P o xs q.hb) v) (k9 A j i || zd (kO P o xs q.ha) v)
   | .a=> !(aZ j i)
   | _=>true) (tJ P A i o xs v (j+1) l) false
def tI (A:List Nat) (i:Nat):Nat→List Rec→Bool
 | _,[]=>true
 | j,q::l=>cond (match q.k with
   | .c=>cond (aZ j i) (k9 A i j) true
   | .a=>cond (aZ j i) (k9 A i j) true
   | _=>true) (tI A i (j+1) l) false
def nf (P:av) (A:List Nat) (rs:List Rec):Nat→List aJ→List Rec→Bool
 | _,[],[]=>true
 | i,o::l,q::m=>cond (match q.k with
   | .l=>tJ P A i o.op q.xs q.v 0 rs
   | .c=>tI A i 0 rs
   | _=>true) (nf P A rs (i+1) l m) false
 | _,_,_=>false
def vz (P:av) (G:Nat) (X:Xt) (ih:Tk→Rs) (n:Nat) (ops:List aJ) (fr:Tr AV) (D:List AD) (h:Hp):Rs:=match jK ops [] with
 | A=>cond (qJ ops A 0 ops) (match nk P G X ih n ops A 0 none ops fr h with
   | some (rs,fr,h)=>cond (nf P A rs 0 ops rs) (.cd .cD fr D h) .no
   | none=> .no) .no
def gP (P:av) (G:Nat) (X:Xt) (ih:Tk→Rs):Tk→Rs
 | .cd rd n c fr D h=>match c with
   | .skip => .cd .cD fr D h
   | .region _ ⟨ops⟩ draw=>cond draw (vz P G X ih n ops fr D h)<|lF P G X ih rd n ops ops fr D h
   | .seq a b=>match ih (.cd rd n a fr D h) with
     | .cd .cD fr D h=>ih<|.cd rd n b fr D h
     | r=>r
   | .cond x a b=>match ml G n fr x with
     | some (.bool true)=>ih<|.cd rd n a fr D h
     | some (.bool false)=>ih<|.cd rd n b fr D h
     | _=> .no
   | .block id c=>match ih (.cd rd n c fr D h) with
     | .cd (.ext j) fr D h=>cond (bC j id) (.cd .cD fr D h)<|.cd (.ext j) fr D h
     | r=>r
   | .loop c=>ih<|.lp rd n c fr D h
   | .rangeFunc g ⟨ps⟩ aT body=>rL ih G rd n g ps aT body fr D h
   | .exit id=> .cd (.ext id) fr D h
   | .ret=> .cd .ret fr D h
   | _=> .no
 | .lp rd n c fr D h=>match ih (.cd rd n c fr D h) with
   | .cd .cD fr D h=>ih<|.lp rd n c fr D h
   | r=>r
 | .cl f args h=>match P.funcs[f]? with
   | some fn=>match fn.body with
     | some c=>cond (bL args.length fn.ntmps && aZ fn.ntmps di) (match ih (.cd none fn.ntmps c (j9 0 args .nil) [] h) with
       | .cd (.ext _) _ _ _=> .no
       | .cd _ fr D h=>match lD G ih D h with
         | some h=>match kg P fn.ntmps fr h fn.results.toList with
           | some vs=> .rv (pG vs) h
           | none=> .no
         | none=> .no
       | _=> .no) .no
     | none=> .no
   | none=> .no
 | .yl l args h=>uo G ih l args h
 | .df f args h=>match P.funcs[f]? with
   | some fn=>match fn.body with
     | some c=>cond (bL args.length fn.ntmps && aZ fn.ntmps di) (match (match c with
       | .seq (.region _ ⟨⟨some d,.call ⟨.builtin .recover,⟨[]⟩,⟨[]⟩⟩,ty,pos,af,none⟩::rest⟩ false) y=>match hZ fn.ntmps (j9 0 args .nil) (some d) .fJ with
         | some fr=>match lF P G X ih none fn.ntmps (⟨some d,.call ⟨.builtin .recover,⟨[]⟩,⟨[]⟩⟩,ty,pos,af,none⟩::rest) rest fr [] h with
           | .cd .cD fr [] h=>ih<|.cd none fn.ntmps y fr [] h
           | _=> .no
         | none=> .no
       | c=>ih (.cd none fn.ntmps c (j9 0 args .nil) [] h)) with
       | .cd (.ext _) _ _ _=> .no
       | .cd _ fr [] h=>match kg P fn.ntmps fr h fn.results.toList with
         | some vs=> .rv (pG vs) h
         | none=> .no
       | _=> .no) .no
     | none=> .no
   | none=> .no
def jO (P:av) (G:Nat) (X:Xt):Nat→Tk→Rs
 | 0,_=> .no
 | n+1,t=>gP P G X (jO P G X n) t
def tv (c:Nat):List UInt8→Nat→Int
 | [],_=> -1
 | b::l,i=>cond (bC b.toNat c) (mJ i)<|tv c l<|i+1
def Br (xs:List AV) (h:Hp):Option (AV×Hp):=match xs with
 | [.str l,.int .u8 (.ofNat c)]=>cond (aZ c 256) (match gC .i64 (tv c l 0) with
   | some v=>some (v,h)
   | none=>none) none
 | _=>none
def Bq (xs:List AV) (h:Hp):Option (AV×Hp):=match xs with
 | [x]=>some (x,h)
 | _=>none
end Go.Hb
namespace Go.Hb
section
variable {P:av} {G:Nat} {r:Rn} {T:Nat} {h:Hp} {w:ai} {N:Fm} {σ:Nat→ah} {dst:Option Nat} {ty:au} {pos :String} {af:Array cH} {g:Option (Nat×Bool)} {x y z:bA}
theorem HR.Gm (hr:HR P G r T h w) {b o:Nat} {l news:List AV} {e fz:Nat} {ex:Ck} {q:Loc} {Nw:List ah} (hb:h.t.get b=some (.cells l e fz ex)) (ak:bL G b=true) (al:aZ b di=true) (O:r b=some q) (E:bc r news=some Nw) (aj:fC news=true) (hle:o+news.length≤l.length) (au:fz≤o):
 ∃ c fr,w.heap[q.ax]? =some (.cells c e fr)∧fr.2≤q.sh+o∧q.sh+o+Nw.length≤c.size∧(∀ u∈Nw,u.oneCell'=true)∧
   St P G T r h w r ⟨h.t.set b (.cells (l.take o++(news++l.drop (o+news.length))) e fz ex),h.nx⟩ (w.setRow q.ax (c.toList.take (q.sh+o)++Nw++c.toList.drop (q.sh+o+Nw.length)).toArray):=by
 obtain ⟨q',V,c,fr,us,Z,I,ay,aa,ao,ab,ac,ap⟩:=hr.live b _ hb;rw [O] at V; cases V;have av:=dZ E;have aw:=dZ I;have M:=ru E aj;obtain ⟨L,C⟩:∃ L,c.toList.take (q.sh+o)++Nw++c.toList.drop (q.sh+o+Nw.length)=L:=⟨_,rfl⟩
 have J:=AM c.toList Nw (q.sh+o)<|by have :=pV (xs:=c); omega
 rw [C] at J;have ar:L.length=c.size:=by rw [← C]; simp; omega
 refine ⟨c,fr,Z,ag,ag,M,?_⟩;rw [C];refine hr.ng hb al O (cE ak) ?_ ⟨U,U,by simp,fun k _ am=>setRow_other w q.ax k _ am⟩;rw [setRow_heap w q.ax _ _ e _ Z];refine ⟨L.toArray,fr,_,U,gH (kE o I) (gH E<|ln (o+news.length) I),?_,fun j a A=> ?_,ao,?_,⟨fun hex=> ?_,ac.2⟩,fun s an=> ?_⟩
 · simp only [bp,bX,fY,fP]; omega
 · rw [nE,J];have ad:(us.take o).length=o:=by simp; omega
   by_cases m1:j < o
   · rw [eZ ag,j0,if_pos m1] at A;rw [if_pos ag,sp]; exact aa _ _ A
   · rw [eH ag,ad] at A;rw [if_neg ag];by_cases az:j < o+Nw.length
     · rw [eZ ag] at A;rw [if_pos ag,show q.sh+j - (q.sh+o)=j - o from by omega]; exact A
     · rw [eH ag,kz] at A;rw [if_neg ag,sp];refine aa j a ?_;rw [← A]; congr 1; omega
 · intro a ha;rcases dz.1 ha with ha | ha
   · exact ab a<|yg ha
   · rcases dz.1 ha with ha | ha
     · exact M a ha
     · exact ab a<|yf ha
 · obtain ⟨ae,aq,ai⟩:=ac.1 hex;refine ⟨ae,?_,ai⟩;simp only [bp,bX,fY,fP]; omega
 · have :=ap s an;simp only [fP]; omega
theorem NL (hr:HR P G r T h w) {t b o n c i j:Nat} {L:Hp} {v:AV} {k an:bY} (hn:Al P t n i j h=some (v,L)) (hT:L.nx≤T) (ak:den r (.sl b o n c false)=some (ev N σ x)) (al:ev N σ y= .int k (mJ i)) (am:ev N σ z= .int an (mJ j)):YM P G r T N σ ⟨dst,.slice t x (some y) (some z) none,ty,pos,af,g⟩ h w v L:=by
 unfold Al at hn;split at hn
 · rename_i e he;replace hn:=bE hn; obtain ⟨M,hn⟩:=hn;simp only [bO] at M;obtain rfl :=cO M.1;obtain rfl :=cO M.2.1;cases hn;simp only at hT;obtain ⟨q,ar,aq,hu⟩:=vy ak;have aj:=xl (dst:=dst) (ty:=ty) (pos :=pos) (af:=af) (g:=g) (w:=w) he hu al am ⟨ig _,Int.le_refl _,by simp; omega⟩;obtain ⟨ad,ac⟩:∃ ad:Nat,dV (some ⟨q.ax,q.sh+o,none⟩) (q.room - c) j e=some ⟨q.ax,ad,none⟩:=by
    unfold dV; split
    · exact ⟨_,U⟩
    · exact ⟨_,by rw [e7,gw]⟩
   have hle:=Rn.tB (i:=h.nx) ⟨q.ax,ad,q.room - c - j⟩<|hr.new h.nx (bf _) ag;refine ⟨r.ext h.nx ⟨q.ax,ad,q.room - c - j⟩,_,w,?_,.inl aj,hle,⟨fun j J C=> ?_,fun j k Z aa av ao C E I A he=> ?_,fun k E ah=> ?_,hr.gX.le hle,cQ hr.base<|nF _⟩,nF _,Md.refl _ _,fun g ap k E ae=> ?_,fun k E=>Rn.lx _ _<|by simp only at E; omega⟩
   · rw [qN (Rn.jh _ _ _) (by simp)];simp [ac]
   · obtain ⟨q',I,A⟩:=hr.live j J C;exact ⟨q',hle _ _ I,A.le hle⟩
   · obtain ⟨q',O,_⟩:=hr.live j Z C;obtain ⟨au,V,_⟩:=hr.live k aa E;rw [hle _ _ O] at I; cases I;rw [hle _ _ V] at A; cases A;exact hr.inj j k Z aa _ _ C E O V he
   · simp only at E; rw [Rn.lx _ _ ag]; exact hr.new k ag ah
   · obtain ⟨j,J,q',ab,C,ai,rfl⟩:=ae;obtain ⟨ao,A,_⟩:=hr.live j J C;have :=hle _ _ A;rw [ai] at this; cases this;exact ⟨j,J,_,ab,C,A,U⟩
 · cases hn
theorem HR.Lh (hr:HR P G r T h w) {b:Nat} (hb:aZ b di=true):St P G T r h w r ⟨h.t.del b,h.nx⟩ w:=
 ⟨Rn.le_refl r,hr.del hb,bf _,Md.refl _ _,fun g _ k _ E=>by
  obtain ⟨j,J,q',C,A,I,rfl⟩:=E;rw [Tr.qY _ _ _ hb] at A;split at A
  · cases A
  · exact ⟨j,J,q',C,A,I,U⟩,fun _ _=>rfl⟩
theorem HR.NA (hr:HR P G r T h w) {b:Nat} {o:AO} {q q':Loc} {E:Hp} {ob:AO} (hb:h.t.get b=some ob) (L:aZ b di=true) (O:r b=some q) (Z:bL G b=true) (J:q'.ax=q.ax) (hn:Hb.dQ ⟨h.t.del b,h.nx⟩ o=some E) (hT:E.nx≤T) (ad:∀ r',r.le r'→OR P r' q' o w.heap[q.ax]?):
 ∃ r',r' h.nx=some q'∧St P G T r h w r' E w:=by
 have U:=hr.del L;have ah:=hr.Lh L;unfold Hb.dQ at hn;replace hn:=bE hn; obtain ⟨M,hn⟩:=hn;cases hn;simp only at hT M;have hle:=Rn.tB (i:=h.nx) q'<|hr.new h.nx (bf _) ag;have V:∀ g,g≤G→Fr g r h q.ax:=fun g A=>⟨b,_,q,cQ A (cE Z),hb,O,rfl⟩
 refine ⟨r.ext h.nx q',Rn.jh _ _ _,hle,U.put hle M (Rn.jh _ _ _) (by rw [J]; exact ad _ hle) (fun _ _ _=>rfl) (fun j aj ak ai A ae he=> ?_) (nF _) (fun k C ac=> ?_),nF _,Md.refl _ _,fun g A k C aa=> ?_,fun k C=>Rn.lx _ _<|by simp only at C; omega⟩
 · rw [Tr.qY _ _ _ L] at A;split at A
   · cases A
   · rename_i ab;exact ab<|hr.inj j b _ _ _ _ A hb ae O<|by rw [he,J]
 · simp only at C; rw [Rn.lx _ _ ag]; exact hr.new k ag ac
 · rcases Fr.set M (Rn.jh _ _ _) hle U aa with I | I
   · rw [I,J]; exact V g A
   · exact ah.fB g A k C I
theorem P2 (hr:HR P G r T h w) {t b o n c i:Nat} {C:Hp} {v:AV} {k:bY} (hn:A4 P G t b o n c i h=some (v,C)) (hT:C.nx≤T) (aj:den r (.sl b o n c false)=some (ev N σ x)) (ak:ev N σ y= .int k (mJ i)):YM P G r T N σ ⟨dst,.slice t x (some y) none none,ty,pos,af,g⟩ h w v C:=by
 unfold A4 at hn;split at hn
 · rename_i e he;replace hn:=bE hn; obtain ⟨E,hn⟩:=hn;simp only [bO] at E;obtain rfl :=cO E.1;obtain ⟨_,O,V⟩:=E;split at hn
   · rename_i l aA fz ex hb;split at hn
     · rename_i e' I;replace hn:=bE hn; obtain ⟨A,hn⟩:=hn;simp only [bO] at A;obtain rfl :=cO A.1;have d1:=cO A.2.1;have d2:=cE A.2.2;split at hn
       · rename_i an ac;cases hn;obtain ⟨q,J,ap,hu⟩:=vy aj;obtain ⟨q',L,cc,fr,us,al,aq,ar,au,av,aw,ay,am⟩:=hr.live b _ hb;rw [J] at L; cases L;have az:=am e I;have ai:=tX (dst:=dst) (ty:=ty) (pos :=pos) (af:=af) (g:=g) (w:=w) he hu ak ⟨ig _,Int.le_refl _⟩;have ah:(c+i+(q.room - c - i))*e=q.room*e:=by congr 1; omega
         rw [oH,oH] at ah;obtain ⟨ad,Z,ao,aa⟩:∃ ad:Nat,dV (some ⟨q.ax,q.sh+o,none⟩) (q.room - c) i e=some ⟨q.ax,ad,none⟩∧q.sh≤ad∧ad+(q.room - c - i)*e≤cc.size:=by
          unfold dV; split
          · rename_i h0;refine ⟨_,U,ag,?_⟩;rw [show q.room - c - i=0 from by omega,yq]; omega
          · exact ⟨q.sh+o+i*e,by rw [e7,gw],ag,ag⟩
         obtain ⟨r',ae,bK⟩:=hr.NA (q':=⟨q.ax,ad,q.room - c - i⟩) hb V J O rfl ac hT fun r' hle=>by
          refine ⟨cc,fr,[],al,by simp [bc],by simp only [fq,lO]; omega,fun j u ab=>by simp at ab,by simp only; omega,fun u hu=>by simp at hu,⟨(fun h=>by cases h),fun h=>absurd U h⟩,fun s M=> ?_⟩;rw [I] at M; cases M;exact aa
         refine ⟨r',_,w,?_,.inl ai,bK⟩;rw [qN ae (by simp)];simp [Z]
       · cases hn
     · cases hn
   · cases hn
 · cases hn
theorem Kw (hr:HR P G r T h w) {t:au} {a v:AV} {I:Hp} (hn:yQ P G t a h=some (v,I)) (O:den r a=some (ev N σ x)):YM P G r T N σ ⟨dst,.call ⟨.builtin .clear,#[x],#[t]⟩,ty,pos,af,g⟩ h w v I:=by
 have E:∀ {u:ah} {w':ai},(xV #[t] ty #[ev N σ x]).run P w= .ok u w'→(execOp (ev N σ) ⟨dst,.call ⟨.builtin .clear,#[x],#[t]⟩,ty,pos,af,g⟩).run P w= .ok (.value u) w':=by
  intro u w' h;simp [execOp,resolve,invoke,builtin,h]
 unfold yQ at hn;split at hn
 · replace hn:=bE hn; obtain ⟨A,hn⟩:=hn;cases hn;obtain ⟨e,he⟩:=tz A;have hu:=jL O;exact ⟨r,undef,w,j6 r,.inl (E<|by rw [hu]; simp [xV,bS he]; rfl),St.refl hr⟩
 · rename_i b o n c q;split at hn
   · rename_i e s ao an ab;obtain ⟨i,zv,hu,hi,ac,rfl,rfl,ak,ar,ae,aj,av⟩:=xj (r:=r) ab;obtain ⟨V,cap,aa,ap,U,_⟩:=j8 O;split at hn
     · cases hn;exact ⟨r,undef,w,j6 r,.inl (E<|by rw [U]; simp [xV,bS hu]; rfl),St.refl hr⟩
     · rename_i Z;split at hn
       · rename_i l e' fz ex hb;replace hn:=bE hn; obtain ⟨A,hn⟩:=hn;simp only [bO] at A;obtain ⟨⟨C,c2⟩,c3,c4⟩:=A;have C:=cE C;have c2:=cE c2;cases hn;have J:=wT ae n;have hlen:=dZ J;have L:(mq an n).length=n*i.size:=by
          rw [← hlen]; simp [List.length_flatten,ak]
         obtain ⟨cc,fr,al,aw,ay,am,bK⟩:=hr.Gm (o:=o) hb c3 c4 aa J (Ax aj n) (by rw [L]; exact C) c2;have M:=run_storeCells_atF P V.ax (V.sh+o) e' fr _ 0 cc w al ag ag am;simp only [lO] at M;rw [L] at bK;refine ⟨r,undef,_,j6 r,.inl (E ?_),bK⟩;rw [U];have ad:(H5 zv.cells n).toList=(eM n zv.cells.toList).flatten:=by
          have :=Av zv.cells ag n;have :=congrArg Array.toList this;simpa [H5] using this
         have aq:n≠0:=fun h=>Z<|by rw [h]
         obtain ⟨m,rfl⟩:∃ m,n=m+1:=⟨n - 1,ag⟩
         simp [xV,bS hu,zeroValue,eh hi,ac,ad,M];rfl
       · cases hn
   · cases hn
 · cases hn
theorem EW {x:AV} {kx:ah} {A:KK} (E:eO A x=true) (C:den r x=some kx):∀ {l:List (AV×AV)} {es:List MapEntry} {j:Nat} {e':MapEntry},iw r l es→gy A l=true→
 es[j]? =some e'→e'.key=kx→(es.map fun e=>e.key).Nodup→iw r (m9 x l) (es.eraseIdx j)
 | [],[],j,e',_,_,hj,_,_=>by simp at hj
 | [],_::_,_,_,hm,_,_,_,_=>hm.elim
 | _::_,[],_,_,hm,_,_,_,_=>hm.elim
 | q::l,e::es,0,e',hm,hk,hj,hk',_=>by
   simp only [gy] at hk;cases h1:eO A q.1
   · rw [h1] at hk; cases hk
   · simp only [ky,bR] at hj;subst hj;simp only [m9,(na h1 E hm.1 C).2 hk',cond_true];exact hm.2.2
 | q::l,e::es,j+1,e',hm,hk,hj,hk',hn=>by
   simp only [gy] at hk;cases h1:eO A q.1
   · rw [h1] at hk; cases hk
   · rw [h1] at hk;simp only [jZ] at hj;simp only [fZ,sG] at hn;have he:ir q.1 x=false :=by
      cases hq:ir q.1 x
      · rfl
      · have :=(na h1 E hm.1 C).1 hq;exact absurd (iU.2 ⟨e',kX hj,hk'.trans this.symm⟩) hn.1
     simp only [m9,he,cond_false];exact ⟨hm.1,hm.2.1,EW E C hm.2.2 hk hj hk' hn.2⟩
theorem Ev {x:AV} {kx:ah} {A:KK} (E:eO A x=true) (C:den r x=some kx):∀ {l:List (AV×AV)} {es:List MapEntry},iw r l es→gy A l=true→(∀ e∈es,e.key≠kx)→m9 x l=l
 | [],_,_,_,_=>rfl
 | q::l,[],hm,_,_=>hm.elim
 | q::l,e::es,hm,hk,hn=>by
   simp only [gy] at hk;cases h1:eO A q.1
   · rw [h1] at hk; cases hk
   · rw [h1] at hk;have he:ir q.1 x=false :=by
      cases hq:ir q.1 x
      · rfl
      · exact absurd ((na h1 E hm.1 C).1 hq)<|hn e lN
     simp only [m9,he,cond_false,Ev E C hm.2.2 hk (fun e he=>hn e<|mK _ he)]
theorem Le (hr:HR P G r T h w) {t I:au} {b:Nat} {k v:AV} {J:Hp} (hp:yZ P G t b k h=some (v,J)) (am:den r (.map b)=some (ev N σ x)) (E:den r k=some (ev N σ y)):YM P G r T N σ ⟨dst,.call ⟨.builtin .delete,#[x,y],#[t,I]⟩,ty,pos,af,g⟩ h w v J:=by
 have Z:∀ {u:ah} {w':ai},(sA #[t,I] ty #[ev N σ x,ev N σ y]).run P w= .ok u w'→(execOp (ev N σ) ⟨dst,.call ⟨.builtin .delete,#[x,y],#[t,I]⟩,ty,pos,af,g⟩).run P w= .ok (.value u) w':=by
  intro u w' h;simp [execOp,resolve,invoke,builtin,h]
 unfold yZ at hp;split at hp
 · rename_i l hb;split at hp
   · rename_i kt e aa;split at hp
     · rename_i an ag;replace hp:=bE hp; obtain ⟨L,hp⟩:=hp;simp only [bO] at L;obtain ⟨⟨ac,ad⟩,hka,hkl⟩:=L;cases hp;obtain ⟨q,es,c,U,hw,hm,hn⟩:=hr.map hb;obtain ⟨q',V,hu⟩:=o4 am;rw [U] at V; cases V;have A:=zN ag;have hi:=vS hka E;have ae:∀ e∈es.toList,qZ an e.key:=vG rfl (vZ hm hkl);have aj:=(cr.1 hw).1;have st:∀ (es':Array MapEntry),iw r (m9 k l) es'.toList→(es'.toList.map fun e=>e.key).Nodup→St P G T r h w r ⟨h.t.set b (.map<|m9 k l),h.nx⟩ {w with heap:=w.heap.setIfInBounds q.ax<|.map es' c} :=fun es' g1 g2=>
        hr.ng hb ad U (cE ac) ⟨es',c,by simp only; rw [oC aj],g1,g2⟩ ⟨rfl,rfl,by simp,fun i _ ak=>by simp only; rw [ny (fun e=>ak e.symm)]⟩
       rcases A.find w (ev N σ y) es.toList hi ae with ⟨C,al⟩ | ⟨j,e',C,O,ab⟩
       · refine ⟨r,undef,_,j6 r,.inl (Z ?_),st es (by rw [Ev hka E hm hkl al]; exact hm) hn⟩;rw [hu];simp [sA,bS aa,run_getObj_map hw,A.check _ w _ hi,C,setObj,lK,hw];rfl
       · have ao:=(dX.1 O).1;have M:(es.eraseIdxIfInBounds j).toList=es.toList.eraseIdx j:=by simp
         refine ⟨r,undef,_,j6 r,.inl (Z ?_),st (es.eraseIdxIfInBounds j) (by rw [M]; exact EW hka E hm hkl O ab hn) (by
          rw [M];exact List.Nodup.sublist (BG _<|List.eraseIdx_sublist _ _) hn)⟩
         rw [hu];simp [sA,bS aa,run_getObj_map hw,A.check _ w _ hi,C,setObj,lK,hw];rfl
     · cases hp
   · cases hp
 · cases hp
theorem Qx (hr:HR P G r T h w) {A it:au} {a b v:AV} {J:Hp} (hp:Bh P G A a b h=some (v,J)) (aa:den r a=some (ev N σ x)) (ab:den r b=some (ev N σ y)):YM P G r T N σ ⟨dst,.call ⟨.builtin .unsafeString,#[x,y],#[A,it]⟩,ty,pos,af,g⟩ h w v J:=by
 have V:∀ {u:ah} {w':ai},(Builtin.unsafeString_ #[A,it] ty #[ev N σ x,ev N σ y]).run P w= .ok u w'→(execOp (ev N σ) ⟨dst,.call ⟨.builtin .unsafeString,#[x,y],#[A,it]⟩,ty,pos,af,g⟩).run P w= .ok (.value u) w':=by
  intro u w' h;simp [execOp,resolve,invoke,builtin,h]
 have al:den r (.str [])=some (.string .empty):=rfl;unfold Bh at hp;split at hp
 · cases hp;obtain ⟨q,O,hu⟩:=j7 aa;have E:=dF ab;exact ⟨r,_,w,al,.inl (V<|by rw [hu,E]; exact Ir w A it ty _),St.refl hr⟩
 · cases hp;have hu:=qP aa;have E:=dF ab;exact ⟨r,_,w,al,.inl (V<|by rw [hu,E]; exact Ir w A it ty _),St.refl hr⟩
 · rename_i I n _;split at hp
   · rename_i l e fz ex hb;have key:ex≠.a→cond ((ptrTo P A e && (bL n l.length && (aZ 0 n && aZ n 1000000000))) && (bL G I && aZ I di)) (match pP (l.take n) with
      | some m=>some (AV.str m,(⟨h.t.set I (.cells l e (max fz n) .z),h.nx⟩:Hp))
      | none=>none) none=some (v,J)→YM P G r T N σ ⟨dst,.call ⟨.builtin .unsafeString,#[x,y],#[A,it]⟩,ty,pos,af,g⟩ h w v J:=by
      intro hex hp;replace hp:=bE hp; obtain ⟨ak,hp⟩:=hp;simp only [bO] at ak;obtain ⟨⟨C,ae,c2,c3⟩,hG,hbm⟩:=ak;have ae:=cE ae;have c2:=dk.1 c2;have c3:=dk.1 c3;split at hp
      · rename_i m hm;cases hp;obtain ⟨q,O,cc,fr,us,ac,ad,aC,ao,aD,aE,aF,aG⟩:=hr.live I _ hb;have Z:=aF.2 hex;obtain ⟨q',an,hu⟩:=j7 aa;rw [O] at an; cases an;have E:=dF ab;rw [Z] at hu;have av:=kE n ad;have aj:=A9 hm av;have aH:=dZ ad;have L:m.length=n:=by
         have :=congrArg jx aj;simp [vd] at this;omega
        unfold ptrTo at C;split at C
        · rename_i e' aw;simp only [bO,beq_iff_eq] at C;obtain ⟨rfl,aq⟩:=C;have aB:w.shape? q.ax=some (e',cc.size):=by simp [World.shape?,ac]
          have M:m≠[]:=fun h=>by rw [h] at L; simp at L; omega
          have ar:=Lib.run_unsafeString_row (P:=P) w A it ty e' aw aq q.ax cc.size aB m M ag ag (fun j u ay=>by
           have ap:us[j]? =some (.int .u8 u.toNat):=by
            have :(us.take n)[j]? =some (.int .u8 u.toNat):=by rw [aj]; simp [U8,ay]
            rw [j0] at this;split at this
            · exact this
            · cases this
           rw [gw,j4,eC ac,dx];have :=ao j _ ap;rwa [Z,dx] at this)
          have am:nD w ⟨q.ax,0,none⟩ m.length= {w with heap:=w.heap.modify q.ax fun
           | .cells c elem (lo,hi)=> .cells c elem (if lo==hi then (0,0 +m.length) else (min lo 0,max hi (0 +m.length)))
           | o=>o} :=by
           unfold nD;rw [if_neg ag];rfl
          obtain ⟨lo,hi⟩:=fr;have aA:(nD w ⟨q.ax,0,none⟩ m.length).heap[q.ax]? =some (.cells cc e' (if lo==hi then (0,0 +m.length) else (min lo 0,max hi (0 +m.length)))):=by
           rw [am];simp only [xQ,if_true,ac];rfl
          refine ⟨r,.string ⟨m.toArray⟩,nD w ⟨q.ax,0,none⟩ m.length,U,.inl (V ?_),hr.ng hb hbm O (cE hG) ?_ ?_⟩
          · rw [hu,E,← L]; exact ar
          · rw [aA];refine ⟨cc,_,us,U,ad,aC,ao,?_,aE,⟨(fun h=>by cases h),fun _=>Z⟩,aG⟩;simp only at aD;split <;> simp only <;> omega
          · rw [am];exact ⟨U,U,by simp,fun k _ az=>by simp only [xQ]; rw [if_neg (fun e=>az e.symm)]⟩
        · cases C
      · cases hp
     split at hp
     · cases hp
     · rename_i M;exact key M hp
   · cases hp
 · cases hp
theorem NX (hr:HR P G r T h w) {o:Op} {xs:List AV} {v:AV} {L:Hp} (A:wG P G o xs h=some (v,L)) (hT:L.nx≤T) (I:bc r xs=some ((iz o).map<|ev N σ)):YM P G r T N σ ⟨dst,o,ty,pos,af,g⟩ h w v L:=by
 have two:∀ {a b:AV} {l:List bA},bc r [a,b]=some (l.map<|ev N σ)→∃ x y,l= [x,y]∧den r a=some (ev N σ x)∧den r b=some (ev N σ y):=by
  intro a b l h;have :=dZ h;simp at this;obtain ⟨x,y,rfl⟩:∃ x y,l= [x,y]:=by
   match l,this with
   | [x,y],_=>exact ⟨x,y,rfl⟩
  exact ⟨x,y,U,jI h⟩
 have one:∀ {a:AV} {l:List bA},bc r [a]=some (l.map<|ev N σ)→∃ x,l= [x]∧den r a=some (ev N σ x):=by
  intro a l h;have :=dZ h;simp at this;obtain ⟨x,rfl⟩:=uI.1 this;exact ⟨x,U,gj h⟩
 unfold wG at A;split at A
 · rename_i C t ad;split at A
   · obtain ⟨C⟩:=C;obtain ⟨x,y,rfl,E,J⟩:=two I;exact JH hr A hT E J
   · cases A
 · rename_i C t;split at A
   · obtain ⟨C⟩:=C;obtain ⟨x,rfl,E⟩:=one I;exact Kw hr A E
   · cases A
 · rename_i C t kt;split at A
   · obtain ⟨C⟩:=C;obtain ⟨x,y,rfl,E,J⟩:=two I;exact Le hr A E J
   · cases A
 · rename_i C ac;obtain ⟨C⟩:=C;split at A
   · cases A;obtain ⟨x,rfl,E⟩:=one I;exact ⟨r,_,w,U,.inl (Bg (v:= .nilFunc) (jL E)<|.inl U),St.refl hr⟩
   · replace A:=bE A; obtain ⟨V,A⟩:=A;have V:=dk.1 V;cases A;obtain ⟨x,rfl,E⟩:=one I;obtain ⟨q,cap,aa,hn,hu,_⟩:=j8 E;exact ⟨r,_,w,by simp only [den,aa],.inl (Bg (v:= .nilFunc) hu<|.inr ag),St.refl hr⟩
   · cases A
 · rename_i C ab it;split at A
   · obtain ⟨C⟩:=C;obtain ⟨x,y,rfl,E,J⟩:=two I;exact Qx hr A E J
   · cases A
 · split at A
   · obtain ⟨M,O⟩:=jI I;exact P2 hr A hT M<|dF O
   · cases A
 · split at A
   · obtain ⟨M,O,Z⟩:=nO I;exact NL hr A hT M (dF O)<|dF Z
   · cases A
 · cases A
end
end Go.Hb
namespace Go.Hb
def lu:EX→bM
 | .cD=> .normal
 | .ret=> .ret
 | .ext i=> .exit i
def lr (r:Rn):List AD→List Deferred→Prop
 | [],[]=>True
 | .mark d::l,x::m=>(∃ q,r d=some q∧x= {target:= .collected q.ax,args:= #[]})∧lr r l m
 | .fn f args::l,x::m=>(∃ (a:List ah) (cap A:Array ah),bc r args=some a∧x= {target:= .fn (.func f) cap,args:=A}∧A++cap=a.toArray)∧lr r l m
 | _,_=>False
def tR (r:Rn):Option Nat→Option Nat→Prop
 | none,none=>True
 | some l,some k=> ∃ q,r l=some q∧q.ax=k
 | _,_=>False
theorem o3 {r s:Rn} (h:r.le s):∀ {D:List AD} {m:List Deferred},lr r D m→lr s D m
 | [],[],_=>trivial
 | [],_::_,h'=>h'.elim
 | .mark d::l,[],h'=>h'.elim
 | .fn f args::l,[],h'=>h'.elim
 | .mark d::l,x::m,⟨⟨q,h1,h2⟩,h3⟩=>⟨⟨q,h _ _ h1,h2⟩,o3 h h3⟩
 | .fn f args::l,x::m,⟨⟨a,cap,as_,h1,h2⟩,h3⟩=>⟨⟨a,cap,as_,jJ h h1,h2⟩,o3 h h3⟩
theorem FU {r s:Rn} (h:r.le s) {a b:Option Nat} (hr:tR r a b):tR s a b:=by
 cases a <;> cases b
 · trivial
 · exact hr.elim
 · exact hr.elim
 · obtain ⟨q,A,C⟩:=hr; exact ⟨q,h _ _ A,C⟩
theorem fH.le {r s:Rn} (h:r.le s) {n:Nat} {fr:Tr AV} {σ:Nat→ah} (A:fH r n fr σ):fH s n fr σ:=fun i hi=>mV h<|A i hi
def eI (P:av) (G:Nat) (rd:Option Nat) (n:Nat) (W:Option Nat→(bM→Act→ai→Prop)→Act→ai→Prop) (fr:Tr AV) (D:List AD) (h:Hp) (e:EX) (I:Tr AV) (E:List AD) (A:Hp):Prop :=
 h.nx≤A.nx∧∀ (T:Nat) (r:Rn) (w:ai) (σ:Nat→ah) (Dl:List Deferred) (rr:Option Nat) (Q:bM→Act→ai→Prop),A.nx≤T→HR P G r T h w→fH r n fr σ→lr r D Dl→tR r rd rr→
  (∀ (r':Rn) (w':ai) (σ':Nat→ah) (C:List Deferred),St P G T r h w r' A w'→fH r' n I σ'→lr r' E C→Q (lu e) (act ⟨n,C,[],rr⟩ σ') w')→W rr Q (act ⟨n,Dl,[],rr⟩ σ) w
def BY (P:av) (G:Nat) (f:Nat) (args:List AV) (h:Hp) (v:AV) (A:Hp):Prop :=
 h.nx≤A.nx∧∀ (T:Nat) (r:Rn) (w:ai) (L:List ah),A.nx≤T→HR P G r T h w→bc r args=some L→aY P f L.toArray w fun u w'=> ∃ r',den r' v=some u∧St P G T r h w r' A w'
def yz (P:av) (G:Nat) (l:Nat) (args:List AV) (h:Hp) (v:AV) (A:Hp):Prop :=
 h.nx≤A.nx∧∀ (T:Nat) (r:Rn) (w:ai) (L:List ah) (q:Loc),A.nx≤T→HR P G r T h w→bc r args=some L→r l=some q→YieldAt fX 0 P q.ax L.toArray w fun e w'=> ∃ u r',e= .returned u∧den r' v=some u∧St P G T r h w r' A w'
def Jp (P:av) (G:Nat) (f:Nat) (args:List AV) (h A:Hp):Prop :=
 h.nx≤A.nx∧∀ (T:Nat) (r:Rn) (w:ai) (L:List ah),A.nx≤T→HR P G r T h w→bc r args=some L→CallsDIn fX 0 P f L.toArray .returning w fun e C w'=> ∃ v,e= .returned v∧C= .returning∧∃ r',St P G T r h w r' A w'
def xE (P:av) (c:cj) (rr:Option Nat) (Q:bM→Act→ai→Prop) (a:Act) (w:ai):Prop :=
 ∀ (b:Frame) (k:List Item) (cs:List Frame),b.roundOf=(fe rr).round→(fe rr).fn b.fn→(fe rr).room (cs.length+1 +0)→
   ∃ e a' w',Q e a' w'∧ArrivesIn (Machine.fenced P<|fe rr) P (lone (b.atR a (.code c:: .inLoop c::k)) cs w) b k cs e a' w'
def nL (P:av) (G:Nat):Tk→Rs→Prop
 | .cd rd n c fr D h,.cd e fr' D' h'=>eI P G rd n (fun rr Q a w=>c.wpIn (fe rr) 0 P Q a w) fr D h e fr' D' h'
 | .lp rd n c fr D h,.cd e fr' D' h'=>eI P G rd n (xE P c) fr D h e fr' D' h'
 | .cl f args h,.rv v h'=>BY P G f args h v h'
 | .yl l args h,.rv v h'=>yz P G l args h v h'
 | .df f args h,.rv v h'=>Jp P G f args h h'
 | _,.no=>True
 | _,_=>False
def Good (P:av) (G:Nat) (ih:Tk→Rs):Prop := ∀ t,nL P G t (ih t)
def j2 (P:av) (G:Nat) (X:Xt):Prop := ∀ f e,X f=some e→∀ xs h v A,e xs h=some (v,A)→h.nx≤A.nx∧∀ (T:Nat) (r:Rn) (w:ai) (us:List ah),A.nx≤T→HR P G r T h w→bc r xs=some us→
 ∃ r' u w',den r' v=some u∧(callFunc f us.toArray).run P w= .ok (.value u) w'∧St P G T r h w r' A w'
def iF (P:av):Prop := ∀ f fn c,P.funcs[f]? =some fn→fn.body=some c→gv P f
section
variable {P:av} {G:Nat} {r:Rn} {T:Nat} {h:Hp} {w:ai} {N:Fm} {σ:Nat→ah} {dst:Option Nat} {ty:au} {pos :String} {af:Array cH} {g:Option (Nat×Bool)} {x y z:bA} {K:Act→ai→Prop} {Q:bM→Act→ai→Prop}
theorem xD {o:aJ} (hn:∀ c,o.op≠.defer c) {u:ah} {w':ai} (hr:(execOp (ev N σ) o).run P w= .ok (.value u) w'∨(execOp (ev N σ) o).run P w= .ok .skip w'∧u=undef) (A:K ((act N σ).put o.dst u) w'):o.wpIn (fe N.r) 0 P (act N σ) w K Q:=by
 refine ⟨fun f _=>lY _ f,?_⟩;rw [o6,uA _ _ _ hn,ej];rcases hr with hr | ⟨hr,rfl⟩
 · rw [hr]; exact A
 · rw [hr]; exact A
theorem CC {f:Nat} {fo:bA} {first cap:Array ah} {args:Array bA} {A:Array au} (C:ev N σ fo= .func (.func f) first cap):(execOp (ev N σ) ⟨dst,.call ⟨.value fo,args,A⟩,ty,pos,af,g⟩).run P w=(callFunc f<|first++args.map (ev N σ)++cap).run P w:=by
 simp only [execOp,resolve,C,mE,ie,jY,gS,invoke]
end
end Go.Hb
namespace Go.Hb
section
variable {P:av} {G:Nat} {h:Hp}
theorem me {o:AO} {A:Hp} (hn:dQ h o=some A):A.nx=h.nx+1:=by
 unfold dQ at hn;replace hn:=bE hn; obtain ⟨_,hn⟩:=hn;cases hn; rfl
theorem FL {t:au} {b:Nat} {k v:AV} {A:Hp} (hp:rH P t b k v h=some A):A.nx=h.nx:=by
 unfold rH at hp;split at hp
 · split at hp
   · split at hp
     · replace hp:=bE hp; obtain ⟨_,hp⟩:=hp; cases hp; rfl
     · cases hp
   · cases hp
 · cases hp
theorem PO {t b o:Nat} {v:AV} {C:Hp} (A:tY P G t b o v h=some C):C.nx=h.nx:=by
 unfold tY at A;split at A
 · split at A
   · replace A:=bE A; obtain ⟨_,A⟩:=A; cases A; rfl
   · cases A
 · cases A
theorem NV {o:Op} {xs:List AV} {v:AV} {C:Hp} (A:rz P G o xs h=some (v,C)):h.nx≤C.nx:=by
 unfold rz at A;split at A
 · split at A
   · split at A
     · replace A:=bE A; obtain ⟨_,A⟩:=A;split at A
       · rename_i hn; cases A; have :=me hn; omega
       · cases A
     · cases A
   · cases A
 · split at A
   · replace A:=bE A; obtain ⟨_,A⟩:=A;split at A
     · rename_i hn; cases A; have :=me hn; omega
     · cases A
   · cases A
 · split at A
   · rename_i hn; cases A; have :=me hn; omega
   · cases A
 · split at A
   · replace A:=bE A; obtain ⟨_,A⟩:=A;split at A
     · replace A:=bE A; obtain ⟨_,A⟩:=A;split at A
       · rename_i hn; cases A; have :=me hn; omega
       · cases A
     · cases A
   · cases A
 · split at A
   · split at A
     · replace A:=bE A; obtain ⟨_,A⟩:=A;split at A
       · rename_i hn; cases A; have :=me hn; omega
       · cases A
     · cases A
   · cases A
 · split at A
   · split at A
     · rename_i E; cases A; have :=PO E; omega
     · cases A
   · cases A
 · split at A
   · replace A:=bE A; obtain ⟨_,A⟩:=A;split at A
     · rename_i hp; cases A; have :=FL hp; omega
     · cases A
   · cases A
 · split at A
   · replace A:=bE A; obtain ⟨_,A⟩:=A;split at A
     · rename_i hp; cases A; have :=FL hp; omega
     · cases A
   · cases A
 · cases A
end
section
variable {P:av} {G:Nat} {X:Xt} {ih:Tk→Rs} {n:Nat}
def lT (P:av) (G:Nat) (o:Op) (xs:List AV) (h:Hp) (v:AV) (A:Hp):Prop :=
 h.nx≤A.nx∧∀ (T:Nat) (r:Rn) (w:ai) (N:Fm) (σ:Nat→ah) (dst:Option Nat) (ty:au) (pos :String) (af:Array cH) (g:Option (Nat×Bool)) (K:Act→ai→Prop) (Q:bM→Act→ai→Prop),A.nx≤T→HR P G r T h w→bc r xs=some ((iz o).map<|ev N σ)→
  (∀ (r':Rn) (u:ah) (w':ai),den r' v=some u→St P G T r h w r' A w'→K ((act N σ).put dst u) w')→(Oper.mk dst o ty pos af g).wpIn (fe N.r) 0 P (act N σ) w K Q
theorem lT.run {o:Op} {xs:List AV} {h A:Hp} {v:AV} (hn:∀ c,o≠.defer c) (O:h.nx≤A.nx)
 (hr:∀ (T:Nat) (r:Rn) (w:ai) (N:Fm) (σ:Nat→ah) (dst:Option Nat) (ty:au) (pos :String) (af:Array cH) (g:Option (Nat×Bool)),A.nx≤T→HR P G r T h w→bc r xs=some ((iz o).map<|ev N σ)→YM P G r T N σ ⟨dst,o,ty,pos,af,g⟩ h w v A):lT P G o xs h v A:=
 ⟨O,fun T r w N σ dst ty pos af g K Q hT L J M=>by
  obtain ⟨r',u,w',C,E,I⟩:=hr T r w N σ dst ty pos af g hT L J;exact xD hn E (M r' u w' C I)⟩
theorem J9 (ak:Good P G ih) (ap:j2 P G X) (ao:iF P) (av:∀ f args h v J,ih (.cl f args h)= .rv v J→∃ fn c,P.funcs[f]? =some fn∧fn.body=some c) {fo:bA} {I:List bA} {ac:Array au} {f:AV} {args:List AV} {h J:Hp} {v:AV} (C:vn X ih f args h= .v v J):
 lT P G (.call ⟨.value fo,⟨I⟩,ac⟩) (f::args) h v J:=by
 have ag:∀ c,Op.call ⟨.value fo,⟨I⟩,ac⟩≠.defer c:=fun c e=>by cases e
 unfold vn at C;split at C
 · rename_i f a c;split at C
   · rename_i e he;split at C
     · rename_i v1 ab ah;cases C;obtain ⟨aa,E⟩:=ap f e he _ _ _ _ ah;refine lT.run ag aa fun T r w N σ dst ty pos af g hT Z U=> ?_;obtain ⟨u,us,A,V,O⟩:=fw U;simp only [iz,fZ,lM] at A;obtain ⟨A,rfl⟩:=A;obtain ⟨a',c',ha,ad,rfl⟩:=nQ V;obtain ⟨r',u,w',L,M,an⟩:=E T r w _ hT Z<|gH ha<|gH O ad;refine ⟨r',u,w',L,.inl ?_,an⟩;rw [CC A];have :a'.toArray++(⟨I⟩:Array bA).map (ev N σ)++c'.toArray=(a'++(I.map (ev N σ)++c')).toArray:=by simp
       rw [this]; exact M
     · cases C
   · split at C
     · rename_i v1 ab am;cases C;have E:=ak<|.cl f (a++(args++c)) h;rw [am] at E;obtain ⟨aa,E⟩:=E;obtain ⟨fn,cd,aw,aq⟩:=av _ _ _ _ _ am;have ar:=ao f fn cd aw aq;refine ⟨aa,fun T r w N σ dst ty pos af g K Q hT Z U ae=> ?_⟩;obtain ⟨u,us,A,V,O⟩:=fw U;simp only [iz,fZ,lM] at A;obtain ⟨A,rfl⟩:=A;obtain ⟨a',c',ha,ad,rfl⟩:=nQ V;have az:=E T r w _ hT Z<|gH ha<|gH O ad;refine ⟨fun f _=>lY _ f,?_⟩;rw [o6,uA _ _ _ ag,ej,CC A];have :a'.toArray++(⟨I⟩:Array bA).map (ev N σ)++c'.toArray=(a'++(I.map (ev N σ)++c')).toArray:=by simp
       rw [this,ar];simp only [Oper.uponIn_enter];refine ⟨fun h0=>(by rw [o5] at h0; cases h0),CallsIn.mono (vJ az) ?_⟩;rintro e w' ⟨u,rfl,r',L,M⟩;exact ae r' u w' L M
     · cases C
 · rename_i l;split at C
   · rename_i v1 ab aB;cases C;have E:=ak<|.yl l args h;rw [aB] at E;obtain ⟨aa,E⟩:=E;refine ⟨aa,fun T r w N σ dst ty pos af g K Q hT Z U ae=> ?_⟩;obtain ⟨u,us,A,V,O⟩:=fw U;simp only [iz,fZ,lM] at A;obtain ⟨A,rfl⟩:=A;obtain ⟨q,ay,rfl⟩:=y7 V;obtain ⟨fn,tmps,ai,aj,aA,al⟩:=E T r w _ q hT Z O ay;refine ⟨fun f _=>lY _ f,?_⟩;rw [o6,uA _ _ _ ag,ej];have ah:(execOp (ev N σ) ⟨dst,.call ⟨.value fo,⟨I⟩,ac⟩,ty,pos,af,g⟩).run P w= .ok (.round q.ax fn tmps ai aj) w:=by
      have hm:(⟨I⟩:Array bA).map (ev N σ)=(I.map<|ev N σ).toArray:=by simp
      simp only [execOp,resolve,A,mE,ie,jY,gS,invoke];simp [aA]
     rw [ah];simp only [sE];refine ⟨fun h0=>(by rw [o5] at h0; cases h0),?_⟩;have ab:RoundIn (fe N.r) (0 - 1) P q.ax fn tmps ai aj w fun e w'=> ∃ u r',e= .returned u∧den r' v=some u∧St P G T r h w r' J w':=by
      cases hr:N.r with
      | none=>exact al
      | some k=>exact al
     refine RoundIn.mono ab ?_;rintro e w' ⟨u,r',rfl,L,M⟩;exact ae r' u w' L M
   · cases C
 · cases C
theorem Fy (Z:Good P G ih) (aa:j2 P G X) (V:iF P) (ab:∀ f args h v L,ih (.cl f args h)= .rv v L→∃ fn c,P.funcs[f]? =some fn∧fn.body=some c) {o:Op} {xs:List AV} {h L:Hp} {v:AV} (A:tL P G X ih o xs h= .v v L):lT P G o xs h v L:=by
 unfold tL at A;split at A
 · rename_i v1 hp;cases A;have E:∀ c,o≠.defer c:=fun c e=>by subst e; simp [pE] at hp
   refine lT.run E (bf _) fun T r w N σ dst ty pos af g hT C I=> ?_;obtain ⟨u,J,M⟩:=Fw (dst:=dst) (ty:=ty) (pos :=pos) (af:=af) (g:=g) hp I;exact ⟨r,u,w,J,.inl (M w),St.refl C⟩
 · split at A
   · rename_i v1 U;cases A;have E:∀ c,o≠.defer c:=fun c e=>by subst e; simp [kO] at U
     refine lT.run E (bf _) fun T r w N σ dst ty pos af g hT C I=> ?_;obtain ⟨u,J,M⟩:=Fv (dst:=dst) (ty:=ty) (pos :=pos) (af:=af) (g:=g) C U I;exact ⟨r,u,w,J,.inl M,St.refl C⟩
   · split at A
     · rename_i fo O ac;split at A
       · obtain ⟨O⟩:=O;exact J9 Z aa V ab A
       · cases A
     · split at A <;> cases A
     · rename_i ad E;split at A
       · rename_i v1 J hm;cases A;have E:∀ c,o≠.defer c:=fun c e=>by subst e; simp [rz] at hm
         exact lT.run E (NV hm) fun T r w N σ dst ty pos af g hT C I=>NW C hm hT I
       · split at A
         · rename_i v1 J hm;cases hle:bL h.nx J.nx
           · rw [hle] at A; cases A
           rw [hle] at A;cases A;have E:∀ c,o≠.defer c:=fun c e=>by subst e; simp [wG] at hm
           exact lT.run E (cE hle) fun T r w N σ dst ty pos af g hT C I=>NX C hm hT I
         · cases A
end
end Go.Hb
namespace Go.Hb
section
variable {P:av} {G:Nat} {X:Xt} {ih:Tk→Rs} {n:Nat} {r:Rn}
theorem rT {fr C:Tr AV} {d:Option Nat} {v:AV} {u:ah} {σ:Nat→ah} (A:hZ n fr d v=some C) (I:fH r n fr σ) (J:den r v=some u):fH r n C (dq σ d u):=by
 cases d with
 | none=>simp only [hZ,bR] at A; subst A; exact I
 | some d=>
   simp only [hZ] at A;replace A:=bE A; obtain ⟨E,A⟩:=A;simp only [bO] at E;cases A;intro i hi;simp only [dq,bI,eb,Tr.nW _ _ _ _ E.2];by_cases e:i=d
   · subst e;rw [if_pos rfl,show bC i i=true from by simp]; exact J
   · rw [if_neg e,show bC i d=false from by
      cases hb:bC i d
      · rfl
      · exact absurd (cO hb) e]
     exact I i hi
theorem zA {ops:List aJ} {fr:Tr AV} {o:aJ} {N:Fm} {σ:Nat→ah} (A:ly N.n ops fr o.guard= .y) (E:fH r N.n fr σ):mH o (yielded ops.toArray (act N σ).tmps)=true :=by
 unfold ly at A;split at A
 · exact gR _ (by assumption) _
 · rename_i j want I;split at A
   · rename_i O J;split at A
     · rename_i t L;cases hb:aZ t N.n
       · rw [hb] at A; cases A
       · rw [hb] at A;simp only [cond_true] at A;split at A
         · rename_i b M;cases hbw:(b==want)
           · rw [hbw] at A; cases A
           · have C:=E t<|dk.1 hb;rw [M] at C;rw [oB I (by simp [fg,J,L]) hb (kF C),hbw]
         · cases A
         · cases A
     · cases A
   · cases A
theorem Eb {ops:List aJ} {fr:Tr AV} {o:aJ} {N:Fm} {σ:Nat→ah} (A:ly N.n ops fr o.guard= .n) (I:fH r N.n fr σ):mH o (yielded ops.toArray (act N σ).tmps)=false :=by
 unfold ly at A;split at A
 · cases A
 · rename_i j want J;split at A
   · rename_i O L;split at A
     · rename_i t M;cases hb:aZ t N.n
       · rw [hb] at A; cases A
       · rw [hb] at A;simp only [cond_true] at A;split at A
         · rename_i b E;cases hbw:(b==want)
           · have C:=I t<|dk.1 hb;rw [E] at C;rw [oB J (by simp [fg,L,M]) hb (kF C),hbw]
           · rw [hbw] at A; cases A
         · rename_i E;have C:=I t<|dk.1 hb;rw [E] at C;rw [j6] at C;exact Bk J (by simp [fg,L,M]) hb (gF C).symm
         · cases A
     · cases A
   · cases A
theorem tM (ad:Good P G ih) (ae:j2 P G X) (ac:iF P) (ag:∀ f args h v O,ih (.cl f args h)= .rv v O→∃ fn c,P.funcs[f]? =some fn∧fn.body=some c) {rd:Option Nat} {ops:List aJ} :∀ {l:List aJ} {fr ab:Tr AV} {D aa:List AD} {h O:Hp},
 lF P G X ih rd n ops l fr D h= .cd .cD ab aa O→eI P G rd n (fun rr Q a w=>wpListIn (fe rr) 0 P ops.toArray Q l a w) fr D h .cD ab aa O
 | [],fr,ab,D,aa,h,O,he=>by
   simp only [lF,Rs.cd.injEq,true_and] at he;obtain ⟨rfl,rfl,rfl⟩:=he;exact ⟨bf _,fun T r w σ Dl rr Q hT E C J M L=>L r w σ Dl (St.refl E) C J⟩
 | o::l,fr,ab,D,aa,h,O,he=>by
   simp only [lF] at he;split at he
   · rename_i ai;split at he
     · rename_i xs an;split at he
       · rename_i v aD A;split at he
         · rename_i ar V;obtain ⟨aC,s1⟩:=Fy ad ae ac ag A;obtain ⟨Z,s2⟩:=tM ad ae ac ag he;refine ⟨cQ aC Z,fun T r w σ Dl rr Q hT E C J M L=> ?_⟩;show wpListIn _ _ _ _ _ _ _ _;unfold wpListIn;rw [if_pos (zA (N:=⟨n,Dl,[],rr⟩) ai C)];obtain ⟨d,op,ty,pos,af,g⟩:=o;refine s1 T r w ⟨n,Dl,[],rr⟩ σ d ty pos af g _ Q (cQ Z hT) E (wy E.gX C an) fun r' u w' hu bK=> ?_;rw [gi];exact s2 T r' w' _ Dl rr Q hT bK.hr (rT V (C.le bK.le) hu) (o3 bK.le J) (FU bK.le M) fun ao w2 ap aj am al ak=>L ao w2 ap aj (bK.trans am) al ak
         · cases he
       · rename_i a A;split at he
         · split at he
           · rename_i ar V;obtain ⟨Z,s2⟩:=tM ad ae ac ag he;refine ⟨Z,fun T r w σ Dl rr Q hT E C J M L=> ?_⟩;have az:rr=none:=by
              cases rr with
              | none=>rfl
              | some k=>exact M.elim
             subst az;show wpListIn _ _ _ _ _ _ _ _;unfold wpListIn;rw [if_pos (zA (N:=⟨n,Dl,[],none⟩) ai C)];obtain ⟨d,op,ty,pos,af,g⟩:=o;simp only at A an V;have aB:=wy (N:=⟨n,Dl,[],none⟩) E.gX C an;unfold tL at A;split at A
             · cases A
             · split at A
               · cases A
               · split at A
                 · rename_i fo I aq;split at A
                   · unfold vn at A;split at A
                     · split at A
                       · split at A <;> cases A
                       · split at A <;> cases A
                     · split at A <;> cases A
                     · cases A
                   · cases A
                 · rename_i fo I aq _ _;split at A
                   · rename_i f a' c' args _ _;cases A;obtain ⟨I⟩:=I;obtain ⟨u,us,ah,ax,av⟩:=fw aB;simp only [iz,fZ,lM] at ah;obtain ⟨ah,rfl⟩:=ah;obtain ⟨a2,c2,ha,aw,rfl⟩:=nQ ax;refine ⟨fun f _=>trivial,?_⟩;have aA:(execOp (ev ⟨n,Dl,[],none⟩ σ) ⟨d,.defer ⟨.value fo,⟨I⟩,aq⟩,ty,pos,af,g⟩).run P w= .ok (.defer {target:= .fn (.func f) c2.toArray,args:=a2.toArray++(⟨I⟩:Array bA).map (ev ⟨n,Dl,[],none⟩ σ)}) w:=by
                      simp [execOp,resolve,ah,mE]
                     show sE _ _ _ _ _ _ _ (lK P (Oper.semAt (fe none).round _ _) w);rw [o6,Oper.semAt_none,ej,aA];simp only [Oper.uponIn_defer];have ay:({(act ⟨n,Dl,[],none⟩ σ) with defers:= {target:=Target.fn (.func f) c2.toArray,args:=a2.toArray++(⟨I⟩:Array bA).map (ev ⟨n,Dl,[],none⟩ σ)} ::(act ⟨n,Dl,[],none⟩ σ).defers} :Act)=act ⟨n,{target:= .fn (.func f) c2.toArray,args:=a2.toArray++(⟨I⟩:Array bA).map (ev ⟨n,Dl,[],none⟩ σ)} ::Dl,[],none⟩ σ:=rfl;rw [ay,gi];refine s2 T r w _ _ none Q hT E (rT V C<|j6 r) ⟨⟨_,_,_,gH ha (gH av aw),U,by simp⟩,J⟩ M fun ao w2 ap aj am al ak=>L ao w2 ap aj am al ak
                   · cases A
                 · split at A
                   · cases A
                   · split at A
                     · rename_i au _;cases hle:bL h.nx au.nx
                       · rw [hle] at A; cases A
                       · rw [hle] at A; cases A
                     · cases A
           · cases he
         · cases he
       · cases he
     · cases he
   · rename_i ai;split at he
     · rename_i ar V;obtain ⟨Z,s2⟩:=tM ad ae ac ag he;refine ⟨Z,fun T r w σ Dl rr Q hT E C J M L=> ?_⟩;show wpListIn _ _ _ _ _ _ _ _;unfold wpListIn;rw [if_neg (by rw [Eb (N:=⟨n,Dl,[],rr⟩) ai C]; simp)];refine ⟨fun f _=>lY _ f,?_⟩;rw [gi];exact s2 T r w _ Dl rr Q hT E (rT V C<|j6 r) J M L
     · cases he
   · cases he
end
end Go.Hb
namespace Go.Hb
section
variable {P:av} {G:Nat} {X:Xt} {ih:Tk→Rs} {n:Nat} {r:Rn} {T:Nat} {h:Hp} {w:ai}
theorem HR.loop (hr:HR P G r T h w) {l:Nat} {st:LoopState} {E:Option cj} {fr:Tr AV} {ps:List Nat} {aT body:cj} {D:Nat} (O:h.t.get l=some (.loop st E n fr ps aT body D)):
 ∃ q fn A C,r l=some q∧w.heap[q.ax]? =some (.loop {state:=st,pending:=E,fn:=fn,tmps:=A,params:=ps.toArray,assign:=aT,body:=body,defers:=C})∧(∃ x,r D=some x∧x.ax=C)∧A.size=n∧∀ i,i < n→den r (eb fr i)=A[i]? :=by
 obtain ⟨q,U,fn,A,C,I,J,L,M⟩:=hr.live l _ O;exact ⟨q,fn,A,C,U,I,J,L,M⟩
theorem HR.AN (hr:HR P G r T h w) {l:Nat} {q:Loc} {st st':LoopState} {E pe':Option cj} {fr:Tr AV} {ps:List Nat} {aT body:cj} {D fn C:Nat} {A:Array ah} (O:h.t.get l=some (.loop st E n fr ps aT body D)) (J:bL G l=true) (hb:aZ l di=true) (Z:r l=some q)
 (hw:w.heap[q.ax]? =some (.loop {state:=st,pending:=E,fn:=fn,tmps:=A,params:=ps.toArray,assign:=aT,body:=body,defers:=C})) (I:∃ x,r D=some x∧x.ax=C) (aa:A.size=n) (L:∀ i,i < n→den r (eb fr i)=A[i]?):
 St P G T r h w r ⟨h.t.set l (.loop st' pe' n fr ps aT body D),h.nx⟩ (w.putObj q.ax<|.loop {state:=st',pending:=pe',fn:=fn,tmps:=A,params:=ps.toArray,assign:=aT,body:=body,defers:=C}):=by
 have V:=(cr.1 hw).1;refine hr.ng O hb Z (cE J) ?_ ⟨U,U,by simp [Iw],fun k _ M=>lL M⟩;rw [qi V];exact ⟨fn,A,C,U,I,aa,L⟩
theorem Gr {σ:Nat→ah} :∀ {ps:List Nat} {args:List AV} {L:List ah} {fr A:Tr AV},pJ n ps args fr=some A→fH r n fr σ→bc r args=some L→L.length=ps.length∧fH r n A ((ps.zip L).foldl (fun s p=>bI s p.1 p.2) σ)
 | [],[],L,fr,A,hs,hf,hd=>by
   simp only [pJ,bR] at hs;subst hs;rw [lX hd]; exact ⟨rfl,hf⟩
 | [],_::_,_,_,_,hs,_,_=>by simp [pJ] at hs
 | _::_,[],_,_,_,hs,_,_=>by simp [pJ] at hs
 | p::ps,v::vs,L,fr,A,hs,hf,hd=>by
   simp only [pJ] at hs;split at hs
   · rename_i U E;obtain ⟨u,us,rfl,I,J⟩:=fw hd;have C:=rT E hf I;simp only [dq] at C;obtain ⟨M,O⟩:=Gr hs C J;exact ⟨by simp [M],O⟩
   · cases hs
theorem Ju (N:Fm) (l:List (Tmp×ah)) (σ:Nat→ah):l.foldl (fun t p=>t.setIfInBounds p.1 p.2) (act N σ).tmps=(act N<|l.foldl (fun s p=>bI s p.1 p.2) σ).tmps:=yC N l σ
theorem Jt {A:Array ah} {N:Fm} (C:A.size=N.n):A=(act N fun i=>A.getD i undef).tmps:=by
 apply Array.ext_getElem?;intro i;rw [kD];by_cases hi:i < N.n
 · rw [if_pos hi,kn,pU ag]; rfl
 · rw [if_neg hi,Array.getElem?_eq_none ag]
theorem KF {c:Bool} {p:Rs} {v:AV} {h:Hp} (A:cond c p .no= .rv v h):c=true∧p= .rv v h:=by
 cases c
 · cases A
 · exact ⟨U,A⟩
theorem Q1 (al:Good P G ih) {l:Nat} {args:List AV} {I:Hp} {v:AV} (A:uo G ih l args h= .rv v I):yz P G l args h v I:=by
 unfold uo at A;split at A
 · rename_i bj n fr ps aT body d aS;split at A
   · rename_i aD aW;split at A
     · rename_i aE ak aI;have s1:=al<|.cd (some l) n aT aD [] h;rw [aI] at s1;obtain ⟨a3,s1⟩:=s1;split at A
       · rename_i aw m1 aC a4 aA aB d1 am;replace A:=KF A; obtain ⟨E,A⟩:=A;simp only [bO] at E;split at A
         · rename_i e bf J aJ;have s2:=al<|.cd (some l) n body aE [] ⟨ak.t.set l (.loop .busy aw m1 aC a4 aA aB d1),ak.nx⟩;rw [aJ] at s2;obtain ⟨av,s2⟩:=s2;simp only at av;split at A
           · rename_i bm au aj ay ad ae d2 an;have key:∀ (jump:Option cj) (st:LoopState),jump=DN e→st=(if jump.isNone then .ready else .done)→v= .bool jump.isNone→I=⟨J.t.set l (.loop st jump au aj ay ad ae d2),J.nx⟩→yz P G l args h v I:=by
              intro jump st aa bK a2 aR;subst a2 aR;refine ⟨cQ a3 av,fun T r w L q hT hr aK ab=> ?_⟩;simp only at hT;obtain ⟨q',fn,C,bp,ao,hw,bg,aY,aO⟩:=hr.loop aS;rw [ab] at ao; cases ao;have aX:=Gr (σ:=fun i=>C.getD i undef) aW (fun i hi=>by
               show den r (eb fr i)=some (C.getD i undef);rw [aO i hi,kn,pU ag]; rfl) aK
              obtain ⟨hlen,aM⟩:=aX;have aV:=run_yield (P:=P) (args:=L.toArray) hw<|by simpa using hlen
              refine ⟨_,_,_,_,aV,roundIn_of_wpIn (F:=fX) trivial ?_⟩;have a1:((ps.toArray.zip L.toArray).foldl (fun tmps (p:Tmp×ah)=>tmps.setIfInBounds p.1 p.2) C)=(act ⟨n,[],[],some q.ax⟩<|(ps.zip L).foldl (fun s p=>bI s p.1 p.2) fun i=>C.getD i undef).tmps:=by
               rw [← xO,Array.toList_zip];simp only [];rw [← Ju ⟨n,[],[],some q.ax⟩];rw [← Jt (N:=⟨n,[],[],some q.ax⟩) aY]
              have ai:({tmps:=((ps.toArray.zip L.toArray).foldl (fun tmps (p:Tmp×ah)=>tmps.setIfInBounds p.1 p.2) C),defers:= []} :Act)=act ⟨n,[],[],some q.ax⟩ ((ps.zip L).foldl (fun s p=>bI s p.1 p.2) fun i=>C.getD i undef):=by rw [a1]; rfl
              simp only at ai ⊢;rw [ai];refine s1 T r w _ [] (some q.ax) _ ag hr aM trivial ⟨q,ab,U⟩ fun a5 w1 ba ac O aN aL=> ?_;have aH:ac= []:=by cases ac; rfl; exact aL.elim
              subst aH;obtain ⟨bn,bc,bt,bq,M,aq,aF,aZ,aP⟩:=O.hr.loop am;have :=O.le _ _ ab;rw [M] at this; cases this;have az:=O.hr.AN (st':= .busy) (pe':=aw) am E.1 E.2 M aq aF aZ aP;refine ⟨_,run_beginRound aq U,?_⟩;refine s2 T a5 _ ba [] (some q.ax) _ ag az.hr aN trivial ⟨q,M,U⟩ fun a6 a9 bv bb V bi bh=> ?_;obtain ⟨bo,bd,bu,br,ap,ar,aG,a0,aQ⟩:=V.hr.loop an;have :=V.le _ _ M;rw [ap] at this; cases this;have a7:=V.hr.AN (st':=st) (pe':=jump) an E.1 E.2 ap ar aG a0 aQ;have Z:=run_endRound (P:=P) jump ar;simp only at Z;rw [← bK] at Z;have a8:=St.trans (St.trans (St.trans O az) V) a7;have fin:∃ v w',(Instr.endRound q.ax jump).run P a9= .ok v w'∧∃ u r',(Ending.returned v)= .returned u∧den r' (.bool jump.isNone)=some u∧St P G T r h w r' ⟨J.t.set l (.loop st jump au aj ay ad ae d2),J.nx⟩ w':=
               ⟨_,_,Z,_,a6,rfl,rfl,a8⟩
              cases e with
              | cD=>subst aa; exact fin
              | ret=>subst aa; exact fin
              | ext i=>subst aa; exact fin
             split at A
             · cases A;exact key none .ready U U U U
             · rename_i aU;cases A;cases e with
               | cD=>exact absurd rfl aU
               | ret=>exact key (some .ret) .done rfl rfl rfl rfl
               | ext i=>exact key (some<|.exit i) .done rfl rfl rfl rfl
           · cases A
         · cases A
       · cases A
     · cases A
   · cases A
 · cases A
end
end Go.Hb
namespace Go.Hb
section
variable {P:av} {G:Nat} {X:Xt} {ih:Tk→Rs} {n:Nat} {r:Rn} {T:Nat} {h:Hp} {w:ai}
theorem KE {c:Bool} {p:Rs} {e:EX} {fr:Tr AV} {D:List AD} {h:Hp} (A:cond c p .no= .cd e fr D h):c=true∧p= .cd e fr D h:=by
 cases c
 · cases A
 · exact ⟨U,A⟩
theorem Dk (ak:Good P G ih) {rd:Option Nat} {fr L:Tr AV} {D J:List AD} {l:Nat} {A:Hp} {e:EX} (he:qQ G ih rd n fr D l h= .cd e L J A):h.nx≤A.nx∧
 ∀ (T:Nat) (r:Rn) (w:ai) (σ:Nat→ah) (Dl:List Deferred) (rr:Option Nat) (Q:bM→Act→ai→Prop) (q:Loc) (u:ah),A.nx≤T→HR P G r T h w→r l=some q→fH r n fr σ→lr r D Dl→tR r rd rr→
   (∀ (r':Rn) (w':ai) (σ':Nat→ah) (I:List Deferred),St P G T r h w r' A w'→fH r' n L σ'→lr r' J I→Q (lu e) (act ⟨n,I,[],rr⟩ σ') w')→rangePost (fe rr) 0 P q.ax Q (act ⟨n,Dl,[],rr⟩ σ) (.returned u) w:=by
 unfold qQ at he;split at he
 · rename_i st C m M ps aT body d ac;have key:cond (bL G l && aZ l di) (match C with
    | none=>Rs.cd .cD fr D ⟨h.t.set l (.loop .exhausted C m M ps aT body d),h.nx⟩
    | some c=>ih (.cd rd n c fr D ⟨h.t.set l (.loop .exhausted C m M ps aT body d),h.nx⟩)) .no= .cd e L J A→st≠.busy→h.nx≤A.nx∧
   ∀ (T:Nat) (r:Rn) (w:ai) (σ:Nat→ah) (Dl:List Deferred) (rr:Option Nat) (Q:bM→Act→ai→Prop) (q:Loc) (u:ah),A.nx≤T→HR P G r T h w→r l=some q→fH r n fr σ→lr r D Dl→tR r rd rr→
     (∀ (r':Rn) (w':ai) (σ':Nat→ah) (I:List Deferred),St P G T r h w r' A w'→fH r' n L σ'→lr r' J I→Q (lu e) (act ⟨n,I,[],rr⟩ σ') w')→rangePost (fe rr) 0 P q.ax Q (act ⟨n,Dl,[],rr⟩ σ) (.returned u) w:=by
     intro he bK;obtain ⟨U,he⟩:=KE he;simp only [bO] at U;have run:∀ (r:Rn) (w:ai) (T:Nat) (q:Loc),HR P G r T h w→r l=some q→∃ w',(Instr.endLoop q.ax).run P w= .ok C w'∧St P G T r h w r ⟨h.t.set l (.loop .exhausted C m M ps aT body d),h.nx⟩ w':=by
      intro r w T q hr E;obtain ⟨q',fn,ay,aw,ad,hw,aj,ap,an⟩:=hr.loop ac;rw [E] at ad; cases ad;exact ⟨_,run_endLoop (P:=P) hw bK,hr.AN (st':= .exhausted) (pe':=C) ac U.1 U.2 E hw aj ap an⟩
     cases C with
     | none=>
       cases he;refine ⟨bf _,fun T r w σ Dl rr Q q u hT hr E Z V ae aa=> ?_⟩;obtain ⟨w',ab,O⟩:=run r w T q hr E;exact ⟨none,w',ab,aa r w' σ Dl O Z V⟩
     | some c=>
       simp only at he;have s1:=ak<|.cd rd n c fr D ⟨h.t.set l (.loop .exhausted (some c) m M ps aT body d),h.nx⟩;rw [he] at s1;obtain ⟨aq,s1⟩:=s1;refine ⟨aq,fun T r w σ Dl rr Q q u hT hr E Z V ae aa=> ?_⟩;obtain ⟨w',ab,O⟩:=run r w T q hr E;exact ⟨some c,w',ab,s1 T r w' σ Dl rr Q hT O.hr Z V ae fun ar w2 av ag au am al=>aa ar w2 av ag (O.trans au) am al⟩
   split at he
   · cases he
   · rename_i ao;exact key he ao
 · cases he
theorem Ov (ab:Good P G ih) (aJ:iF P) (aK:∀ f args h v aa,ih (.cl f args h)= .rv v aa→∃ fn c,P.funcs[f]? =some fn∧fn.body=some c) {rd:Option Nat} {g:bA} {ps:List Nat} {aT body:cj} {fr aH:Tr AV} {D aG:List AD} {aa:Hp} {e:EX} (he:rL ih G rd n g ps aT body fr D h= .cd e aH aG aa):
 eI P G rd n (fun rr Q a w=>(Code.rangeFunc g ⟨ps⟩ aT body).wpIn (fe rr) 0 P Q a w) fr D h e aH aG aa:=by
 unfold rL at he;split at he
 · rename_i f a c aL;split at he
   · split at he
     · rename_i aI aM;split at he
       · rename_i aj O;split at he
         · rename_i v aU M;have s1:=ab<|.cl f (a++(.iS aI.nx::c)) aj;rw [M] at s1;obtain ⟨m1,s1⟩:=s1;obtain ⟨a4,s2⟩:=Dk ab he;have bb:=me aM;have a3:=me O;obtain ⟨ai,ah,av,am⟩:=aK _ _ _ _ _ M;have an:=aJ f ai ah av am;refine ⟨ag,fun T r w σ Dl rr Q hT hr J ap ac aw=> ?_⟩;have aY:rr=none:=by
            cases rr with
            | none=>rfl
            | some k=>exact ac.elim
           subst aY;refine wpIn_rangeFunc ?_;intro fn _;have I:=tK (N:=⟨n,Dl,[],none⟩) hr.gX J aL;obtain ⟨a',c',ha,ao,I⟩:=nQ I;obtain ⟨bh,aN,aA⟩:=hr.dQ aM ag 0 (w':=w.alloc<|.deferred<|some []) rfl rfl rfl fun r' _ _=>rfl;have aZ:(w.alloc<|.deferred<|some []).heap.size=w.heap.size+1:=World.size_alloc _ _;obtain ⟨Z,L,C⟩:=aA.hr.dQ O ag 0 (w':=(w.alloc<|.deferred<|some []).alloc<|.loop {state:= .ready,pending:=none,fn:=fn,tmps:=(act ⟨n,Dl,[],none⟩ σ).tmps,params:=⟨ps⟩,assign:=aT,body:=body,defers:=w.heap.size}) rfl rfl rfl fun r' hle _=>by
            refine ⟨fn,(act ⟨n,Dl,[],none⟩ σ).tmps,w.heap.size,U,⟨_,hle _ _ aN,U⟩,by simp [act],fun i hi=> ?_⟩;rw [kD,if_pos hi];exact mV hle<|mV aA.le<|J i hi
           have aB:=aA.trans C;rw [aZ] at L;have ak:=gH (jJ aB.le ha)<|ff (show den Z (.iS aI.nx)=some (.func (.yield<|w.heap.size+1) #[] #[]) from by simp only [den,L])<|jJ aB.le ao;have ay:=s1 T Z _ _ ag C.hr ak;refine ⟨w.heap.size+1,[{target:= .collected w.heap.size,args:= #[]}],((w.alloc<|.deferred<|some []).alloc<|.loop {state:= .ready,pending:=none,fn:=fn,tmps:=(act ⟨n,Dl,[],none⟩ σ).tmps,params:=⟨ps⟩,assign:=aT,body:=body,defers:=w.heap.size}),{target:= .fn (.func f) c'.toArray,args:=a'.toArray++ #[.func (.yield<|w.heap.size+1) #[] #[]]},((w.alloc<|.deferred<|some []).alloc<|.loop {state:= .ready,pending:=none,fn:=fn,tmps:=(act ⟨n,Dl,[],none⟩ σ).tmps,params:=⟨ps⟩,assign:=aT,body:=body,defers:=w.heap.size}),f,(a'++(.func (.yield<|w.heap.size+1) #[] #[]::c')).toArray,_,?_,?_,fun _ _=>trivial,?_,fun h0=>(by cases h0),callsIn_wide.2<|jv ay ?_⟩
           · exact run_enterLoop_outer _ _ _ _ _
           · have ar:(act ⟨n,Dl,[],none⟩ σ).eval g= .func (.func f) a'.toArray c'.toArray:=by rw [ej]; exact I
             simp only [resolve,ar];simp [go_sem]
           · have al:a'.toArray++ #[.func (.yield<|w.heap.size+1) #[] #[]]++c'.toArray=(a'++(.func (.yield<|w.heap.size+1) #[] #[]::c')).toArray:=by simp
             have :=an (a'++(.func (.yield<|w.heap.size+1) #[] #[]::c')).toArray<|(w.alloc<|.deferred<|some []).alloc<|.loop {state:= .ready,pending:=none,fn:=fn,tmps:=(act ⟨n,Dl,[],none⟩ σ).tmps,params:=⟨ps⟩,assign:=aT,body:=body,defers:=w.heap.size};simp only [invoke,al];exact this
           · rintro aR aD ⟨u,rfl,ad,_,E⟩;have fM:=aB.trans E;have hm:ad h.nx=some ⟨w.heap.size,0,0⟩:=E.le _ _<|C.le _ _ aN;exact s2 T ad aD σ ({target:= .collected w.heap.size,args:= #[]} ::Dl) none Q ⟨w.heap.size+1,0,0⟩ u hT E.hr (E.le _ _ L) (J.le fM.le) ⟨⟨_,hm,U⟩,o3 fM.le ap⟩ trivial fun az aE aF ae aC au aq=>aw az aE aF ae (fM.trans aC) au aq
         · cases he
       · cases he
     · cases he
   · rename_i bc;split at he
     · rename_i bi bd m0 a8 bf a5 a6 d aW;split at he
       · rename_i aj O;split at he
         · rename_i v aU M;have s1:=ab<|.cl f (a++(.iS h.nx::c)) aj;rw [M] at s1;obtain ⟨m1,s1⟩:=s1;obtain ⟨a4,s2⟩:=Dk ab he;have a3:=me O;obtain ⟨ai,ah,av,am⟩:=aK _ _ _ _ _ M;have an:=aJ f ai ah av am;refine ⟨ag,fun T r w σ Dl rr Q hT hr J ap ac aw=> ?_⟩;obtain ⟨aQ,rfl⟩:∃ aQ,rr=some aQ:=by
            cases rr with
            | none=>exact ac.elim
            | some k=>exact ⟨k,rfl⟩
           obtain ⟨A,aO,aX⟩:=ac;obtain ⟨bg,a7,bj,V,aP,a0,aV,ba,a9⟩:=hr.loop aW;rw [aO] at aP; cases aP;subst aX;refine wpIn_rangeFunc ?_;intro fn _;have I:=tK (N:=⟨n,Dl,[],some A.ax⟩) hr.gX J aL;obtain ⟨a',c',ha,ao,I⟩:=nQ I;obtain ⟨Z,L,C⟩:=hr.dQ O ag 0 (w':=w.alloc<|.loop {state:= .ready,pending:=none,fn:=fn,tmps:=(act ⟨n,Dl,[],some A.ax⟩ σ).tmps,params:=⟨ps⟩,assign:=aT,body:=body,defers:=V}) rfl rfl rfl fun r' hle _=>by
            obtain ⟨x,a1,a2⟩:=aV;refine ⟨fn,(act ⟨n,Dl,[],some A.ax⟩ σ).tmps,V,U,⟨x,hle _ _ a1,a2⟩,by simp [act],fun i hi=> ?_⟩;rw [kD,if_pos hi];exact mV hle<|J i hi
           have ak:=gH (jJ C.le ha)<|ff (show den Z (.iS h.nx)=some (.func (.yield w.heap.size) #[] #[]) from by simp only [den,L])<|jJ C.le ao;have ay:=s1 T Z _ _ ag C.hr ak;refine ⟨w.heap.size,[],(w.alloc<|.loop {state:= .ready,pending:=none,fn:=fn,tmps:=(act ⟨n,Dl,[],some A.ax⟩ σ).tmps,params:=⟨ps⟩,assign:=aT,body:=body,defers:=V}),{target:= .fn (.func f) c'.toArray,args:=a'.toArray++ #[.func (.yield w.heap.size) #[] #[]]},(w.alloc<|.loop {state:= .ready,pending:=none,fn:=fn,tmps:=(act ⟨n,Dl,[],some A.ax⟩ σ).tmps,params:=⟨ps⟩,assign:=aT,body:=body,defers:=V}),f,(a'++(.func (.yield w.heap.size) #[] #[]::c')).toArray,_,?_,?_,fun aS _=>lY _ aS,?_,fun h0=>(by cases h0),vJ<|jv ay ?_⟩
           · exact run_enterLoop_inner a0 _ _ _ _ _
           · have ar:(act ⟨n,Dl,[],some A.ax⟩ σ).eval g= .func (.func f) a'.toArray c'.toArray:=by rw [ej]; exact I
             simp only [resolve,ar];simp [go_sem]
           · have al:a'.toArray++ #[.func (.yield w.heap.size) #[] #[]]++c'.toArray=(a'++(.func (.yield w.heap.size) #[] #[]::c')).toArray:=by simp
             have :=an (a'++(.func (.yield w.heap.size) #[] #[]::c')).toArray<|w.alloc<|.loop {state:= .ready,pending:=none,fn:=fn,tmps:=(act ⟨n,Dl,[],some A.ax⟩ σ).tmps,params:=⟨ps⟩,assign:=aT,body:=body,defers:=V};simp only [invoke,al];exact this
           · rintro aR aD ⟨u,rfl,ad,_,E⟩;have fM:=C.trans E;exact s2 T ad aD σ _ (some A.ax) Q ⟨w.heap.size,0,0⟩ u hT E.hr (E.le _ _ L) (J.le fM.le) (o3 fM.le ap) ⟨A,fM.le _ _ aO,U⟩ fun az aE aF ae aC au aq=>aw az aE aF ae (fM.trans aC) au aq
         · cases he
       · cases he
     · cases he
 · cases he
theorem Az {N:Fm} {σ:Nat→ah} (hr:HR P G r T h w) {fr:Tr AV} (J:fH r N.n fr σ):∀ {l:List ResultVar} {vs:List AV},kg P N.n fr h l=some vs→∃ us,bc r vs=some us∧(l.mapM<|nq (act N σ).tmps).run P w= .ok us w
 | [],vs,A=>by
   simp only [kg,bR] at A;subst A;exact ⟨[],by simp [bc],by simp⟩
 | .tmp t::l,vs,A=>by
   simp only [kg] at A;split at A
   · rename_i ad E;replace A:=bE A; obtain ⟨C,A⟩:=A;cases A;obtain ⟨us,L,M⟩:=Az hr J E;have O:=J t<|dk.1 C;have V:=lG (P:=P) (w:=w)<|np (P:=P) (N:=N) (σ:=σ) (w:=w) (t:=t);have I:ev N σ (.tmp t)=σ t:=by simp only [ev,C,cond_true]
     rw [I] at V;exact ⟨σ t::us,ff O L,by simp [IS,V,M]⟩
   · cases A
 | .cell a t::l,vs,A=>by
   simp only [kg] at A;split at A
   · rename_i ad E;replace A:=bE A; obtain ⟨C,A⟩:=A;split at A
     · rename_i v c9;cases A;obtain ⟨us,L,M⟩:=Az hr J E;have O:=J a<|dk.1 C;have I:ev N σ (.tmp a)=σ a:=by simp only [ev,C,cond_true]
       obtain ⟨b,off,u,Z,hu,aa⟩:=EG hr c9 O;have ab:mM P N σ w (.cell a t) u:=by
        rcases aa with ⟨ha,U⟩ | ⟨m,cs,ha,rfl,E,U⟩
        · exact kR (I.trans Z) ha U
        · exact jn (I.trans Z) ha E U
       have ac:=lG ab;exact ⟨u::us,ff hu L,by simp [IS,ac,M]⟩
     · cases A
   · cases A
theorem AE {N:Fm} {σ:Nat→ah} {fn:Func} (hr:HR P G r T h w) {fr:Tr AV} (J:fH r N.n fr σ) {vs:List AV} (O:kg P N.n fr h fn.results.toList=some vs):∃ u,den r (pG vs)=some u∧(results fn (act N σ).tmps).run P w= .ok u w:=by
 obtain ⟨us,A,I⟩:=Az hr J O;have V:(results fn (act N σ).tmps)=(do let vs ← fn.results.mapM (nq (act N σ).tmps); pure (if h:vs.size=1 then vs[0] else .tuple vs)):=rfl;have E:=dZ A;have C:(fn.results.mapM<|nq (act N σ).tmps).run P w= .ok us.toArray w:=by
  have :fn.results=fn.results.toList.toArray:=by simp
  rw [this,List.mapM_toArray];simp [I]
 rw [V];unfold pG;split
 · obtain ⟨u,rfl⟩:=uI.1 (show us.length=1 from E);exact ⟨u,gj A,by simp [C]⟩
 · rename_i M;refine ⟨.tuple us.toArray,by simp only [den,A],?_⟩;have L:us.length≠1:=fun e=>by
    rw [E] at e;obtain ⟨v,rfl⟩:=uI.1 e;exact M v U
   simp [C,L]
end
end Go.Hb
namespace Go.Hb
section
variable {P:av} {G:Nat} {X:Xt} {ih:Tk→Rs} {n:Nat} {r:Rn} {T:Nat} {h:Hp} {w:ai}
theorem D3:∀ (l:List AV) (k:Nat) (fr:Tr AV) (i:Nat),k+l.length≤1048574→(j9 k l fr).get i=if k≤i∧i < k+l.length then l[i - k]? else fr.get i
 | [],k,fr,i,_=>by rw [j9,if_neg (fun h=>by have :=h.1; have :=h.2; simp only [fq] at this; omega)]
 | v::l,k,fr,i,h=>by
   simp only [cn] at h;rw [j9,D3 l (k+1) _ i ag,Tr.nW _ _ _ _ (dk.2 (show k < 1048574 by omega))];by_cases C:k+1≤i∧i < k+1 +l.length
   · rw [if_pos C,if_pos (by simp only [cn]; omega)];obtain ⟨m,hm⟩:∃ m,i - k=m+1:=⟨i - k - 1,ag⟩
     rw [hm,jZ,show i - (k+1)=m from by omega]
   · rw [if_neg C];by_cases A:i=k
     · rw [if_pos A,if_pos (by simp only [cn]; omega),A]; simp
     · rw [if_neg A,if_neg (by simp only [cn]; omega)]
theorem zt {args:List AV} {L:List ah} (C:bc r args=some L) (hb:bL args.length n=true) (hn:aZ n di=true):fH r n (j9 0 args .nil) (eE L):=by
 have hb:=cE hb;have hn:n < 1048574:=dk.1 hn;have J:=dZ C;intro i hi;simp only [eb,D3 args 0 .nil i ag,eE,sL,true_and,dx,Nat.sub_zero];by_cases A:i < args.length
 · rw [if_pos A,cI A];obtain ⟨u,E,I⟩:=qM C<|cI A;simp only [I,cW,E,jz]
 · rw [if_neg A,Tr.get_nil];simp only [j6,cW];rw [qk ag]; rfl
theorem CA {f:FuncId} {args:Array ah} {u:FrameMode} {R A:Ending→FrameMode→ai→Prop} (C:CallsDIn fX 0 P f args u w R) (hr:∀ e u w,R e u w→A e u w):CallsDIn fX 0 P f args u w A:=
 ⟨C.1,fun c cs hu E=>let ⟨e,u',w',fr,h1,h2⟩:=C.2 c cs hu E; ⟨e,u',w',fr,hr _ _ _ h1,h2⟩⟩
theorem Ka {f:FuncId} {fn:Func} {id N d:Nat} {ty:au} {pos :String} {af:Array cH} {rest:List aJ} {y:cj} {args:List ah} {R:ai→Prop}
 (I:P.funcs[f]? =some fn) (hb:fn.body=some (.seq (.region id ⟨⟨some d,.call ⟨.builtin .recover,⟨[]⟩,⟨[]⟩⟩,ty,pos,af,none⟩::rest⟩ false) y)) (ab:fn.ntmps=N) (hn:bL args.length N=true)
 (h:wpListIn (fe none) 0 P (⟨some d,.call ⟨.builtin .recover,⟨[]⟩,⟨[]⟩⟩,ty,pos,af,none⟩::rest).toArray (Exit.then (y.wpIn (fe none) 0 P fun e a w=>(e= .normal∨e= .ret)∧a.defers= []∧∃ v,(results fn a.tmps).run P w= .ok v w∧R w) fun _ _ _=>False) rest (act ⟨N,[],[],none⟩<|bI (eE args) d .nilIface) w):
 CallsDIn fX 0 P f args.toArray .returning w fun e ap w'=> ∃ v,e= .returned v∧ap= .returning∧R w':=by
 subst ab;refine ⟨trivial,fun A cs hu _=> ?_⟩
 let b:Frame:= {(default:Frame) with fn:=f,kind:= .deferred}
 have ac:Frame.enter P f args.toArray .deferred=b.at (act ⟨fn.ntmps,[],[],none⟩<|eE args) [.code (.seq (.region id ⟨⟨some d,.call ⟨.builtin .recover,⟨[]⟩,⟨[]⟩⟩,ty,pos,af,none⟩::rest⟩ false) y)]:=by
  rw [← pK fn args [] hn];simp [Frame.enter,Frame.at,I,hb,b]
 have an:qt (⟨⟨some d,.call ⟨.builtin .recover,⟨[]⟩,⟨[]⟩⟩,ty,pos,af,none⟩::rest⟩:Array aJ).size=0::(oG 1 rest.length):=by
  rw [fP,cn,List.range_eq_range',List.range'_succ]
 have ag:=wpOpsIn_eq_wpListIn (F:=fe none) (n:=0) (P:=P) (ops:=(⟨some d,.call ⟨.builtin .recover,⟨[]⟩,⟨[]⟩⟩,ty,pos,af,none⟩::rest).toArray) (Q:=Exit.then (y.wpIn (fe none) 0 P fun e a w=>(e= .normal∨e= .ret)∧a.defers= []∧∃ v,(results fn a.tmps).run P w= .ok v w∧R w) fun _ _ _=>False) rest 1 fun j=>by simp [yn]
 rw [← ag] at h;obtain ⟨e,a',w',V,C⟩:=wp_opsIn _ _ _ h b [.code y] (A::cs) rfl trivial (room_wide _);have C:=(arrivesIn_iff (b:=b) (fun _ _=>stepsIn_wide) rfl).1 C;have al:step P (lone (b.at (act ⟨fn.ntmps,[],[],none⟩<|eE args) (.inRegion (⟨some d,.call ⟨.builtin .recover,⟨[]⟩,⟨[]⟩⟩,ty,pos,af,none⟩::rest).toArray (0::oG 1 rest.length)::[.code y])) (A::cs) w)=
  .next (lone (b.at (act ⟨fn.ntmps,[],[],none⟩<|bI (eE args) d .nilIface) (.inRegion (⟨some d,.call ⟨.builtin .recover,⟨[]⟩,⟨[]⟩⟩,ty,pos,af,none⟩::rest).toArray (oG 1 rest.length)::[.code y])) (A::cs) w):=by
  have ae:=stepG_op (P:=P) (b:=b) (a:=act ⟨fn.ntmps,[],[],none⟩<|eE args) (k:= [.code y]) (cs:=A::cs) (w:=w) (ops:=(⟨some d,.call ⟨.builtin .recover,⟨[]⟩,⟨[]⟩⟩,ty,pos,af,none⟩::rest).toArray) (i:=0) (rest:=oG 1 rest.length) (o:=⟨some d,.call ⟨.builtin .recover,⟨[]⟩,⟨[]⟩⟩,ty,pos,af,none⟩) rfl (gR _ rfl _);have ao:(execOp (act ⟨fn.ntmps,[],[],none⟩<|eE args).eval ⟨some d,.call ⟨.builtin .recover,⟨[]⟩,⟨[]⟩⟩,ty,pos,af,none⟩).run P w= .ok .recover w:=by
   rw [ej];simp [execOp,resolve,invoke,builtin]
  have aa:=tryRecover_deferred (fr:=b.at (act ⟨fn.ntmps,[],[],none⟩<|eE args) (.inRegion (⟨some d,.call ⟨.builtin .recover,⟨[]⟩,⟨[]⟩⟩,ty,pos,af,none⟩::rest).toArray (0::oG 1 rest.length)::[.code y])) rfl (A::cs);have aj:recoverD (A::cs)=none:=by simp [recoverD,hu]
  have ad:(b.at (act ⟨fn.ntmps,[],[],none⟩<|eE args) (.inRegion (⟨some d,.call ⟨.builtin .recover,⟨[]⟩,⟨[]⟩⟩,ty,pos,af,none⟩::rest).toArray (0::oG 1 rest.length)::[.code y])).finish .nilIface=b.at (act ⟨fn.ntmps,[],[],none⟩<|bI (eE args) d .nilIface) (.inRegion (⟨some d,.call ⟨.builtin .recover,⟨[]⟩,⟨[]⟩⟩,ty,pos,af,none⟩::rest).toArray (oG 1 rest.length)::[.code y]):=by
   rw [Frame.finish_at];have :=gi ⟨fn.ntmps,[],[],none⟩ (eE args) (some d) .nilIface;simp only [dq] at this;rw [← this]; rfl
  refine step_lone_go ?_;rw [ae,← ad];simp only [Frame.at] at aa ⊢;simp [stepG.apply,ao,aa,aj]
 have L:Steps P (lone (Frame.enter P f args.toArray .deferred) (A::cs) w) (lone (b.at (act ⟨fn.ntmps,[],[],none⟩<|bI (eE args) d .nilIface) (.inRegion (⟨some d,.call ⟨.builtin .recover,⟨[]⟩,⟨[]⟩⟩,ty,pos,af,none⟩::rest).toArray (oG 1 rest.length)::[.code y])) (A::cs) w):=by
  rw [ac];refine .head step_seq<|.head step_region ?_;rw [an];exact .one al
 cases e with
 | normal=>
   obtain ⟨aq,a2,w2,ak,E⟩:=V b [] (A::cs) rfl trivial (room_wide _);have E:=(arrivesIn_iff (b:=b) (fun _ _=>stepsIn_wide) rfl).1 E;obtain ⟨ji,M,v,Z,J⟩:=ak;have O:({A with mode:= .returning} :Frame)=A:=by rw [← hu]
   rcases ji with rfl | rfl
   · refine ⟨.returned v,.returning,w2,{b.at a2 [] with mode:= .returning},⟨v,U,U,J⟩,?_,U,U,U,M,fn,I,Z⟩;rw [O];exact stepsIn_wide.2<|Steps.trans L<|Steps.trans C<|Steps.trans E<|.one step_end
   · obtain ⟨todo,am⟩:=E;refine ⟨.returned v,.returning,w2,{b.at a2 todo with mode:= .returning},⟨v,U,U,J⟩,?_,U,U,U,M,fn,I,Z⟩;rw [O];exact stepsIn_wide.2<|Steps.trans L<|Steps.trans C am
 | _=>exact V.elim
theorem z6 (O:Good P G ih) (M:iF P) (Z:∀ f args h v C,ih (.df f args h)= .rv v C→∃ fn c,P.funcs[f]? =some fn∧fn.body=some c):∀ {D:List AD} {h C:Hp},lD G ih D h=some C→h.nx≤C.nx∧∀ (T:Nat) (r:Rn) (w:ai) (Dl:List Deferred) (fn:Func) (tmps:Array ah) (R:Ending→ai→Prop),
 C.nx≤T→HR P G r T h w→lr r D Dl→(∀ (r':Rn) (w':ai),St P G T r h w r' C w'→∃ v,(results fn tmps).run P w'= .ok v w'∧R (.returned v) w')→LeavesInM fX 0 P fn tmps R Dl .returning w
 | [],h,C,he=>by
   simp only [lD,bR] at he;subst he;refine ⟨bf _,fun T r w Dl fn tmps R hT hr A E=> ?_⟩;have :Dl= []:=by cases Dl; rfl; exact A.elim
   subst this;exact E r w<|St.refl hr
 | .mark d::D,h,C,he=>by
   simp only [lD] at he;split at he
   · rename_i ab;replace he:=bE he; obtain ⟨V,he⟩:=he;simp only [bO] at V;obtain ⟨J,s1⟩:=z6 O M Z he;refine ⟨J,fun T r w Dl fn tmps R hT hr A E=> ?_⟩;cases Dl with
     | nil=>exact A.elim
     | cons x Dl=>
       obtain ⟨⟨q,ac,rfl⟩,A⟩:=A;obtain ⟨q',ad,I⟩:=hr.live d _ ab;rw [ac] at ad; cases ad;have I:w.heap[q.ax]? =some (.deferred<|some []):=I;have an:=(cr.1 I).1;have st:St P G T r h w r ⟨h.t.set d (.mW false),h.nx⟩ (w.putObj q.ax<|.deferred none):=
        hr.ng ab V.2 ac (cE V.1) (by rw [qi an]; rfl) ⟨rfl,rfl,by simp [Iw],fun k _ E=>lL E⟩
       exact ⟨Ig,.inl ⟨q.ax,_,U,run_takeDeferred I,s1 T r _ Dl fn tmps R hT st.hr A fun r' w' st'=>E r' w'<|st.trans st'⟩⟩
   · cases he
 | .fn f args::D,h,C,he=>by
   simp only [lD] at he;split at he
   · rename_i v au aa;have L:=O<|.df f args h;rw [aa] at L;obtain ⟨ao,L⟩:=L;obtain ⟨ag,ae,am,aj⟩:=Z _ _ _ _ _ aa;have ak:=M f ag ae am aj;obtain ⟨J,s1⟩:=z6 O M Z he;refine ⟨cQ ao J,fun T r w Dl fn tmps R hT hr A E=> ?_⟩;cases Dl with
     | nil=>exact A.elim
     | cons x Dl=>
       obtain ⟨⟨a,cap,ar,ha,rfl,al⟩,A⟩:=A;refine ⟨Ig,.inr ⟨fun h0=>(by cases h0),.func f,cap,f,a.toArray,U,?_,fun _ _=>trivial,CA (L T r w a (cQ J hT) hr ha) ?_⟩⟩
       · simp only [invoke,al];exact ak a.toArray w
       · rintro e av w' ⟨v,rfl,rfl,r',st⟩;exact s1 T r' w' Dl fn tmps R hT st.hr (o3 st.le A) fun ap w2 aq=>E ap w2<|st.trans aq
   · cases he
def yu (P:av) (G:Nat) (X:Xt) (ih:Tk→Rs):Prop := ∀ (rd:Option Nat) (n id:Nat) (ops:List aJ) (fr:Tr AV) (D:List AD) (h:Hp),match vz P G X ih n ops fr D h with
 | .cd e C A E=>eI P G rd n (fun rr Q a w=>(H8 id ⟨ops⟩ true).wpIn (fe rr) 0 P Q a w) fr D h e C A E
 | .no=>True
 | _=>False
theorem eI.bind {rd:Option Nat} {W W' I:Option Nat→(bM→Act→ai→Prop)→Act→ai→Prop} {fr M O:Tr AV} {D C E:List AD} {h V Z:Hp} {J L:EX} (s1:eI P G rd n W fr D h J M C V) (s2:eI P G rd n W' M C V L O E Z)
 (ae:∀ rr Q a w,W rr (fun e a w=>e=lu J∧W' rr Q a w) a w→I rr Q a w):eI P G rd n I fr D h L O E Z:=by
 obtain ⟨ao,s1⟩:=s1;obtain ⟨ab,s2⟩:=s2;refine ⟨cQ ao ab,fun T r w σ Dl rr Q hT hr ak ag aa an=>ae rr Q _ w ?_⟩;exact s1 T r w σ Dl rr _ (cQ ab hT) hr ak ag aa fun ap w1 au ac A al ah=>⟨U,s2 T ap w1 au ac rr Q hT A.hr al ah (FU A.le aa) fun aq w2 av ad ar am aj=>an aq w2 av ad (A.trans ar) am aj⟩
theorem eI.map {rd:Option Nat} {W W':Option Nat→(bM→Act→ai→Prop)→Act→ai→Prop} {fr I:Tr AV} {D A:List AD} {h J:Hp} {C E:EX} (s1:eI P G rd n W fr D h C I A J)
 (M:∀ rr Q a w,W rr (fun e a w=>e=lu C∧Q (lu E) a w) a w→W' rr Q a w):eI P G rd n W' fr D h E I A J:=by
 obtain ⟨ad,s1⟩:=s1;exact ⟨ad,fun T r w σ Dl rr Q hT hr Z O ac ab=>M rr Q _ w<|s1 T r w σ Dl rr _ hT hr Z O ac fun ae w1 ah L ag aa V=>⟨U,ab ae w1 ah L ag aa V⟩⟩
theorem PU (Z:Good P G ih) (ae:iF P) (ai:∀ f args h v ad,ih (.df f args h)= .rv v ad→∃ fn c,P.funcs[f]? =some fn∧fn.body=some c) (f:Nat) (args:List AV) (h:Hp):nL P G (.cl f args h) (gP P G X ih<|.cl f args h):=by
 show nL P G (.cl f args h) (match P.funcs[f]? with
  | some fn=>match fn.body with
    | some c=>cond (bL args.length fn.ntmps && aZ fn.ntmps di) (match ih (.cd none fn.ntmps c (j9 0 args .nil) [] h) with
      | .cd (.ext _) _ _ _=> .no
      | .cd _ fr D h=>match lD G ih D h with
        | some h=>match kg P fn.ntmps fr h fn.results.toList with
          | some vs=> .rv (pG vs) h
          | none=> .no
        | none=> .no
      | _=> .no) .no
    | none=> .no
  | none=> .no)
 split
 · rename_i fn al;split
   · rename_i c ag;cases hc:(bL args.length fn.ntmps && aZ fn.ntmps di)
     · trivial
     · simp only [cond_true];simp only [bO] at hc;have key:∀ (e:EX) (fr:Tr AV) (D:List AD) (C A:Hp) (vs:List AV),(e= .cD∨e= .ret)→ih (.cd none fn.ntmps c (j9 0 args .nil) [] h)= .cd e fr D C→lD G ih D C=some A→kg P fn.ntmps fr A fn.results.toList=some vs→nL P G (.cl f args h) (.rv (pG vs) A):=by
        intro e fr D C A vs aj M E I;have O:=Z<|.cd none fn.ntmps c (j9 0 args .nil) [] h;rw [M] at O;obtain ⟨an,O⟩:=O;obtain ⟨ab,s1⟩:=z6 Z ae ai E;refine ⟨cQ an ab,fun T r w L hT hr aa=> ?_⟩;have hlen:=dZ aa;refine callsIn_wide.1<|callsIn_of_wp_marks (F:=fX) (n:=0) al ag trivial ?_;rw [pK fn L [] (by rw [hlen]; exact hc.1)];refine O T r w (eE L) [] none _ (cQ ab hT) hr (zt aa hc.1 hc.2) trivial trivial fun ao w1 aq J ac ak ah=> ?_;have fin:LeavesInM fX 0 P fn (act ⟨fn.ntmps,J,[],none⟩ aq).tmps (fun e w'=> ∃ v,e= .returned v∧∃ r',den r' (pG vs)=some v∧St P G T r h w r' A w') J .returning w1:=by
         refine s1 T ao w1 J fn _ _ hT ac.hr ah fun ap w2 V=> ?_;obtain ⟨u,hu,am⟩:=AE (N:=⟨fn.ntmps,J,[],none⟩) V.hr (ak.le V.le) I;exact ⟨u,am,u,U,ap,hu,ac.trans V⟩
        rcases aj with rfl | rfl <;> exact fin
       cases M:ih (.cd none fn.ntmps c (j9 0 args .nil) [] h) with
       | no=>trivial
       | rv v C=>trivial
       | cd e fr D C=>
         cases e with
         | ext i=>trivial
         | cD=>
           simp only;cases E:lD G ih D C with
           | none=>trivial
           | some A=>
             simp only;cases I:kg P fn.ntmps fr A fn.results.toList with
             | none=>trivial
             | some vs=>exact key .cD fr D C A vs (.inl rfl) M E I
         | ret=>
           simp only;cases E:lD G ih D C with
           | none=>trivial
           | some A=>
             simp only;cases I:kg P fn.ntmps fr A fn.results.toList with
             | none=>trivial
             | some vs=>exact key .ret fr D C A vs (.inr rfl) M E I
   · trivial
 · trivial
end
end Go.Hb
namespace Go.Hb
section
variable {P:av} {G:Nat} {X:Xt} {ih:Tk→Rs} {n:Nat} {r:Rn} {T:Nat} {h:Hp} {w:ai}
theorem PV (ac:Good P G ih) (ap:j2 P G X) (ao:iF P) (ar:∀ f args h v J,ih (.cl f args h)= .rv v J→∃ fn c,P.funcs[f]? =some fn∧fn.body=some c) (f:Nat) (args:List AV) (h:Hp):nL P G (.df f args h) (gP P G X ih<|.df f args h):=by
 cases hs:gP P G X ih (.df f args h) with
 | no=>trivial
 | cd e fr D Z=>
   exfalso;simp only [gP] at hs;split at hs;rename_i fn ah;split at hs;rename_i c ad;cases hc:(bL args.length fn.ntmps && aZ fn.ntmps di);rw [hc] at hs; cases hs;rw [hc] at hs;simp only [cond_true] at hs;split at hs;cases hs;split at hs <;> cases hs;cases hs;cases hs;cases hs
 | rv v J=>
   simp only [gP] at hs;split at hs;rename_i fn ah;split at hs;rename_i c ad;cases hc:(bL args.length fn.ntmps && aZ fn.ntmps di);rw [hc] at hs; cases hs;rw [hc] at hs;simp only [cond_true] at hs;simp only [bO] at hc;split at hs;cases hs;rename_i e aF Z ai A;split at hs;rename_i vs aj;cases hs;split at A;rename_i id d ty pos af rest y;split at A;rename_i aE ay;split at A;rename_i am aa ax;obtain ⟨az,s1⟩:=tM ac ap ao ar ax;have s2:=ac<|.cd none fn.ntmps y am [] aa;rw [A] at s2;obtain ⟨O,s2⟩:=s2;refine ⟨cQ az O,fun T r w L hT hr I=> ?_⟩;have hlen:=dZ I;refine Ka (R:=fun w'=> ∃ r',St P G T r h w r' J w') ah ad U (by rw [hlen]; exact hc.1) ?_;have av:=rT ay (zt I hc.1 hc.2) (show den r .fJ=some .nilIface from rfl);refine s1 T r w (bI (eE L) d .nilIface) [] none _ (cQ O hT) hr av trivial trivial fun aA w1 aC al ak aw au=> ?_;refine s2 T aA w1 aC al none _ hT ak.hr aw au trivial fun V aB aD E C ag ae=> ?_;have ab:E= []:=by cases E; rfl; exact ae.elim
   subst ab;obtain ⟨u,hu,M⟩:=AE (N:=⟨fn.ntmps,[],[],none⟩) C.hr ag aj;have he:lu e= .normal∨lu e= .ret:=by
    cases e with
    | cD=>exact .inl rfl
    | ret=>exact .inr rfl
    | ext i=>exact (ai i rfl).elim
   exact ⟨he,U,u,M,V,ak.trans C⟩;cases A;cases A;have s2:=ac<|.cd none fn.ntmps c (j9 0 args .nil) [] h;rw [A] at s2;obtain ⟨O,s2⟩:=s2;refine ⟨O,fun T r w L hT hr I=> ?_⟩;have hlen:=dZ I;have aq:=callsDIn_of_wp (F:=fX) (n:=0) (u:= .returning) (w:=w) (args:=L.toArray) (R:=fun e w'=> ∃ v,e= .returned v∧∃ r',St P G T r h w r' J w') ah ad trivial (by
    rw [pK fn L [] (by rw [hlen]; exact hc.1)];refine s2 T r w (eE L) [] none _ hT hr (zt I hc.1 hc.2) trivial trivial fun V aB aD E C ag ae=> ?_;have ab:E= []:=by cases E; rfl; exact ae.elim
    subst ab;obtain ⟨u,hu,M⟩:=AE (N:=⟨fn.ntmps,[],[],none⟩) C.hr ag aj;cases e with
    | cD=>exact ⟨rfl,u,M,u,rfl,V,C⟩
    | ret=>exact ⟨rfl,u,M,u,rfl,V,C⟩
    | ext i=>exact (ai i rfl).elim)
   exact CA aq fun e aG w' ⟨Z,v,aa,an⟩=>⟨v,aa,Z,an⟩
   cases hs;cases hs;cases hs;cases hs
theorem Bn {c:cj} {rr:Option Nat} {Q:bM→Act→ai→Prop} {a:Act} {w:ai} (Z:c.wpIn (fe rr) 0 P (Exit.then (xE P c rr Q) Q) a w):xE P c rr Q a w:=by
 intro b k cs J hb hr;obtain ⟨e,E,I,C,A⟩:=Z b (.inLoop c::k) cs J hb hr;cases e with
 | normal=>
   obtain ⟨O,L,ab,aa,V⟩:=C b k cs J hb hr;exact ⟨O,L,ab,aa,.of_steps (StepsIn.trans A<|.one (fenced_calm hb hr U) stepR_inLoop) V⟩
 | exit id=>exact ⟨.exit id,E,I,C,.pass (x:= .inLoop c) rfl (fun _ _=> .inl<|by simp) A⟩
 | goto l=>exact ⟨.goto l,E,I,C,.pass (x:= .inLoop c) rfl (fun _ _=> .inl<|by simp) A⟩
 | ret=>exact ⟨.ret,E,I,C,.pass (x:= .inLoop c) rfl (fun _ _=> .inl<|by simp) A⟩
 | panic M=>exact ⟨.panic M,E,I,C,.pass (x:= .inLoop c) rfl (fun _ _=> .inl<|by simp) A⟩
 | outgrown=>exact ⟨.outgrown,E,I,C,.pass (x:= .inLoop c) rfl (fun _ _=> .inl<|by simp) A⟩
theorem QQ {c:cj} {rr:Option Nat} {Q:bM→Act→ai→Prop} {a:Act} {w:ai} (h:xE P c rr Q a w):(Code.loop c).wpIn (fe rr) 0 P Q a w:=by
 intro b k cs E hb hr;obtain ⟨e,a',w',C,A⟩:=h b k cs E hb hr;exact ⟨e,a',w',C,.of_steps (.one (fenced_calm hb hr U) stepR_loop) A⟩
theorem Good.oZ (C:Good P G ih) {rd:Option Nat} {c:cj} {fr:Tr AV} {D:List AD} {h A:Hp} {v:AV} (E:ih (.cd rd n c fr D h)= .rv v A):False:=by
 have :=C (.cd rd n c fr D h); rw [E] at this; exact this
theorem Good.ES (C:Good P G ih) {rd:Option Nat} {c:cj} {fr:Tr AV} {D:List AD} {h A:Hp} {v:AV} (E:ih (.lp rd n c fr D h)= .rv v A):False:=by
 have :=C (.lp rd n c fr D h); rw [E] at this; exact this
theorem PW (A:Good P G ih) (rd:Option Nat) (n:Nat) (c:cj) (fr:Tr AV) (D:List AD) (h:Hp):nL P G (.lp rd n c fr D h) (gP P G X ih<|.lp rd n c fr D h):=by
 simp only [gP];cases hi:ih (.cd rd n c fr D h) with
 | no=>trivial
 | rv v C=>exact (A.oZ hi).elim
 | cd e I E C=>
   have s1:=A<|.cd rd n c fr D h;rw [hi] at s1;cases e with
   | cD=>
     simp only;have s2:=A<|.lp rd n c I E C;cases hj:ih (.lp rd n c I E C) with
     | no=>trivial
     | rv v J=>exact (A.ES hj).elim
     | cd M O L J=>
       rw [hj] at s2;exact eI.bind s1 s2 fun rr Q a w hw=>Bn (wpIn_mono hw fun e a w he=>by
        obtain ⟨rfl,he⟩:=he; exact he)
   | ret=>exact eI.map s1 fun rr Q a w hw=>Bn<|wpIn_mono hw fun e a w he=>by obtain ⟨rfl,he⟩:=he; exact he
   | ext i=>exact eI.map s1 fun rr Q a w hw=>Bn<|wpIn_mono hw fun e a w he=>by obtain ⟨rfl,he⟩:=he; exact he
theorem eI.here {rd:Option Nat} {W:Option Nat→(bM→Act→ai→Prop)→Act→ai→Prop} {fr:Tr AV} {D:List AD} {h:Hp} {e:EX} (A:∀ rr Q a w,Q (lu e) a w→W rr Q a w):eI P G rd n W fr D h e fr D h:=
 ⟨bf _,fun T r w σ Dl rr Q hT hr E C J I=>A rr Q _ w<|I r w σ Dl (St.refl hr) E C⟩
theorem wN {rd:Option Nat} {ops:List aJ} :∀ {l:List aJ} {fr:Tr AV} {D:List AD} {h:Hp},(∃ C A E,lF P G X ih rd n ops l fr D h= .cd .cD C A E)∨lF P G X ih rd n ops l fr D h= .no
 | [],fr,D,h=> .inl ⟨fr,D,h,rfl⟩
 | o::l,fr,D,h=>by
   simp only [lF];split
   · split
     · split
       · split
         · exact wN
         · exact .inr U
       · split
         · split
           · exact wN
           · exact .inr U
         · exact .inr U
       · exact .inr U
     · exact .inr U
   · split
     · exact wN
     · exact .inr U
   · exact .inr U
theorem Ow (I:Good P G ih) {rd:Option Nat} {g:bA} {ps:List Nat} {aT body:cj} {fr:Tr AV} {D:List AD} {h E:Hp} {v:AV} (A:rL ih G rd n g ps aT body fr D h= .rv v E):False:=by
 have C:∀ {fr:Tr AV} {D:List AD} {l:Nat} {h:Hp},qQ G ih rd n fr D l h= .rv v E→False:=by
  intro fr D l h A;unfold qQ at A;split at A
  · split at A
    · cases A
    · rename_i L m J ps aT body d _ _;cases hc:(bL G l && aZ l di)
      · rw [hc] at A; cases A
      · rw [hc] at A;simp only [cond_true] at A;split at A
        · cases A
        · exact I.oZ A
  · cases A
 unfold rL at A;split at A
 · split at A
   · split at A
     · split at A
       · split at A
         · exact C A
         · cases A
       · cases A
     · cases A
   · split at A
     · split at A
       · split at A
         · exact C A
         · cases A
       · cases A
     · cases A
 · cases A
theorem PT (A:Good P G ih) (ag:j2 P G X) (ab:iF P) (ae:yu P G X ih) (ac:∀ f args h v aa,ih (.cl f args h)= .rv v aa→∃ fn c,P.funcs[f]? =some fn∧fn.body=some c) (rd:Option Nat) (n:Nat) (c:cj) (fr:Tr AV) (D:List AD) (h:Hp):nL P G (.cd rd n c fr D h) (gP P G X ih<|.cd rd n c fr D h):=by
 cases c with
 | skip =>exact eI.here fun rr Q a w V=>wpIn_skip V
 | region id ops draw=>
   obtain ⟨ops⟩:=ops;simp only [gP];cases draw with
   | true =>
     simp only [cond_true];have :=ae rd n id ops fr D h;split at this
     · rename_i he; rw [he]; exact this
     · rename_i he; rw [he]; trivial
     · exact this.elim
   | false =>
     simp only [cond_false];rcases wN (P:=P) (G:=G) (X:=X) (ih:=ih) (n:=n) (rd:=rd) (ops:=ops) (l:=ops) (fr:=fr) (D:=D) (h:=h) with ⟨al,ai,aa,he⟩ | he
     · rw [he];obtain ⟨U,s1⟩:=tM A ag ab ac he;exact ⟨U,fun T r w σ Dl rr Q hT hr E L O M=>wpIn_region_lit<|s1 T r w σ Dl rr Q hT hr E L O M⟩
     · rw [he]; trivial
 | seq a b=>
   simp only [gP];cases hi:ih (.cd rd n a fr D h) with
   | no=>trivial
   | rv v C=>exact (A.oZ hi).elim
   | cd e J I C=>
     have s1:=A<|.cd rd n a fr D h;rw [hi] at s1;cases e with
     | cD=>
       simp only;have s2:=A<|.cd rd n b J I C;cases hj:ih (.cd rd n b J I C) with
       | no=>trivial
       | rv v ad=>exact (A.oZ hj).elim
       | cd ak am aj ad=>
         rw [hj] at s2;exact eI.bind s1 s2 fun rr Q a w hw=>wpIn_seq<|wpIn_mono hw fun e a w he=>by obtain ⟨rfl,he⟩:=he; exact he
     | ret=>exact eI.map s1 fun rr Q a w hw=>wpIn_seq<|wpIn_mono hw fun e a w he=>by obtain ⟨rfl,he⟩:=he; exact he
     | ext i=>exact eI.map s1 fun rr Q a w hw=>wpIn_seq<|wpIn_mono hw fun e a w he=>by obtain ⟨rfl,he⟩:=he; exact he
 | cond x a b=>
   simp only [gP];split
   · rename_i Z;have s1:=A<|.cd rd n a fr D h;cases hi:ih (.cd rd n a fr D h) with
     | no=>trivial
     | rv v C=>exact (A.oZ hi).elim
     | cd e J I C=>
       rw [hi] at s1;obtain ⟨U,s1⟩:=s1;exact ⟨U,fun T r w σ Dl rr Q hT hr E L O M=>wpIn_cond_true (by rw [ej]; exact kF<|tK (N:=⟨n,Dl,[],rr⟩) hr.gX E Z)<|s1 T r w σ Dl rr Q hT hr E L O M⟩
   · rename_i Z;have s1:=A<|.cd rd n b fr D h;cases hi:ih (.cd rd n b fr D h) with
     | no=>trivial
     | rv v C=>exact (A.oZ hi).elim
     | cd e J I C=>
       rw [hi] at s1;obtain ⟨U,s1⟩:=s1;exact ⟨U,fun T r w σ Dl rr Q hT hr E L O M=>wpIn_cond_false (by rw [ej]; exact kF<|tK (N:=⟨n,Dl,[],rr⟩) hr.gX E Z)<|s1 T r w σ Dl rr Q hT hr E L O M⟩
   · trivial
 | block id c=>
   simp only [gP];cases hi:ih (.cd rd n c fr D h) with
   | no=>trivial
   | rv v C=>exact (A.oZ hi).elim
   | cd e J I C=>
     have s1:=A<|.cd rd n c fr D h;rw [hi] at s1;cases e with
     | cD=>exact eI.map s1 fun rr Q a w hw=>wpIn_block<|wpIn_mono hw fun e a w he=>by obtain ⟨rfl,he⟩:=he; exact he
     | ret=>exact eI.map s1 fun rr Q a w hw=>wpIn_block<|wpIn_mono hw fun e a w he=>by obtain ⟨rfl,he⟩:=he; exact he
     | ext j=>
       simp only;cases hj:bC j id
       · have ah:j≠id:=fun e=>by subst e; simp at hj
         exact eI.map s1 fun rr Q a w hw=>wpIn_block (wpIn_mono hw fun e a w he=>by
          obtain ⟨rfl,he⟩:=he;simp only [lu,If,if_neg ah]; exact he)
       · obtain rfl :=cO hj;exact eI.map s1 fun rr Q a w hw=>wpIn_block (wpIn_mono hw fun e a w he=>by
          obtain ⟨rfl,he⟩:=he;simp only [lu,If,if_true]; exact he)
 | loop c=>
   simp only [gP];cases hi:ih (.lp rd n c fr D h) with
   | no=>trivial
   | rv v C=>exact (A.ES hi).elim
   | cd e J I C=>
     have s1:=A<|.lp rd n c fr D h;rw [hi] at s1;obtain ⟨U,s1⟩:=s1;exact ⟨U,fun T r w σ Dl rr Q hT hr E L O M=>QQ<|s1 T r w σ Dl rr Q hT hr E L O M⟩
 | rangeFunc g ps aT body=>
   obtain ⟨ps⟩:=ps;simp only [gP];cases hi:rL ih G rd n g ps aT body fr D h with
   | no=>trivial
   | rv v C=>exact (Ow A hi).elim
   | cd e J I C=>exact Ov A ab ac hi
 | exit id=>exact eI.here fun rr Q a w V=>wpIn_exit V
 | ret=>exact eI.here fun rr Q a w V=>wpIn_ret V
 | scope c=>trivial
 | label l=>trivial
 | goto l=>trivial
 | refuse s=>trivial
theorem PX (C:Good P G ih) (l:Nat) (args:List AV) (h:Hp):nL P G (.yl l args h) (gP P G X ih<|.yl l args h):=by
 simp only [gP];cases hi:uo G ih l args h with
 | no=>trivial
 | rv v A=>exact Q1 C hi
 | cd e fr D A=>
   exfalso;unfold uo at hi;split at hi
   · split at hi
     · split at hi
       · split at hi
         · rename_i M L J O E I d1 _;cases hc:(bL G l && aZ l di)
           · rw [hc] at hi; cases hi
           · rw [hc] at hi;simp only [cond_true] at hi;split at hi
             · split at hi
               · split at hi <;> cases hi
               · cases hi
             · cases hi
         · cases hi
       · cases hi
     · cases hi
   · cases hi
theorem LJ:∀ (k:Nat),(∀ f args h v C,jO P G X k (.cl f args h)= .rv v C→∃ fn c,P.funcs[f]? =some fn∧fn.body=some c)∧(∀ f args h v C,jO P G X k (.df f args h)= .rv v C→∃ fn c,P.funcs[f]? =some fn∧fn.body=some c)
 | 0=>⟨fun f args h v C A=>(by cases A),fun f args h v C A=>by cases A⟩
 | k+1=>by
   constructor
   · intro f args h v C A;simp only [jO,gP] at A;split at A
     · rename_i fn E;split at A
       · rename_i c hb; exact ⟨fn,c,E,hb⟩
       · cases A
     · cases A
   · intro f args h v C A;simp only [jO,gP] at A;split at A
     · rename_i fn E;split at A
       · rename_i c hb; exact ⟨fn,c,E,hb⟩
       · cases A
     · cases A
theorem DM (E:j2 P G X) (C:iF P) (J:∀ ih,Good P G ih→(∀ f args h v L,ih (.cl f args h)= .rv v L→∃ fn c,P.funcs[f]? =some fn∧fn.body=some c)→yu P G X ih):∀ k,Good P G (jO P G X k)
 | 0=>fun t=>by cases t <;> trivial
 | k+1=>fun t=>by
   have A:=DM E C J k;obtain ⟨I,M⟩:=LJ (P:=P) (G:=G) (X:=X) k;cases t with
   | cd rd n c fr D h=>exact PT A E C (J _ A I) I rd n c fr D h
   | lp rd n c fr D h=>exact PW A rd n c fr D h
   | cl f args h=>exact PU A C M f args h
   | yl l args h=>exact PX A l args h
   | df f args h=>exact PV A E C I f args h
end
end Go.Hb
namespace Go.Hb
mutual
theorem zc:∀ {a b:AV},iH a b=true→a=b
 | .bool a,.bool b,h=>by simp only [iH,beq_iff_eq] at h; rw [h]
 | .int k a,.int k' b,h=>by
   simp only [iH] at h;cases hk:bC (eU k) (eU k')
   · rw [hk] at h; cases h
   · rw [hk] at h;simp only [cond_true,decide_eq_true_iff] at h;rw [pd hk,h]
 | .str l,.str m,h=>by simp only [iH,qR,decide_eq_true_iff] at h; rw [h]
 | .ptr b o,.ptr b' o',h=>by
   simp only [iH,bO] at h;rw [cO h.1,cO h.2]
 | .jl,.jl,_=>rfl
 | .sl b o n c x,.sl b' o' n' c' x',h=>by
   simp only [iH,bO,beq_iff_eq] at h;obtain ⟨⟨A,C⟩,h3,h4,h5⟩:=h;rw [cO A,cO C,cO h3,cO h4,h5]
 | .fW,.fW,_=>rfl
 | .map b,.map b',h=>by simp only [iH] at h; rw [cO h]
 | .mg,.mg,_=>rfl
 | .fn f a c,.fn f' a' c',h=>by
   simp only [iH,bO] at h;rw [cO h.1,tj h.2.1,tj h.2.2]
 | .iS l,.iS l',h=>by simp only [iH] at h; rw [cO h]
 | .kf,.kf,_=>rfl
 | .jP t v,.jP t' v',h=>by
   simp only [iH,bO] at h;rw [cO h.1,zc h.2]
 | .fJ,.fJ,_=>rfl
 | .agg l,.agg m,h=>by simp only [iH] at h; rw [tj h]
 | .dg l,.dg m,h=>by simp only [iH] at h; rw [tj h]
theorem tj:∀ {a b:List AV},mY a b=true→a=b
 | [],[],_=>rfl
 | a::l,b::m,h=>by
   simp only [mY] at h;cases hk:iH a b
   · rw [hk] at h; cases h
   · rw [hk] at h; rw [zc hk,tj h]
 | [],_::_,h=>by simp [mY] at h
 | _::_,[],h=>by simp [mY] at h
end
theorem yT {c p:Bool} (h:cond c p false =true):c=true∧p=true :=by
 cases c
 · cases h
 · exact ⟨U,h⟩
theorem Ac {t:Nat} :∀ {l:List Nat},tH t l=true↔t∈l
 | []=>by simp [tH]
 | u::l=>by
   simp only [tH,ew];cases hb:bC t u
   · have :t≠u:=fun e=>by subst e; simp at hb
     simp only [cond_false,Ac,this,false_or]
   · have :=cO hb;simp [this]
theorem De {i:Nat} :∀ {l:List cH},tg i l=true→∀ e∈l,eQ .any e=true→e.on < i
 | [],_,e,he,_=>by cases he
 | x::l,h,e,he,hb=>by
   simp only [tg] at h;cases hx:(eQ .any x && !(aZ x.on i))
   · rw [hx] at h;rcases ew.1 he with rfl | he
     · rw [hb] at hx;simp only [Bool.true_and,Bool.not_eq_false'] at hx;exact dk.1 hx
     · exact De h e he hb
   · rw [hx] at h; cases h
def qy (ops:List aJ) (X:Nat→Prop):Prop := ∀ i o,X i→ops[i]? =some o→∀ e∈o.after.toList,eQ .any e=true→X e.on
theorem Am {l:List Nat} {i:Nat} :oe l i=(l[i]?).getD 0:=by
 unfold oe
 induction l generalizing i with
 | nil=>simp [nb]
 | cons a l ih=>
   cases i with
   | zero=>simp [nb]
   | succ i=>simp [nb,ih]
theorem Ab {acc:List Nat} {j:Nat} :∀ {l:List cH},uP (n9 acc l) j=true→∃ e∈l,eQ .any e=true∧e.on < acc.length∧(j=e.on∨uP (oe acc e.on) j=true)
 | [],h=>by simp [n9] at h
 | e::l,h=>by
   simp only [n9] at h;cases hb:(eQ .any e && aZ e.on acc.length)
   · rw [hb] at h;obtain ⟨e',C,E⟩:=Ab h;exact ⟨e',mK _ C,E⟩
   · rw [hb] at h;simp only [bO] at hb;simp only [cond_true] at h;have A:((2 ^ e.on ||| oe acc e.on) ||| n9 acc l).testBit j=true :=h;simp only [Nat.testBit_or,lI,Nat.testBit_two_pow,decide_eq_true_iff] at A;rcases A with (A | A) | A
     · exact ⟨e,lN,hb.1,dk.1 hb.2,.inl A.symm⟩
     · exact ⟨e,lN,hb.1,dk.1 hb.2,.inr A⟩
     · obtain ⟨e',C,E⟩:=Ab A;exact ⟨e',mK _ C,E⟩
theorem C7 {ops:List aJ} {X:Nat→Prop} (C:qy ops X):∀ (l:List aJ) (acc:List Nat),(∀ k,l[k]? =ops[acc.length+k]?)→(∀ i j,i < acc.length→uP (oe acc i) j=true→j < i∧(X i→X j))→
 ∀ i j,uP (oe (jK l acc) i) j=true→j < i∧(X i→X j)
 | [],acc,_,ha,i,j,h=>by
   simp only [jK] at h;rcases dN i acc.length with hi | hi
   · exact ha i j hi h
   · rw [Am,qk hi] at h; simp at h
 | o::l,acc,hl,ha,i,j,h=>by
   simp only [jK] at h;refine C7 C l (acc++ [n9 acc o.after.toList]) (fun k=> ?_) (fun i j hi hb=> ?_) i j h
   · have :=hl<|k+1;simp only [jZ] at this;rw [this]; congr 1; simp; omega
   · rw [Am] at hb;rcases dN i acc.length with A | A
     · rw [eZ A,← Am] at hb; exact ha i j A hb
     · have :i=acc.length:=by simp at hi; omega
       subst this;rw [eH (bf _)] at hb;simp only [Nat.sub_self,ky,jz] at hb;obtain ⟨e,he,J,L,E⟩:=Ab hb;have M:ops[acc.length]? =some o:=by
        have :=hl 0;simpa using this.symm
       rcases E with rfl | E
       · exact ⟨L,fun I=>C _ _ I M e he J⟩
       · obtain ⟨U,O⟩:=ha _ _ L E;exact ⟨ag,fun I=>O<|C _ _ I M e he J⟩
theorem sU {ops:List aJ} {X:Nat→Prop} (A:qy ops X) {i j:Nat} (h:k9 (jK ops []) i j=true):j < i∧(X i→X j):=
 C7 A ops [] (fun k=>by simp) (fun i j hi=>by simp at hi) i j h
structure yy (ops:List aJ) (dp:List Nat) (i j:Nat) (oi oj:aJ):Prop where
 ne:∀ t,oi.dst=some t→oj.dst≠some t
 ap:k9 dp i j=true∨((∀ t,oj.dst=some t→t∉rK ops oi)∧∀ t,oi.dst=some t→t∉rK ops oj)
theorem CE {ops:List aJ} {J:List Nat} {i:Nat} {L:aJ} :∀ {l:List aJ} {b:Nat},vq ops J i L b l=true→∀ k E,l[k]? =some E→b+k < i→yy ops J i (b+k) L E
 | [],b,_,k,E,hk,_=>by simp at hk
 | o::l,b,h,k,E,hk,hlt=>by
   simp only [vq] at h;rw [dk.2 (show b < i by omega)] at h;simp only [cond_true,bO,mC,lI] at h;cases k with
   | zero=>
     simp only [ky,bR] at hk;subst hk;refine ⟨fun t A C=> ?_,?_⟩
     · have :=h.1.1;rw [A,C] at this;simp [Dz] at this
     · rcases h.1.2 with A | ⟨A,C⟩
       · exact .inl A
       · refine .inr ⟨fun t I hm=> ?_,fun t I hm=> ?_⟩
         · rw [I] at A; simp only [wh] at A; rw [Ac.2 hm] at A; cases A
         · rw [I] at C; simp only [wh] at C; rw [Ac.2 hm] at C; cases C
   | succ k=>
     simp only [jZ] at hk;have :=CE h.2 k E hk ag;rwa [show b+1 +k=b+(k+1) from by omega] at this
theorem yP {ops:List aJ} {E:List Nat} :∀ {l:List aJ} {b:Nat},qJ ops E b l=true→∀ k A,l[k]? =some A→tg (b+k) A.after.toList=true∧∀ j C,ops[j]? =some C→j < b+k→yy ops E (b+k) j A C
 | [],b,_,k,A,hk=>by simp at hk
 | o::l,b,h,k,A,hk=>by
   simp only [qJ,bO] at h;cases k with
   | zero=>
     simp only [ky,bR] at hk;subst hk;refine ⟨h.1.1,fun j C I J=> ?_⟩;have :=CE h.1.2 j C I ag;rwa [dx] at this
   | succ k=>
     simp only [jZ] at hk;have :=yP h.2 k A hk;rwa [show b+1 +k=b+(k+1) from by omega] at this
theorem DD {a:Option AV} {v:AV} (h:zd a v=true):a=some v:=by
 cases a with
 | none=>cases h
 | some a=>rw [zc h]
theorem Fp {P:av} {E:List Nat} {i:Nat} {o:Op} {xs:List AV} {v:AV} :∀ {l:List Rec} {b:Nat},tJ P E i o xs v b l=true→∀ k q,l[k]? =some q→
 (q.k= .c→(b+k < i→k9 E i (b+k)=true∨kO P o xs q.hb=some v)∧(¬b+k < i→k9 E (b+k) i=true∨kO P o xs q.ha=some v))∧(q.k= .a→¬b+k < i)
 | [],b,_,k,q,hk=>by simp at hk
 | x::l,b,h,k,q,hk=>by
   simp only [tJ] at h;obtain ⟨A,I⟩:=yT h;cases k with
   | succ k=>
     simp only [jZ] at hk;have :=Fp I k q hk;rwa [show b+1 +k=b+(k+1) from by omega] at this
   | zero=>
     simp only [ky,bR] at hk;subst hk;rw [lO];refine ⟨fun J=> ?_,fun ha C=> ?_⟩
     · rw [J] at A;simp only at A;refine ⟨fun C=> ?_,fun C=> ?_⟩
       · rw [dk.2 C] at A;simp only [cond_true,lI] at A;exact A.imp id DD
       · have :aZ b i=false :=by cases hb:aZ b i; rfl; exact absurd (dk.1 hb) C
         rw [this] at A;simp only [cond_false,lI] at A;exact A.imp id DD
     · rw [ha,dk.2 C] at A; cases A
theorem Fo {E:List Nat} {i:Nat} :∀ {l:List Rec} {b:Nat},tI E i b l=true→∀ k q,l[k]? =some q→(q.k= .c∨q.k= .a)→b+k < i→k9 E i (b+k)=true
 | [],b,_,k,q,hk,_,_=>by simp at hk
 | x::l,b,h,k,q,hk,A,I=>by
   simp only [tI] at h;obtain ⟨C,J⟩:=yT h;cases k with
   | succ k=>
     simp only [jZ] at hk;have :=Fo J k q hk A ag;rwa [show b+1 +k=b+(k+1) from by omega] at this
   | zero=>
     simp only [ky,bR] at hk;subst hk;rw [lO] at I ⊢;rcases A with A | A <;> (rw [A] at C; simp only at C; rw [dk.2 I] at C; exact C)
theorem Fs {P:av} {I:List Nat} {rs:List Rec} :∀ {l:List aJ} {m:List Rec} {b:Nat},nf P I rs b l m=true→l.length=m.length∧∀ k o q,l[k]? =some o→m[k]? =some q→(q.k= .l→tJ P I (b+k) o.op q.xs q.v 0 rs=true)∧(q.k= .c→tI I (b+k) 0 rs=true)
 | [],[],b,_=>⟨rfl,fun k o q A=>by simp at A⟩
 | [],_::_,b,h=>by simp [nf] at h
 | _::_,[],b,h=>by simp [nf] at h
 | o::l,q::m,b,h=>by
   simp only [nf] at h;obtain ⟨C,L⟩:=yT h;obtain ⟨M,O⟩:=Fs L;refine ⟨by simp [M],fun k U q' A E=> ?_⟩;cases k with
   | succ k=>
     simp only [jZ] at A E;have :=O k U q' A E;rwa [show b+1 +k=b+(k+1) from by omega] at this
   | zero=>
     simp only [ky,bR] at A E;subst A; subst E;rw [lO];exact ⟨fun J=>by rw [J] at C; exact C,fun J=>by rw [J] at C; exact C⟩
end Go.Hb
namespace Go.Hb
section
variable {P:av} {G:Nat} {X:Xt} {ih:Tk→Rs} {n:Nat}
inductive Cl (P:av) (G:Nat) (o:Op) (q:Rec):Prop
 | p:q.k= .p→pE P o q.xs=some q.v→q.ha=q.hb→Cl P G o q
 | l:q.k= .l→kO P o q.xs q.hb=some q.v→q.ha=q.hb→Cl P G o q
 | a (e:au) (l:List AV):q.k= .a→o= .alloc e→vh P e=some l→dQ q.hb (.cells l e 0 .x)=some q.ha→q.v= .ptr q.hb.nx 0→Cl P G o q
 | c:q.k= .c→lT P G o q.xs q.hb q.v q.ha→Cl P G o q
structure qB (P:av) (G n:Nat) (ops:List aJ) (o:aJ) (q:Rec) (fr fr':Tr AV) (h h':Hp):Prop where
 hb:q.hb=h
 ha:q.ha=h'
 set :hZ n fr o.dst q.v=some fr'
 run:(ly n ops fr o.guard= .y∧mo G n fr (iz o.op)=some q.xs∧Cl P G o.op q)∨(ly n ops fr o.guard= .n∧q.k= .s∧q.v= .dg []∧q.ha=q.hb)
theorem Oh (L:Good P G ih) (M:j2 P G X) (J:iF P) (O:∀ f args h v C,ih (.cl f args h)= .rv v C→∃ fn c,P.funcs[f]? =some fn∧fn.body=some c) {I:Bool} {o:Op} {xs:List AV} {h:Hp} {q:Rec} (A:Aw P G X ih I o xs h=some q):q.xs=xs∧q.hb=h∧Cl P G o q:=by
 unfold Aw at A;split at A
 · rename_i v hp; cases A; exact ⟨rfl,rfl,.p rfl hp rfl⟩
 · split at A
   · rename_i v E; cases A; exact ⟨rfl,rfl,.l rfl E rfl⟩
   · split at A
     · rename_i e _ _;split at A
       · rename_i l E;split at A
         · rename_i C hn; cases A; exact ⟨rfl,rfl,.a e l rfl rfl E hn rfl⟩
         · cases A
       · cases A
     · split at A
       · rename_i v C U; cases A; exact ⟨rfl,rfl,.c rfl (Fy L M J O U)⟩
       · cases A
theorem Cl.nx {o:Op} {q:Rec} (h:Cl P G o q):q.hb.nx≤q.ha.nx:=by
 cases h with
 | p _ _ h=>rw [h]; exact bf _
 | l _ _ h=>rw [h]; exact bf _
 | a e l _ _ _ h _=>have :=me h; omega
 | c _ h=>exact h.1
theorem qB.nx {ops:List aJ} {o:aJ} {q:Rec} {fr E:Tr AV} {h C:Hp} (A:qB P G n ops o q fr E h C):h.nx≤C.nx:=by
 rw [← A.hb,← A.ha];rcases A.run with ⟨_,_,h⟩ | ⟨_,_,_,h⟩
 · exact h.nx
 · rw [h]; exact bf _
theorem FX (ac:Good P G ih) (ad:j2 P G X) (ab:iF P) (ae:∀ f args h v al,ih (.cl f args h)= .rv v al→∃ fn c,P.funcs[f]? =some fn∧fn.body=some c) {ops:List aJ} {aa:List Nat} :∀ {l:List aJ} {i:Nat} {last:Option Nat} {fr C:Tr AV} {h E:Hp} {rs:List Rec},nk P G X ih n ops aa i last l fr h=some (rs,C,E)→
 ∃ (F:Nat→Tr AV) (H:Nat→Hp),F 0=fr∧H 0=h∧F l.length=C∧H l.length=E∧rs.length=l.length∧∀ k o q,l[k]? =some o→rs[k]? =some q→qB P G n ops o q (F k) (F<|k+1) (H k) (H<|k+1)
 | [],i,last,fr,C,h,E,rs,hr=>by
   simp only [nk,bR,kY] at hr;obtain ⟨rfl,rfl,rfl⟩:=hr;exact ⟨fun _=>fr,fun _=>h,U,U,U,U,U,fun k o q I=>by simp at I⟩
 | o::l,i,last,fr,C,h,E,rs,hr=>by
   have key:∀ (q:Rec) (A:Tr AV) (j:Nat) (la:Option Nat) (kR:List Rec),qB P G n ops o q fr A h q.ha→nk P G X ih n ops aa j la l A q.ha=some (kR,C,E)→rs=q::kR→
    ∃ (F:Nat→Tr AV) (H:Nat→Hp),F 0=fr∧H 0=h∧F (o::l).length=C∧H (o::l).length=E∧rs.length=(o::l).length∧∀ k M q,(o::l)[k]? =some M→rs[k]? =some q→qB P G n ops M q (F k) (F<|k+1) (H k) (H<|k+1):=by
    intro q A j la kR ar L ag;obtain ⟨F,H,am,O,an,ao,ap,aq⟩:=FX ac ad ab ae L;refine ⟨fun k=>match k with | 0=>fr | k+1=>F k,fun k=>match k with | 0=>h | k+1=>H k,U,U,an,ao,by rw [ag]; simp [ap],fun k M q' I J=> ?_⟩;subst ag;cases k with
    | zero=>
      simp only [ky,bR] at I J;subst I; subst J;simp only [am,O]; exact ar
    | succ k=>exact aq k M q' (by simpa using I)<|by simpa using J
   simp only [nk] at hr;split at hr
   · rename_i V;split at hr
     · rename_i xs au;split at hr
       · rename_i q J;split at hr
         · rename_i A Z;split at hr
           · rename_i kR ak O L;cases hr;obtain ⟨ah,ai,aj⟩:=Oh ac ad ab ae J;exact key q A _ _ kR ⟨ai,U,Z,.inl ⟨V,by rw [ah]; exact au,aj⟩⟩ L U
           · cases hr
         · cases hr
       · cases hr
     · cases hr
   · rename_i V;split at hr
     · rename_i A Z;split at hr
       · rename_i kR ak O L;cases hr;exact key ⟨.s,[],.dg [],h,h⟩ A _ _ kR ⟨U,U,Z,.inr ⟨V,U,U,U⟩⟩ L U
       · cases hr
     · cases hr
   · cases hr
structure Sq (P:av) (G n:Nat) (ops:List aJ) (rs:List Rec) (F:Nat→Tr AV) (H:Nat→Hp):Prop where
 len:rs.length=ops.length
 line:∀ k o q,ops[k]? =some o→rs[k]? =some q→qB P G n ops o q (F k) (F<|k+1) (H k) (H<|k+1)
 pair:∀ i j oi oj,ops[i]? =some oi→ops[j]? =some oj→j < i→yy ops (jK ops []) i j oi oj
 Lu:∀ i o,ops[i]? =some o→∀ e∈o.after.toList,eQ .any e=true→e.on < i
theorem Gp {fr C:Tr AV} {d:Option Nat} {v:AV} (A:hZ n fr d v=some C) (t:Nat):eb C t=if d=some t then v else eb fr t:=by
 cases d with
 | none=>simp only [hZ,bR] at A; subst A; simp
 | some d=>
   simp only [hZ] at A;replace A:=bE A; obtain ⟨E,A⟩:=A;simp only [bO] at E;cases A;simp only [eb,Tr.nW _ _ _ _ E.2,bR];by_cases e:t=d
   · subst e; simp
   · rw [if_neg e,if_neg (fun x=>e x.symm)]
variable {ops:List aJ} {rs:List Rec} {F:Nat→Tr AV} {H:Nat→Hp}
theorem Sq.get (s:Sq P G n ops rs F H) {i:Nat} {o:aJ} (A:ops[i]? =some o):∃ q,rs[i]? =some q:=by
 have :=(dX.1 A).1;exact ⟨rs[i]'(by rw [s.len]; exact this),cI _⟩
theorem Sq.get' (s:Sq P G n ops rs F H) {i:Nat} {q:Rec} (A:rs[i]? =some q):∃ o,ops[i]? =some o:=by
 have :=(dX.1 A).1;exact ⟨ops[i]'(by rw [← s.len]; exact this),cI _⟩
theorem Sq.slot (s:Sq P G n ops rs F H) (t:Nat):∀ k,k≤ops.length→(∃ j o q,j < k∧ops[j]? =some o∧o.dst=some t∧rs[j]? =some q∧eb (F k) t=q.v)∨((∀ j o,j < k→ops[j]? =some o→o.dst≠some t)∧eb (F k) t=eb (F 0) t)
 | 0,_=> .inr ⟨fun j o h=>by omega,rfl⟩
 | k+1,hk=>by
   have A:ops[k]? =some (ops[k]'ag):=cI _;generalize ops[k]'ag=o at A;obtain ⟨q,M⟩:=s.get A;have Z:=s.line k o q A M;rw [Gp Z.set t];by_cases e:o.dst=some t
   · rw [if_pos e]; exact .inl ⟨k,o,q,oJ _,A,e,M,rfl⟩
   · rw [if_neg e];rcases s.slot t k ag with ⟨j,J,q',L,C,O,U,V⟩ | ⟨L,C⟩
     · exact .inl ⟨j,J,q',ag,C,O,U,V⟩
     · refine .inr ⟨fun j J E I=> ?_,C⟩;rcases Jb.1 E with E | rfl
       · exact L j J E I
       · rw [A] at I; cases I; exact e
def oU (ops:List aJ) (rs:List Rec) (f0:Tr AV) (Y:Nat→Prop) (fx:Tr AV):Prop := ∀ t,(∃ j o q,Y j∧ops[j]? =some o∧o.dst=some t∧rs[j]? =some q∧eb fx t=q.v)∨((∀ j o,Y j→ops[j]? =some o→o.dst≠some t)∧eb fx t=eb f0 t)
theorem oU.set {f0 fx L:Tr AV} {Y:Nat→Prop} (U:oU ops rs f0 Y fx) {i:Nat} {o:aJ} {q:Rec} (M:ops[i]? =some o) (O:rs[i]? =some q) (h:hZ n fx o.dst q.v=some L):oU ops rs f0 (fun j=>Y j∨j=i) L:=by
 intro t;rw [Gp h t];by_cases e:o.dst=some t
 · rw [if_pos e]; exact .inl ⟨i,o,q,.inr rfl,M,e,O,rfl⟩
 · rw [if_neg e];rcases U t with ⟨j,J,q',A,C⟩ | ⟨A,C⟩
   · exact .inl ⟨j,J,q',.inl A,C⟩
   · refine .inr ⟨fun j J E I=> ?_,C⟩;rcases E with E | rfl
     · exact A j J E I
     · rw [M] at I; cases I; exact e
theorem O9 {fr C:Tr AV} {d:Option Nat} {v:AV} (A:hZ n fr d v=some C) (fx:Tr AV):∃ E,hZ n fx d v=some E:=by
 cases d with
 | none=>exact ⟨fx,rfl⟩
 | some d=>
   simp only [hZ] at A ⊢;replace A:=bE A; obtain ⟨I,A⟩:=A;rw [I]; exact ⟨_,rfl⟩
theorem Sq.agree (s:Sq P G n ops rs F H) {Y:Nat→Prop} (ab:qy ops Y) {i:Nat} {o:aJ} (O:ops[i]? =some o) (hi:¬Y i) (hr:qy ops (fun j=>Y j∨j=i)) {fx:Tr AV} (U:oU ops rs (F 0) Y fx) {t:Nat} (V:t∈rK ops o):eb fx t=eb (F i) t:=by
 have ad:=(dX.1 O).1;rcases s.slot t i ag with ⟨j,L,ae,M,E,J,Z,aa⟩ | ⟨M,E⟩
 · have hp:=s.pair i j o L O E M;have ac:Y j:=by
    rcases hp.ap with hb | ⟨hb,_⟩
    · rcases (sU hr hb).2 (.inr rfl) with h | h
      · exact h
      · omega
    · exact absurd V<|hb t J
   rcases U t with ⟨A,I,q',g1,g2,g3,g4,g5⟩ | ⟨g1,g2⟩
   · have :A=j:=by
      rcases uN A j with C | he | C
      · exact absurd g3<|(s.pair j A L I E g2 C).ne t J
      · exact he
      · exact absurd J<|(s.pair A j I L g2 E C).ne t g3
     subst this;rw [Z] at g4; cases g4;rw [g5,aa]
   · exact absurd J<|g1 j L ac E
 · rcases U t with ⟨A,I,q',g1,g2,g3,g4,g5⟩ | ⟨g1,g2⟩
   · exfalso;rcases uN A i with C | he | C
     · exact M A I C g2 g3
     · subst he; exact hi g1
     · rcases (s.pair A i I o g2 O C).ap with hb | ⟨_,hb⟩
       · exact hi<|(sU ab hb).2 g1
       · exact hb t g3 V
   · rw [g2,E]
theorem NU {fr fx:Tr AV} {x:bA} (h:∀ t,x= .tmp t→eb fx t=eb fr t):ml G n fx x=ml G n fr x:=by
 cases x with
 | tmp t=>simp only [ml,h t rfl]
 | const v=>rfl
 | func f=>rfl
 | global g=>rfl
theorem Fu {fr fx:Tr AV} :∀ {l:List bA},(∀ t∈rY l,eb fx t=eb fr t)→mo G n fx l=mo G n fr l
 | [],_=>rfl
 | x::l,h=>by
   simp only [mo];rw [NU (fr:=fr) (fx:=fx) fun t e=>h t (by subst e; simp [rY]),Fu (fr:=fr) (fx:=fx) (l:=l) fun t A=>h t (by cases x <;> simp [rY,A])]
theorem L8 {fr fx:Tr AV} {g:Option (Nat×Bool)} (h:∀ t∈zB ops g,eb fx t=eb fr t):ly n ops fx g=ly n ops fr g:=by
 unfold ly;cases g with
 | none=>rfl
 | some p=>
   obtain ⟨j,want⟩:=p;simp only;cases hj:ops[j]? with
   | none=>rfl
   | some q=>
     simp only;cases hd:q.dst with
     | none=>rfl
     | some t=>
       simp only;rw [h t (by simp [zB,hj,hd])]
theorem Sq.done (s:Sq P G n ops rs F H) {Y:Nat→Prop} (Z:∀ j,j < ops.length→Y j) {fx:Tr AV} (O:oU ops rs (F 0) Y fx) (t:Nat):eb fx t=eb (F ops.length) t:=by
 rcases s.slot t ops.length (bf _) with ⟨j,M,aa,I,C,J,U,V⟩ | ⟨I,C⟩
 · rcases O t with ⟨A,E,q',g1,g2,g3,g4,g5⟩ | ⟨g1,g2⟩
   · have :A=j:=by
      rcases uN A j with L | he | L
      · exact absurd g3<|(s.pair j A M E C g2 L).ne t J
      · exact he
      · exact absurd J<|(s.pair A j E M g2 C L).ne t g3
     subst this;rw [U] at g4; cases g4;rw [g5,V]
   · exact absurd J<|g1 j M (Z j I) C
 · rcases O t with ⟨A,E,q',g1,g2,g3,g4,g5⟩ | ⟨g1,g2⟩
   · exact absurd g3<|I A E (dX.1 g2).1 g2
   · rw [g2,C]
theorem Sq.mono (s:Sq P G n ops rs F H) {i:Nat} :∀ {k:Nat},i≤k→k≤ops.length→(H i).nx≤(H k).nx
 | 0,h,_=>by have :i=0:=ag
             subst this; exact bf _
 | k+1,h,hk=>by
   rcases dN k i with E | hle
   · have :i=k+1:=ag;subst this; exact bf _
   · have A:ops[k]? =some (ops[k]'ag):=cI _;obtain ⟨q,C⟩:=s.get A;exact cQ (s.mono hle ag) (s.line k _ q A C).nx
theorem JA {e:au} {l:List AV} (ha:vh P e=some l):fC l=true∧∃ us:List ah,(∀ r,bc r l=some us)∧∀ (N:Fm) (σ:Nat→ah) (dst:Option Nat) (ty:au) (pos :String) (af:Array cH) (g:Option (Nat×Bool)) (w:ai),
 (execOp (ev N σ) ⟨dst,.alloc e,ty,pos,af,g⟩).run P w= .ok (.value<|.pointer<|some ⟨w.heap.size,0,none⟩) {w with heap:=w.heap.push<|.cells us.toArray e (0,0)} :=by
 unfold vh at ha;split at ha
 · rename_i J A;split at ha
   · rename_i L E;replace ha:=bE ha; obtain ⟨C,ha⟩:=ha;cases ha;refine ⟨C,J,fun r=>rq (r:=r) (fun v a=>og 4) E,fun N σ dst ty pos af g w=> ?_⟩;unfold zeroOf at A;simp only [iW] at A;obtain ⟨i,hi,zv,I,rfl⟩:=A;simp [execOp,xX,zeroValue,eh hi,I,newVar,newRow]
   · cases ha
 · cases ha
end
end Go.Hb
namespace Go.Hb
section
variable {P:av} {G n T:Nat} {ops:List aJ} {rs:List Rec} {F:Nat→Tr AV} {H:Nat→Hp} {r0 r:Rn} {w0 w:ai} {h0:Hp} {Y:Nat→Prop} {lo:Nat}
structure HD (P:av) (G T:Nat) (ops:List aJ) (rs:List Rec) (H:Nat→Hp) (r0:Rn) (w0:ai) (h0:Hp) (Y:Nat→Prop) (lo:Nat) (r:Rn) (w:ai):Prop where
 hi:lo≤rs.length
 lc:∀ j q,rs[j]? =some q→q.k= .c→(Y j↔j < lo)
 la:∀ j q,rs[j]? =some q→q.k= .a→j < lo→Y j
 hr:HR P G r 0 (H lo) w
 new:∀ i,(H lo).nx≤i→i < T→r i=none∨∃ j q,Y j∧lo≤j∧rs[j]? =some q∧q.k= .a∧q.hb.nx=i
 nj:∀ j q,Y j→lo≤j→rs[j]? =some q→q.k= .a→∃ k,r q.hb.nx=some ⟨k,0,0⟩∧w0.heap.size≤k∧(∀ i o q',(H lo).t.get i=some o→r i=some q'→q'.ax≠k)∧
  ∃ e l us,dQ q.hb (.cells l e 0 .x)=some q.ha∧(∀ r,bc r l=some us)∧fC l=true∧w.heap[k]? =some (.cells us.toArray e (0,0))
 rE:∀ j j' q q' x x',Y j→lo≤j→rs[j]? =some q→q.k= .a→Y j'→lo≤j'→rs[j']? =some q'→q'.k= .a→r q.hb.nx=some x→r q'.hb.nx=some x'→x.ax=x'.ax→j=j'
 le:r0.le r
 md:Md (Fr G r0 h0) w0 w
 fB:∀ g,g≤G→∀ k,k < w0.heap.size→Fr g r (H lo) k→Fr g r0 h0 k
 out:∀ i,(H ops.length).nx≤i→r i=r0 i
theorem Sq.fresh (s:Sq P G n ops rs F H) {j:Nat} {q:Rec} (E:rs[j]? =some q) (C:q.k= .a):q.hb=H j∧q.ha=H (j+1)∧(H<|j+1).nx=(H j).nx+1:=by
 obtain ⟨o,I⟩:=s.get' E;have A:=s.line j o q I E;refine ⟨A.hb,A.ha,?_⟩;rw [← A.hb,← A.ha];rcases A.run with ⟨_,_,h⟩ | ⟨_,h,_,_⟩
 · cases h with
   | p h _ _=>rw [C] at h; cases h
   | l h _ _=>rw [C] at h; cases h
   | a e l _ _ _ h _=>exact me h
   | c h _=>rw [C] at h; cases h
 · rw [C] at h; cases h
theorem Sq.alt (s:Sq P G n ops rs F H) {j i:Nat} {q q':Rec} (J:rs[j]? =some q) (E:q.k= .a) (A:rs[i]? =some q') (I:q'.k= .a) (O:j < i):q.hb.nx < q'.hb.nx:=by
 obtain ⟨C,L,M⟩:=s.fresh J E;obtain ⟨g1,g2,g3⟩:=s.fresh A I;have :=s.mono (i:=j+1) (k:=i) ag<|by have :=(dX.1 A).1; have :=s.len; omega
 rw [C,g1]; omega
theorem Sq.Jy (s:Sq P G n ops rs F H) {j i:Nat} {q q':Rec} (E:rs[j]? =some q) (A:q.k= .a) (I:rs[i]? =some q') (C:q'.k= .a) (he:q.hb.nx=q'.hb.nx):j=i:=by
 rcases uN j i with h | h | h
 · have :=s.alt E A I C h; omega
 · exact h
 · have :=s.alt I C E A h; omega
theorem HD.Bb (C:HD P G T ops rs H r0 w0 h0 Y lo r w) {q:Rec} (M:rs[lo]? =some q) (he:H (lo+1)=H lo) (U:q.k≠.c) (ha:q.k≠.a):HD P G T ops rs H r0 w0 h0 Y (lo+1) r w:=by
 have I:∀ j q',rs[j]? =some q'→(q'.k= .c∨q'.k= .a)→j≠lo:=fun j q' I V e=>by
  subst e; rw [M] at I; cases I;rcases V with h | h
  · exact U h
  · exact ha h
 refine ⟨(dX.1 M).1,fun j q' A E=> ?_,fun j q' A E L=>C.la j q' A E (by have :=I j q' A (.inr E); omega),by rw [he]; exact C.hr,fun i A E=> ?_,fun j q' A E L O=>by rw [he]; exact C.nj j q' A ag L O,fun j Z aa ab x ac J a2 a3 a4 a5 ad=>C.rE j Z aa ab x ac J ag a3 a4 a5 ag,C.le,C.md,by rw [he]; exact C.fB,C.out⟩
 · rw [C.lc j q' A E]; have :=I j q' A (.inl E); omega
 · rw [he] at A;rcases C.new i A E with h | ⟨j,q',J,a2,a3,a4,a5⟩
   · exact .inl h
   · exact .inr ⟨j,q',J,by have :=I j q' a3 (.inr a4); omega,a3,a4,a5⟩
theorem HD.Qt (s:Sq P G n ops rs F H) (A:HD P G T ops rs H r0 w0 h0 Y lo r w) {q:Rec} (J:rs[lo]? =some q) (ha:q.k= .a) (U:Y lo):HD P G T ops rs H r0 w0 h0 Y (lo+1) r w:=by
 obtain ⟨f1,f2,f3⟩:=s.fresh J ha;obtain ⟨k,L,ap,ah,e,l,us,hn,ai,C,hw⟩:=A.nj lo q U (bf _) J ha;rw [f1] at L;rw [f1,f2] at hn;unfold dQ at hn;replace hn:=bE hn; obtain ⟨M,hn⟩:=hn;simp only [bR] at hn;have aq:(H<|lo+1).nx=(H lo).nx+1:=f3;refine ⟨(dX.1 J).1,fun j q' C E=> ?_,fun j q' C E aa=> ?_,?_,fun i C E=> ?_,fun j q' I a2 a3 a4=> ?_,fun j aj al am x an I a2 a3 a4 a5 ao=>A.rE j aj al am x an I ag a3 a4 a5 ag,A.le,A.md,?_,A.out⟩
 · rw [A.lc j q' C E];have :j≠lo:=fun e=>by subst e; rw [J] at C; cases C; rw [ha] at E; cases E
   omega
 · rcases Jb.1 aa with h | rfl
   · exact A.la j q' C E h
   · exact U
 · rw [← hn];exact A.hr.put (r':=r) (w':=w) (q:=⟨k,0,0⟩) (Rn.le_refl r) M L (by rw [hw]; exact As (ai r) C) (fun _ _ _=>rfl) (fun j ak q' _ ac hr=>ah j ak q' ac hr) (nF _) fun _ _ ad=>absurd ad<|yo _
 · rcases A.new i ag E with h | ⟨j,q',I,a2,a3,a4,a5⟩
   · exact .inl h
   · refine .inr ⟨j,q',I,?_,a3,a4,a5⟩;rcases dN lo j with h | h
     · exact h
     · have :j=lo:=ag;subst this;rw [J] at a3; cases a3;rw [f1] at a5; omega
 · obtain ⟨V,g1,g2,g3,g4⟩:=A.nj j q' I ag a3 a4;refine ⟨V,g1,g2,fun i o x hi O=> ?_,g4⟩;rw [← hn] at hi;simp only [Tr.nW _ _ _ _ M] at hi;split at hi
   · rename_i e; subst e;intro hb;rw [L] at O; cases O;have :=A.rE lo j q q' _ _ U (bf _) J ha I ag a3 a4 (by rw [f1]; exact L) g1 hb;omega
   · exact g3 i o x hi O
 · intro g ab V ae Z;rw [← hn] at Z;rcases Fr.set M L (Rn.le_refl r) A.hr Z with h | h
   · simp only at h; omega
   · exact A.fB g ab V ae h
theorem HD.up (s:Sq P G n ops rs F H) (I:HD P G T ops rs H r0 w0 h0 Y lo r w) {q:Rec} (A:rs[lo]? =some q) (E:q.k≠.c) (ha:q.k= .a→Y lo):HD P G T ops rs H r0 w0 h0 Y (lo+1) r w:=by
 obtain ⟨o,L⟩:=s.get' A;have J:=s.line lo o q L A;have same:q.ha=q.hb→H (lo+1)=H lo:=fun h=>by rw [← J.hb,← J.ha,h]
 rcases J.run with ⟨_,_,h⟩ | ⟨_,h,_,C⟩
 · cases h with
   | p h _ C=>exact I.Bb A (same C) E<|by rw [h]; intro h; cases h
   | l h _ C=>exact I.Bb A (same C) E<|by rw [h]; intro h; cases h
   | a e l h _ _ _ _=>exact I.Qt s A h<|ha h
   | c h _=>exact absurd h E
 · exact I.Bb A (same C) E<|by rw [h]; intro h; cases h
theorem HD.Bc (s:Sq P G n ops rs F H) (A:HD P G T ops rs H r0 w0 h0 Y lo r w):∀ (i:Nat),lo≤i→i≤rs.length→(∀ j q,lo≤j→j < i→rs[j]? =some q→q.k≠.c∧(q.k= .a→Y j))→HD P G T ops rs H r0 w0 h0 Y i r w
 | 0,h,_,_=>by have :lo=0:=ag
               subst this; exact A
 | i+1,h,hi,hall=>by
   rcases dN i lo with I | hle
   · have :lo=i+1:=ag;subst this; exact A
   · have E:=HD.Bc s A i hle ag fun j q a b c=>hall j q a ag c;have C:rs[i]? =some (rs[i]'ag):=cI _;exact E.up s C (hall i _ hle (oJ _) C).1 (hall i _ hle (oJ _) C).2
theorem HD.skip (A:HD P G T ops rs H r0 w0 h0 Y lo r w) {i:Nat} {q:Rec} (ad:rs[i]? =some q) (ab:q.k≠.c) (ha:q.k≠.a):HD P G T ops rs H r0 w0 h0 (fun j=>Y j∨j=i) lo r w:=by
 have C:∀ j q',rs[j]? =some q'→(q'.k= .c∨q'.k= .a)→(Y j∨j=i)→Y j:=fun j q' C ac ae=>by
  rcases ae with h | rfl
  · exact h
  · rw [ad] at C; cases C;rcases ac with h | h
    · exact absurd h ab
    · exact absurd h ha
 refine ⟨A.hi,fun j q' E I=> ?_,fun j q' E I aa=> .inl (A.la j q' E I aa),A.hr,fun i E I=> ?_,fun j q' J a2 a3 a4=>A.nj j q' (C j q' a3 (.inr a4) J) a2 a3 a4,fun j O U V x ag J a2 a3 a4 a5 Z L M=>A.rE j O U V x ag (C j U a3 (.inr a4) J) a2 a3 a4 (C O V L (.inr M) a5) Z L M,A.le,A.md,A.fB,A.out⟩
 · rw [← A.lc j q' E I]; exact ⟨C j q' E (.inl I),.inl⟩
 · rcases A.new i E I with h | ⟨j,q',J,a2⟩
   · exact .inl h
   · exact .inr ⟨j,q',.inl J,a2⟩
theorem HR.grow {h:Hp} {r':Rn} {w':ai} (hr:HR P G r 0 h w) (hle:r.le r') (hw:∀ k,k < w.heap.size→w'.heap[k]? =w.heap[k]?):HR P G r' 0 h w':=by
 refine ⟨fun i o hi=> ?_,fun i j o I q q' hi E A C he=> ?_,fun i _ h=>absurd h (yo _),hr.gX.le hle,hr.base⟩
 · obtain ⟨q,A,C⟩:=hr.live i o hi;refine ⟨q,hle _ _ A,?_⟩;rw [hw _ (hr.lt hi A)];exact C.le hle
 · obtain ⟨x,g1,_⟩:=hr.live i o hi;obtain ⟨J,g2,_⟩:=hr.live j I E;rw [hle _ _ g1] at A; cases A;rw [hle _ _ g2] at C; cases C;exact hr.inj i j o I _ _ hi E g1 g2 he
theorem HD.early (s:Sq P G n ops rs F H) (A:HD P G T ops rs H r0 w0 h0 Y lo r w) (hT:(H ops.length).nx≤T) {i:Nat} {q:Rec} {e:au} {l:List AV} {us:List ah} (E:rs[i]? =some q) (J:q.k= .a) (ap:¬Y i) (hn:dQ q.hb (.cells l e 0 .x)=some q.ha) (aD:∀ r,bc r l=some us) (aj:fC l=true):
 r.le (r.ext q.hb.nx ⟨w.heap.size,0,0⟩)∧HD P G T ops rs H r0 w0 h0 (fun j=>Y j∨j=i) lo (r.ext q.hb.nx ⟨w.heap.size,0,0⟩) {w with heap:=w.heap.push<|.cells us.toArray e (0,0)} :=by
 obtain ⟨f1,f2,f3⟩:=s.fresh E J;have aC:i < ops.length:=by rw [← s.len]; exact (dX.1 E).1
 have ar:lo≤i:=by
  rcases dN i lo with h | h
  · exact absurd (A.la i q E J h) ap
  · exact h
 have m1:=s.mono ar<|Nat.le_of_lt aC;have aE:=s.mono (i:=i+1) (k:=ops.length) ag<|bf _;have az:r q.hb.nx=none:=by
  rw [f1];rcases A.new (H i).nx m1 ag with h | ⟨j,q',C,a2,a3,a4,a5⟩
  · exact h
  · have :=s.Jy a3 a4 E J<|by rw [a5,f1]
    subst this; exact absurd C ap
 have hle:=Rn.tB (r:=r) (i:=q.hb.nx) ⟨w.heap.size,0,0⟩ az;have aq:∀ k,k < w.heap.size→({w with heap:=w.heap.push<|.cells us.toArray e (0,0)} :ai).heap[k]? =w.heap[k]? :=fun k J=>by
  simp only [xR]; rw [if_neg ag]
 have live:∀ j o x,(H lo).t.get j=some o→(r.ext q.hb.nx ⟨w.heap.size,0,0⟩) j=some x→r j=some x:=fun j o x aj ao=>by
  obtain ⟨Z,g1,_⟩:=A.hr.live j o aj;rw [hle _ _ g1] at ao; cases ao; exact g1
 refine ⟨hle,A.hi,fun j q' g1 g2=> ?_,fun j q' g1 g2 g3=> .inl (A.la j q' g1 g2 g3),A.hr.grow hle aq,fun V g1 g2=> ?_,fun j q' C a2 a3 a4=> ?_,fun j al I am x Z C a2 a3 a4 a5 aa L ab ac O ad=> ?_,Rn.le_trans A.le hle,Md.trans' A.md (Nv w _ fun _=>False) (fun _ _ h=>h.elim),fun g aA k J ay=> ?_,fun V aB=> ?_⟩
 · rw [← A.lc j q' g1 g2];refine ⟨fun h=> ?_,.inl⟩;rcases h with h | rfl
   · exact h
   · rw [E] at g1; cases g1; rw [J] at g2; cases g2
 · by_cases he:V=q.hb.nx
   · exact .inr ⟨i,q,.inr U,ar,E,J,he.symm⟩
   · rw [Rn.lx _ _ he];rcases A.new V g1 g2 with h | ⟨j,q',C,a2⟩
     · exact .inl h
     · exact .inr ⟨j,q',.inl C,a2⟩
 · rcases C with C | rfl
   · obtain ⟨k,g1,g2,g3,e',av,aw,g4,g5,g6,g7⟩:=A.nj j q' C a2 a3 a4;exact ⟨k,hle _ _ g1,g2,fun i o x hi ak=>g3 i o x hi (live i o x hi ak),e',av,aw,g4,g5,g6,by rw [aq k (cr.1 g7).1]; exact g7⟩
   · rw [E] at a3; cases a3;refine ⟨w.heap.size,Rn.jh _ _ _,A.md.size,fun i o x hi ak=> ?_,e,l,us,hn,aD,aj,by simp⟩;have :=A.hr.lt hi<|live i o x hi ak;omega
 · have fB:∀ j I x,Y j→lo≤j→rs[j]? =some I→I.k= .a→(r.ext q.hb.nx ⟨w.heap.size,0,0⟩) I.hb.nx=some x→r I.hb.nx=some x∧x.ax < w.heap.size:=fun j I x M c2 c3 ae an=>by
    obtain ⟨k,g1,g2,g3,e',av,aw,g4,g5,g6,g7⟩:=A.nj j I M c2 c3 ae;rw [hle _ _ g1] at an; cases an;exact ⟨g1,(cr.1 g7).1⟩
   rcases C with C | rfl
   · obtain ⟨M,c2⟩:=fB j I x C a2 a3 a4 ac;rcases a5 with a5 | rfl
     · obtain ⟨d1,d2⟩:=fB al am Z a5 aa L ab O;exact A.rE j al I am x Z C a2 a3 a4 a5 aa L ab M d1 ad
     · rw [E] at L; cases L;rw [Rn.jh] at O; cases O;simp only at ad; omega
   · rw [E] at a3; cases a3;rw [Rn.jh] at ac; cases ac;rcases a5 with a5 | rfl
     · obtain ⟨d1,d2⟩:=fB al am Z a5 aa L ab O;simp only at ad; omega
     · rfl
 · obtain ⟨j,o,x,M,c2,c3,ae⟩:=ay;exact A.fB g aA k J ⟨j,o,x,M,c2,live j o x c2 c3,ae⟩
 · rw [Rn.lx _ _ (by rw [f1]; omega)]; exact A.out V aB
theorem HD.Mk (s:Sq P G n ops rs F H) (A:HD P G T ops rs H r0 w0 h0 Y lo r w) (hT:(H ops.length).nx≤T) {q:Rec} (C:rs[lo]? =some q) (I:q.k= .c):HR P G r (H<|lo+1).nx (H lo) w:=by
 have M:lo < ops.length:=by rw [← s.len]; exact (dX.1 C).1
 have O:=s.mono (i:=lo+1) (k:=ops.length) ag<|bf _;refine ⟨A.hr.live,A.hr.inj,fun i E L=> ?_,A.hr.gX,A.hr.base⟩;rcases A.new i E ag with h | ⟨j,q',J,a2,a3,a4,a5⟩
 · exact h
 · exfalso;obtain ⟨f1,f2,f3⟩:=s.fresh a3 a4;have :j≠lo:=fun e=>by subst e; rw [C] at a3; cases a3; rw [I] at a4; cases a4
   have :=s.mono (i:=lo+1) (k:=j) ag<|by have :=(dX.1 a3).1; have :=s.len; omega
   rw [f1] at a5; omega
theorem HD.Qa (s:Sq P G n ops rs F H) (A:HD P G T ops rs H r0 w0 h0 Y lo r w) {q:Rec} (ad:rs[lo]? =some q) (E:q.k= .c) {r':Rn} {w':ai} (st:St P G (H<|lo+1).nx r (H lo) w r' (H<|lo+1) w'):HD P G T ops rs H r0 w0 h0 (fun j=>Y j∨j=lo) (lo+1) r' w':=by
 have aw:lo < ops.length:=by rw [← s.len]; exact (dX.1 ad).1
 have aq:=s.mono (i:=lo+1) (k:=ops.length) ag<|bf _;have ac:∀ j q',rs[j]? =some q'→q'.k= .a→j≠lo:=fun j q' M O e=>by subst e; rw [ad] at M; cases M; rw [E] at O; cases O
 have I:∀ j q',rs[j]? =some q'→q'.k= .a→(Y j∨j=lo)→Y j:=fun j q' M O am=>am.resolve_right<|ac j q' M O;refine ⟨(dX.1 ad).1,fun j q' g1 g2=> ?_,fun j q' g1 g2 g3=> ?_,⟨st.hr.live,st.hr.inj,fun i _ h=>absurd h (yo _),st.hr.gX,st.hr.base⟩,fun i g1 g2=> ?_,fun j q' C a2 a3 a4=> ?_,fun j U V Z x az C a2 a3 a4 a5 av J L ae ah al=> ?_,Rn.le_trans A.le st.le,Md.trans' A.md st.md (fun k E ab=>A.fB G (bf _) k E ab),fun g ak k E ab=>A.fB g ak k E (st.fB g ak k (oI E A.md.size) ab),fun i hi=>(st.out i<|cQ aq hi).trans<|A.out i hi⟩
 · rw [A.lc j q' g1 g2]; omega
 · have :=ac j q' g1 g2;exact .inl<|A.la j q' g1 g2 ag
 · rw [st.out i g1];rcases A.new i (cQ st.nx g1) g2 with h | ⟨j,q',C,a2,a3,a4,a5⟩
   · exact .inl h
   · have :=ac j q' a3 a4;exact .inr ⟨j,q',.inl C,ag,a3,a4,a5⟩
 · obtain ⟨k,g1,g2,g3,e',ap,au,g4,g5,g6,g7⟩:=A.nj j q' (I j q' a3 a4 C) ag a3 a4;have an:=(cr.1 g7).1;refine ⟨k,st.le _ _ g1,g2,fun i o x hi ao hb=> ?_,e',ap,au,g4,g5,g6,st.md.ax g7 fun ⟨i,o,x,_,c2,c3,aa⟩=>g3 i o x c2 c3 aa⟩;obtain ⟨i2,ar,x2,_,c2,c3,aa⟩:=st.fB 0 (sL _) k an ⟨i,o,x,sL _,hi,ao,hb⟩;exact g3 i2 ar x2 c2 c3 aa
 · obtain ⟨k,g1,_⟩:=A.nj j V (I j V a3 a4 C) ag a3 a4;obtain ⟨ay,aj,_⟩:=A.nj U Z (I U Z J L a5) ag J L;rw [st.le _ _ g1] at ae; cases ae;rw [st.le _ _ aj] at ah; cases ah;exact A.rE j U V Z _ _ (I j V a3 a4 C) ag a3 a4 (I U Z J L a5) ag J L g1 aj al
theorem HD.done (s:Sq P G n ops rs F H) (E:HD P G T ops rs H r0 w0 (H 0) Y lo r w) (hT:(H ops.length).nx≤T) (J:∀ j,j < ops.length→Y j):St P G T r0 (H 0) w0 r (H ops.length) w:=by
 have A:=E.Bc s ops.length (by have :=E.hi; rw [s.len] at this; exact this) (by rw [s.len]; exact bf _) fun j q I C L=>⟨fun M=>by have :=(E.lc j q L M).1 (J j C); omega,fun _=>J j C⟩
 refine ⟨A.le,⟨A.hr.live,A.hr.inj,fun i I C=> ?_,A.hr.gX,A.hr.base⟩,s.mono (sL _) (bf _),A.md,A.fB,A.out⟩;rcases A.new i I C with h | ⟨j,q',O,a2,a3,a4,a5⟩
 · exact h
 · have :=(dX.1 a3).1; have :=s.len; omega
theorem HD.start (s:Sq P G n ops rs F H) (hr:HR P G r0 T (H 0) w0) (A:∀ j,¬Y j):HD P G T ops rs H r0 w0 (H 0) Y 0 r0 w0:=
 ⟨sL _,fun j q _ _=>⟨fun h=>absurd h (A j),fun h=>by omega⟩,fun j q _ _ h=>by omega,⟨hr.live,hr.inj,fun i _ h=>absurd h (yo _),hr.gX,hr.base⟩,fun i C E=> .inl (hr.new i C E),fun j q h=>absurd h (A j),fun j I q q' x J h=>absurd h (A j),Rn.le_refl _,Md.refl _ _,fun _ _ _ _ h=>h,fun _ _=>rfl⟩
end
end Go.Hb
namespace Go.Hb
section
variable {P:av} {G n T:Nat} {ops:List aJ} {rs:List Rec} {F:Nat→Tr AV} {H:Nat→Hp}
def Yl (listed:Array Bool) (j:Nat):Prop :=listed[j]? =some true
theorem Js {listed:Array Bool} {i:Nat} (hi:i < listed.size):Yl (listed.setIfInBounds i true)=fun j=>Yl listed j∨j=i:=by
 funext j;apply propext;unfold Yl;rw [uq];by_cases e:i=j
 · subst e; simp [hi]
 · rw [if_neg e];exact ⟨.inl,fun h=>h.resolve_right fun x=>e x.symm⟩
theorem filter_le {p p':Nat→Bool} (h:∀ j,p' j=true→p j=true):∀ l:List Nat,(l.filter p').length≤(l.filter p).length
 | []=>bf _
 | a::l=>by
   have :=filter_le h l;simp only [uE];cases hp:p' a
   · cases p a
     · simpa using this
     · simp only [if_true,uu,if_false,cn]; omega
   · rw [h a hp]; simp only [if_true,cn]; omega
theorem filter_lt {p p':Nat→Bool} (h:∀ j,p' j=true→p j=true) {i:Nat} (hp:p i=true) (A:p' i=false):∀ {l:List Nat},i∈l→(l.filter p').length < (l.filter p).length
 | a::l,hm=>by
   simp only [uE];rcases ew.1 hm with rfl | hm
   · rw [hp,A];have :=filter_le h l;simp only [if_true,uu,if_false,cn]; omega
   · have :=filter_lt h hp A hm;cases hq:p' a
     · cases p a
       · simpa using this
       · simp only [if_true,uu,if_false,cn]; omega
     · rw [h a hq]; simp only [if_true,cn]; omega
def un (m:Nat) (listed:Array Bool):Nat:=((qt m).filter fun i=> !listed.getD i true).length
theorem Qh {m:Nat} {listed:Array Bool} {i:Nat} (hm:i < m) (hi:listed[i]? =some false):un m (listed.setIfInBounds i true) < un m listed:=by
 have C:=(cr.1 hi).1;refine filter_lt (i:=i) (fun j A=> ?_) ?_ ?_ (IY.2 hm)
 · simp only [mC] at A ⊢;rw [kn,uq] at A;rw [kn];by_cases e:i=j
   · subst e; rw [if_pos rfl,if_pos C] at A; simp at A
   · rw [if_neg e] at A; exact A
 · simp [kn,hi]
 · simp [kn,C]
theorem Og {listed:Array Bool} {i:Nat} (L:listed.size=ops.length) (h:i∈fF .any ops.toArray listed):∃ o,ops[i]? =some o∧listed[i]? =some false∧∀ e∈o.after.toList,eQ .any e=true→Yl listed e.on:=by
 unfold fF at h;rw [ye] at h;obtain ⟨J,A⟩:=h;simp only [IY,fP] at J;simp only [bO,mC,nE] at A;have C:ops[i]? =some ops[i]:=cI _;generalize ops[i]=o at C;rw [C] at A;simp only [e7,jz] at A;have I:listed[i]? =some (listed[i]'ag):=pU _;refine ⟨o,C,?_,fun e he hb=> ?_⟩
 · have :=A.1;rw [kn,I] at this;rw [I]; simp at this; rw [this]
 · have E:=A.2;rw [HQ] at E;have :=E e<|by simpa using he
   rw [hb] at this;simp only [Bool.not_true,Bool.false_or] at this;unfold Yl;rw [kn] at this;cases hx:listed[e.on]? with
   | none=>rw [hx] at this; simp at this
   | some b=>rw [hx] at this; simp at this; rw [this]
theorem FW (s:Sq P G n ops rs F H) {listed:Array Bool} (J:listed.size=ops.length) (h:fF .any ops.toArray listed= []):∀ j,j < ops.length→Yl listed j:=by
 intro j
 induction j using Nat.strongRecOn with
 | ind j ih=>
   intro E;have C:listed[j]? =some (listed[j]'ag):=pU _;cases hb:listed[j]'ag with
   | true =>unfold Yl; rw [C,hb]
   | false =>
     exfalso;have A:ops[j]? =some ops[j]:=cI _;generalize ops[j]=o at A;have :j∈fF .any ops.toArray listed:=by
      unfold fF;rw [ye];refine ⟨by simpa using E,?_⟩;simp only [bO,mC,nE,A,e7,jz];refine ⟨by rw [kn,C,hb]; rfl,?_⟩;rw [HQ];intro e he;cases hbd:eQ .any e
      · simp
      · have I:=s.Lu j o A e (by simpa using he) hbd;have :=ih e.on I ag;unfold Yl at this;rw [kn,this]; simp
     rw [h] at this; cases this
variable {r0:Rn} {w0:ai} {rr:Option Nat} {Dl:List Deferred} {Q:bM→Act→ai→Prop}
theorem Lo (s:Sq P G n ops rs F H) (bc:nf P (jK ops []) rs 0 ops rs=true) (hT:(H ops.length).nx≤T) (aD:∀ r w σ,St P G T r0 (H 0) w0 r (H ops.length) w→fH r n (F ops.length) σ→Q .normal (act ⟨n,Dl,[],rr⟩ σ) w):
 ∀ (fuel:Nat) (listed:Array Bool) (lo:Nat) (fx:Tr AV) (σ:Nat→ah) (r:Rn) (w:ai),listed.size=ops.length→un ops.length listed≤fuel→qy ops (Yl listed)→oU ops rs (F 0) (Yl listed) fx→HD P G T ops rs H r0 w0 (H 0) (Yl listed) lo r w→
   (lo=0∨∃ j q,lo=j+1∧rs[j]? =some q∧q.k= .c∧Yl listed j)→fH r n fx σ→wpAnyIn (fe rr) 0 P .any ops.toArray Q fuel listed (act ⟨n,Dl,[],rr⟩ σ) w:=by
 have fin:∀ (listed:Array Bool) (lo:Nat) (fx:Tr AV) (σ:Nat→ah) (r:Rn) (w:ai),(∀ j,j < ops.length→Yl listed j)→oU ops rs (F 0) (Yl listed) fx→HD P G T ops rs H r0 w0 (H 0) (Yl listed) lo r w→fH r n fx σ→Q .normal (act ⟨n,Dl,[],rr⟩ σ) w:=by
  intro listed lo fx σ r w aN ac C O;refine aD r w σ (C.done s hT aN) fun i hi=> ?_;rw [← s.done aN ac i];exact O i hi
 intro fuel
 induction fuel with
 | zero=>
   intro listed lo fx σ r w ao aY av ac C aF O;have aV:(qt ops.length).filter (fun i=> !listed.getD i true)= []:=List.length_eq_zero_iff.1<|Nat.le_zero.1 aY;have hr:fF .any ops.toArray listed= []:=by
    unfold fF;rw [List.filter_eq_nil_iff] at aV ⊢;intro a ha;have :=aV a<|by simpa using ha
    simp only [mC,Bool.not_eq_false,bO,not_and] at this ⊢;intro h; rw [this] at h; cases h
   exact ⟨hr,fin listed lo fx σ r w (FW s ao hr) ac C O⟩
 | succ fuel ih=>
   intro listed lo fx σ r w ao aY av ac C aF O;refine ⟨fun hr=>fin listed lo fx σ r w (FW s ao hr) ac C O,fun i hi=> ?_⟩;obtain ⟨o,aa,aU,a5⟩:=Og ao hi;have a7:=(dX.1 aa).1;have an:¬Yl listed i:=fun h=>by unfold Yl at h; rw [aU] at h; cases h
   obtain ⟨q,L⟩:=s.get aa;have aj:=s.line i o q aa L;have aw:qy ops (fun j=>Yl listed j∨j=i):=by
    intro j ar al ab e he hb;rcases al with al | rfl
    · exact .inl<|av j ar al ab e he hb
    · rw [aa] at ab; cases ab; exact .inl<|a5 e he hb
   have au:=Js (listed:=listed) (i:=i) ag;have bj:(listed.setIfInBounds i true).size=ops.length:=by simpa using ao
   have bm:un ops.length (listed.setIfInBounds i true)≤fuel:=by have :=Qh a7 aU; omega
   have aM:∀ t∈rK ops o,eb fx t=eb (F i) t:=fun t ap=>s.agree av aa an aw ac ap;obtain ⟨aZ,aX⟩:=O9 aj.set fx;have bi:=ac.set aa L aX;have next :∀ (aq:Nat) (r':Rn) (u:ah) (w':ai),r.le r'→den r' q.v=some u→HD P G T ops rs H r0 w0 (H 0) (fun j=>Yl listed j∨j=i) aq r' w'→(aq=0∨∃ j q,aq=j+1∧rs[j]? =some q∧q.k= .c∧(Yl listed j∨j=i))→
    wpAnyIn (fe rr) 0 P .any ops.toArray Q fuel (listed.setIfInBounds i true) ((act ⟨n,Dl,[],rr⟩ σ).put o.dst u) w':=by
    intro aq r' u w' hle hu aB a8;rw [gi];refine ih _ aq aZ _ r' w' bj bm ?_ ?_ ?_ ?_ (rT aX (O.le hle) hu)
    · rw [au]; exact aw
    · rw [au]; exact bi
    · rw [au]; exact aB
    · rcases a8 with h | ⟨j,q,I,J,Z,ae⟩
      · exact .inl h
      · exact .inr ⟨j,q,I,J,Z,by rw [au]; exact ae⟩
   have ax:lo=0∨∃ j q,lo=j+1∧rs[j]? =some q∧q.k= .c∧(Yl listed j∨j=i):=aF.imp id fun ⟨j,q,I,J,Z,ae⟩=>⟨j,q,I,J,Z,.inl ae⟩
   have aQ:=L8 (n:=n) (ops:=ops) (g:=o.guard) (fr:=F i) (fx:=fx) fun t ap=>aM t<|List.mem_append_left _ ap;have bd:=Fu (G:=G) (n:=n) (l:=iz o.op) (fr:=F i) (fx:=fx) fun t ap=>aM t<|List.mem_append_right _ ap;have bg:=Fs bc;have ay:=bg.2 i o q aa L;rw [dx] at ay;show wpOpIn (fe rr) 0 P ops.toArray Q i _ _ w;unfold wpOpIn;rw [nE,aa];show if _ then _ else _
   rcases aj.run with ⟨aC,bp,M⟩ | ⟨aC,aT,bo,bu⟩
   · rw [if_pos (zA (N:=⟨n,Dl,[],rr⟩) (aQ.trans aC) O)];have az:=wy (N:=⟨n,Dl,[],rr⟩) C.hr.gX O<|bd.trans bp;have bK:=aj.set;obtain ⟨d,op,ty,pos,af,g⟩:=o;simp only at az M next ay
     cases M with
     | p E V aK=>
       have aH:∀ c,op≠.defer c:=fun c e=>by subst e; simp [pE] at V
       obtain ⟨u,I,J⟩:=Fw (N:=⟨n,Dl,[],rr⟩) (dst:=d) (ty:=ty) (pos :=pos) (af:=af) (g:=g) V az;exact xD aH (.inl<|J w)<|next lo r u w (Rn.le_refl r) I (C.skip L (by rw [E]; intro h; cases h)<|by rw [E]; intro h; cases h) ax
     | l E V aK=>
       have aH:∀ c,op≠.defer c:=fun c e=>by subst e; simp [kO] at V
       have aA:=Fp<|ay.1 E;have a9:kO P op q.xs (H lo)=some q.v:=by
        rcases dN i lo with aG | aR
        · rcases aF with h0 | ⟨j,A,I,J,Z,ae⟩
          · omega
          · have am:=(aA j A J).1 Z;rw [dx] at am;have aS:¬j < i:=ag;have bv:j≠i:=fun e=>by subst e; exact an ae
            rcases am.2 aS with hb | hb
            · exact absurd ((sU av hb).2 ae) an
            · obtain ⟨ar,ab⟩:=s.get' J;rw [(s.line j ar A ab J).ha,← I] at hb;exact hb
        ·
         have aL:∀ (m:Nat),lo≤m→m≤i→(∀ j A,lo≤j→j < m→rs[j]? =some A→A.k≠.c)→H m=H lo:=by
          intro m
          induction m with
          | zero=>intro h _ _; have :lo=0:=ag
                  subst this; rfl
          | succ m aJ=>
            intro I J Z;rcases dN m lo with aG | hle
            · have :lo=m+1:=ag;subst this; rfl
            · have hm:=aJ hle ag fun j A a b c=>Z j A a ag c;have aW:ops[m]? =some (ops[m]'ag):=cI _;obtain ⟨ak,aI⟩:=s.get aW;have aE:=s.line m _ ak aW aI;have bb:=Z m ak hle (oJ _) aI;have ba:ak.k≠.a:=fun ha=>by
               have :=(aA m ak aI).2 ha;omega
              have he:ak.ha=ak.hb:=by
               rcases aE.run with ⟨_,_,M⟩ | ⟨_,_,_,M⟩
               · cases M with
                 | p _ _ h=>exact h
                 | l _ _ h=>exact h
                 | a e l h _ _ _ _=>exact absurd h ba
                 | c h _=>exact absurd h bb
               · exact M
              rw [← aE.ha,he,aE.hb,hm]
         by_cases hex:∃ j A,lo≤j∧j < i∧rs[j]? =some A∧A.k= .c
         ·
          have first :∀ (m:Nat),lo≤m→m≤i→(∃ j A,lo≤j∧j < m∧rs[j]? =some A∧A.k= .c)→∃ j A,lo≤j∧j < i∧rs[j]? =some A∧A.k= .c∧∀ ad q',lo≤ad→ad < j→rs[ad]? =some q'→q'.k≠.c:=by
           intro m
           induction m with
           | zero=>rintro _ _ ⟨j,_,_,h,_⟩; omega
           | succ m aJ=>
             intro I J ⟨j,A,g1,g2,g3,g4⟩;by_cases hex:∃ j A,lo≤j∧j < m∧rs[j]? =some A∧A.k= .c
             · obtain ⟨ad,bt,a0,a1,a2,a3⟩:=hex;exact aJ ag ag ⟨ad,bt,a0,a1,a2,a3⟩
             · refine ⟨j,A,g1,ag,g3,g4,fun ad q' a b c d=>hex ⟨ad,q',a,ag,c,d⟩⟩
          obtain ⟨j,A,g1,g2,g3,g4,g5⟩:=first i aR (bf _) hex
          have am:=(aA j A g3).1 g4;rw [dx] at am;rcases am.1 g2 with hb | hb
          · rcases (sU aw hb).2 (.inr rfl) with h | h
            · have :=(C.lc j A g3 g4).1 h; omega
            · omega
          · obtain ⟨ar,ab⟩:=s.get' g3;rw [(s.line j ar A ab g3).hb,aL j g1 ag g5] at hb;exact hb
         · have :=aL i aR (bf _) fun j A a b c d=>hex ⟨j,A,a,b,c,d⟩;rw [← this,← aj.hb]; exact V
       obtain ⟨u,I,J⟩:=Fv (N:=⟨n,Dl,[],rr⟩) (dst:=d) (ty:=ty) (pos :=pos) (af:=af) (g:=g) C.hr a9 az;exact xD aH (.inl J)<|next lo r u w (Rn.le_refl r) I (C.skip L (by rw [E]; intro h; cases h)<|by rw [E]; intro h; cases h) ax
     | a e l E V aK bq br=>
       subst V;obtain ⟨I,us,bn,bh⟩:=JA aK;obtain ⟨hle,aB⟩:=C.early s hT L E an bq bn I;refine xD (fun c e=>by cases e) (.inl<|bh ⟨n,Dl,[],rr⟩ σ d ty pos af g w)<|next lo _ _ _ hle ?_ aB ax
       rw [br];simp only [den,Rn.jh,dx]
     | c E V=>
       have a4:=Fo<|ay.2 E;have aG:lo≤i:=by
        rcases dN i lo with h | h
        · exact absurd ((C.lc i q L E).2 h) an
        · exact h
       have aO:∀ j A,j < i→rs[j]? =some A→(A.k= .c∨A.k= .a)→Yl listed j:=fun j A aS al aD=>by
        have hb:=a4 j A al aD ag;rw [dx] at hb;rcases (sU aw hb).2 (.inr rfl) with h | h
        · exact h
        · omega
       have aP:=C.Bc s i aG (by rw [s.len]; omega) fun j A a b c=>⟨fun M=>by have :=(C.lc j A c M).1 (aO j A b c<|.inl M); omega,fun ha=>aO j A b c<|.inr ha⟩
       have a6:=aP.Mk s hT L E;obtain ⟨bx,s1⟩:=V;rw [aj.hb,aj.ha] at s1;refine s1 _ r w ⟨n,Dl,[],rr⟩ σ d ty pos af g _ Q (bf _) a6 az fun r' u w' hu bK=> ?_;exact next (i+1) r' u w' bK.le hu (aP.Qa s L E bK)<|.inr ⟨i,q,U,L,E,.inr U⟩
   · rw [if_neg (by rw [Eb (N:=⟨n,Dl,[],rr⟩) (aQ.trans aC) O]; simp)];refine ⟨fun f _=>lY _ f,next lo r undef w (Rn.le_refl r) (by rw [bo]; exact j6 r) (C.skip L (by rw [aT]; intro h; cases h)<|by rw [aT]; intro h; cases h) ax⟩
theorem Lm {X:Xt} {ih:Tk→Rs} (ac:Good P G ih) (ad:j2 P G X) (ab:iF P) (ae:∀ f args h v C,ih (.cl f args h)= .rv v C→∃ fn c,P.funcs[f]? =some fn∧fn.body=some c) (hm:P.follows .mixedOrders=true):yu P G X ih:=by
 intro rd n id ops fr D h;show match vz P G X ih n ops fr D h with
  | .cd e aa I C=>eI P G rd n (fun rr Q a w=>(H8 id ⟨ops⟩ true).wpIn (fe rr) 0 P Q a w) fr D h e aa I C
  | .no=>True
  | _=>False
 have ai:vz P G X ih n ops fr D h=cond (qJ ops (jK ops []) 0 ops) (match nk P G X ih n ops (jK ops []) 0 none ops fr h with
  | some (rs,fr,h)=>cond (nf P (jK ops []) rs 0 ops rs) (.cd .cD fr D h) .no
  | none=> .no) .no:=rfl
 rw [ai];cases hc1:qJ ops (jK ops []) 0 ops
 · exact trivial
 · rw [cond_true];cases hrec:nk P G X ih n ops (jK ops []) 0 none ops fr h with
   | none=>exact trivial
   | some x=>
     obtain ⟨rs,ap,aq⟩:=x;simp only;cases hok:nf P (jK ops []) rs 0 ops rs
     · exact trivial
     · rw [cond_true];obtain ⟨F,H,J,L,M,O,V,Z⟩:=FX ac ad ab ae hrec;have s:Sq P G n ops rs F H:=⟨V,Z,fun i j an ao hi A ar=>by
        have :=(yP hc1 i an hi).2 j ao A ag;rwa [dx] at this,fun i o am=>by
        have :=De (yP hc1 i o am).1;rwa [dx] at this⟩
       subst J; subst L; subst M; subst O;refine ⟨s.mono (sL _) (bf _),fun T r w σ Dl rr Q hT hr aj ah au al=> ?_⟩;refine wpIn_region_any hm ?_;have E:∀ j,¬Yl (Array.replicate ops.length false) j:=fun j A=>by
        unfold Yl at A;rw [Array.getElem?_replicate] at A;split at A <;> cases A
       refine Lo s hok hT (r0:=r) (w0:=w.drew) (fun r' w' σ' st ak=>al r' w' σ' Dl st.drew ak<|o3 st.le ah) _ _ 0 (F 0) σ r w.drew (by simp) ?_ (fun j o A=>absurd A<|E j) (fun t=> .inr ⟨fun j o A=>absurd A (E j),U⟩) (HD.start s hr.drew E) (.inl U) aj;unfold un;exact cQ (List.length_filter_le _ _)<|by simp
theorem LK {X:Xt} (C:j2 P G X) (A:iF P) (hm:P.follows .mixedOrders=true) (k:Nat):Good P G (jO P G X k):=DM C A (fun ih E I=>Lm E C A I hm) k
end
end Go.Hb
namespace Go.Hb
section
variable {P:av} {G:Nat} {X:Xt} {w:ai}
theorem QZ {f:Nat} (J:∀ v w,(callFunc f #[v]).run P w= .ok (.value v) w) {xs:List AV} {h A:Hp} {v:AV} (he:Bq xs h=some (v,A)):h.nx≤A.nx∧∀ (T:Nat) (r:Rn) (w:ai) (us:List ah),A.nx≤T→HR P G r T h w→bc r xs=some us→
 ∃ r' u w',den r' v=some u∧(callFunc f us.toArray).run P w= .ok (.value u) w'∧St P G T r h w r' A w':=by
 unfold Bq at he;split at he
 · cases he;refine ⟨bf _,fun T r w us hT hr I=> ?_⟩;obtain ⟨u,L,rfl,C,E⟩:=fw I;obtain rfl :=lX E;exact ⟨r,u,w,C,J u w,St.refl hr⟩
 · cases he
theorem En {c:Nat} (E:c < 256):∀ (l:List UInt8) (i:Nat),tv c l i=if l.idxOf (ga c) < l.length then mJ (i+l.idxOf (ga c)) else -1
 | [],i=>by simp [tv]
 | b::l,i=>by
   have I:(ga c).toNat=c:=by simp; omega
   simp only [tv,List.idxOf_cons];cases hb:bC b.toNat c
   · have J:(b==ga c)=false :=by
      cases A:(b==ga c)
      · rfl
      · have :=eq_of_beq A;subst this;rw [I] at hb; simp at hb
     rw [J];simp only [cond_false,cn,En E l (i+1)];by_cases C:l.idxOf (ga c) < l.length
     · rw [if_pos C,if_pos ag];congr 1; omega
     · rw [if_neg C,if_neg ag]
   · have :=cO hb;have A:(b==ga c)=true :=by
      rw [← this]; simp
     rw [A];simp
theorem Q0 {f:Nat} (V:∀ l c w,(callFunc f #[str l,.int .u8 (Jh c)]).run P w= .ok (.value<|.int .i64<|fy c l) w) {xs:List AV} {h A:Hp} {v:AV} (he:Br xs h=some (v,A)):h.nx≤A.nx∧∀ (T:Nat) (r:Rn) (w:ai) (us:List ah),A.nx≤T→HR P G r T h w→bc r xs=some us→
 ∃ r' u w',den r' v=some u∧(callFunc f us.toArray).run P w= .ok (.value u) w'∧St P G T r h w r' A w':=by
 unfold Br at he;split at he
 · rename_i l c;replace he:=bE he; obtain ⟨C,he⟩:=he;have C:=dk.1 C;split at he
   · rename_i ac hm;cases he;refine ⟨bf _,fun T r w us hT hr U=> ?_⟩;obtain ⟨u,aa,rfl,I,J⟩:=fw U;obtain ⟨Z,ab,rfl,L,M⟩:=fw J;obtain rfl :=lX M;obtain rfl :=jg I;obtain rfl :=dF L;have O:(ga c).toNat=c:=by simp; omega
     have E:=V l (ga c) w;rw [O] at E;refine ⟨r,_,w,?_,E,St.refl hr⟩;rw [En C l 0] at hm;simp only [dx] at hm;have :fy (ga c) l=if l.idxOf (ga c) < l.length then mJ (l.idxOf<|ga c) else -1:=rfl
     rw [← this] at hm;rw [gY] at hm;cases hm;simp only [den]
   · cases he
 · cases he
def x2 (a b:Nat):Xt:=fun f=>cond (bC f a) (some Bq)<|cond (bC f b) (some Br) none
theorem QY {a b:Nat} (C:∀ v w,(callFunc a #[v]).run P w= .ok (.value v) w) (E:∀ l c w,(callFunc b #[str l,.int .u8 (Jh c)]).run P w= .ok (.value<|.int .i64<|fy c l) w):j2 P G (x2 a b):=by
 intro f e he xs h v I A;unfold x2 at he;cases ha:bC f a
 · rw [ha] at he;simp only [cond_false] at he;cases hb:bC f b
   · rw [hb] at he; cases he
   · rw [hb] at he;cases he;have :=cO hb;subst this;exact Q0 E A
 · rw [ha] at he;cases he;have :=cO ha;subst this;exact QZ C A
theorem KC (h:P.funcs.toList.all (fun fn=> !(fn.name== "runtime.NumGoroutine") || fn.body.isNone)=true):iF P:=by
 intro f fn c A hb;have hm:fn∈P.funcs.toList:=by
  rw [cr] at A;obtain ⟨C,rfl⟩:=A;simp
 have :=List.all_eq_true.1 h fn hm;rw [hb] at this;simp only [Option.isNone_some,Bool.or_false,mC] at this;exact yN A this<|by rw [hb]; rfl
theorem zg {k f:Nat} {args:List AV} {h A:Hp} {v:AV} (E:j2 P G X) (C:iF P) (hm:P.follows .mixedOrders=true) (he:jO P G X k (.cl f args h)= .rv v A):BY P G f args h v A:=by
 have :=LK E C hm k<|.cl f args h;rw [he] at this;exact this
def sH (G T:Nat) (E:Nat→Nat):List Nat→Tr AO
 | []=> .nil
 | g::l=>(sH G T E l).set g<|.cells [.jP T (.ptr (G+g) 0)] (E g) 0 .x
theorem rR {T:Nat} {E:Nat→Nat} :∀ {l:List Nat},(∀ g∈l,aZ g di=true)→∀ {i:Nat} {o:AO},(sH G T E l).get i=some o→i∈l∧o= .cells [.jP T (.ptr (G+i) 0)] (E i) 0 .x
 | [],_,i,o,h=>by simp only [sH] at h; cases h
 | g::l,hl,i,o,h=>by
   simp only [sH] at h;rw [Tr.nW _ _ _ _ (hl g<|lN)] at h;split at h
   · rename_i e; subst e; cases h; exact ⟨lN,rfl⟩
   · obtain ⟨A,C⟩:=rR (fun g I=>hl g<|mK _ I) h;exact ⟨mK _ A,C⟩
def dY (T:Nat) (l:List Nat) (w:ai):Prop := ∀ g,g∈l→∃ (a:Addr) (e:Nat),a.spot=none∧w.heap[g]? =some (.cells #[.iface T (.pointer<|some a)] e (0,0))
theorem dY.mono {T:Nat} {l:List Nat} {w w':ai} {F:Nat→Prop} (h:dY T l w) (hm:Md F w w') (I:∀ g∈l,¬F g):dY T l w':=fun g A=>by
 obtain ⟨a,e,C,E⟩:=h g A;exact ⟨a,e,C,hm.ax E<|I g A⟩
theorem HR.xd {T:Nat} {l:List Nat} (J:∀ g∈l,g < G) (ae:G≤1000) (h:dY T l w):∃ (E:Nat→Nat) (r:Rn),∀ U,HR P G r U ⟨sH G T E l,G+G⟩ w:=by
 classical
 let A:Nat→Addr:=fun g=>if C:g∈l then (h g C).choose else ⟨0,0,none⟩
 let E:Nat→Nat:=fun g=>if C:g∈l then (h g C).choose_spec.choose else 0
 have aa:∀ g,g∈l→(A g).spot=none∧w.heap[g]? =some (.cells #[.iface T (.pointer<|some<|A g)] (E g) (0,0)):=fun g C=>by
  have :=(h g C).choose_spec.choose_spec;simp only [A,E,dif_pos C];exact this
 let r:Rn:=fun i=>if i < G then some ⟨i,0,0⟩ else if i < G+G then some ⟨(A<|i - G).block,(A<|i - G).off,0⟩ else none
 have L:∀ i,i < G→r i=some ⟨i,0,0⟩:=fun i hi=>if_pos hi;have ad:∀ g,g < G→r (G+g)=some ⟨(A g).block,(A g).off,0⟩:=fun g C=>by
  show (if G+g < G then _ else _)=_;rw [if_neg ag,if_pos ag,show G+g - G=g from by omega]
 have O:∀ g∈l,aZ g di=true :=fun g C=>dk.2 (by have :=J g C; have :di=1048574:=rfl; omega);refine ⟨E,r,fun U=>⟨fun i o hi=> ?_,fun i j o ah q q' hi ab I M he=> ?_,fun i I M=> ?_,fun g C=>⟨0,L g C⟩,Nat.le_add_right _ _⟩⟩
 · obtain ⟨hm,rfl⟩:=rR O hi;have V:=J i hm;obtain ⟨Z,a2⟩:=aa i hm;refine ⟨⟨i,0,0⟩,L i V,?_⟩;rw [a2];refine As (us:= [.iface T (.pointer<|some<|A i)]) ?_ rfl;have e:(⟨(A i).block,(A i).off,none⟩:Addr)=A i:=by
    have :A i=⟨(A i).block,(A i).off,(A i).spot⟩:=rfl;rw [this,Z]
   simp only [bc,den,ad i V,lO,e]
 · obtain ⟨hm,rfl⟩:=rR O hi;obtain ⟨ac,rfl⟩:=rR O ab;rw [L i (J i hm)] at I;rw [L j (J j ac)] at M;cases I; cases M;exact he
 · show (if i < G then _ else _)=_;simp only at I;rw [if_neg ag,if_neg ag]
theorem St.wk {T C:Nat} {E:Nat→Nat} {l:List Nat} {r r':Rn} {I:Hp} {w':ai} (A:∀ g∈l,g < G) (U:G≤1000) (st:St P G C r ⟨sH G T E l,G+G⟩ w r' I w'):Wk w w':=by
 refine ⟨st.md.os,st.md.output,st.md.size,fun k M _=>st.md.dA k M fun ⟨i,o,q,O,J,_⟩=> ?_⟩;obtain ⟨hm,_⟩:=rR (fun g L=>dk.2 (by have :=A g L; have :di=1048574:=rfl; omega)) J;have :=A i hm;omega
theorem HR.dA {T:Nat} {r:Rn} {h:Hp} {F:Nat→Prop} {w':ai} (hr:HR P G r T h w) (hm:Md F w w') (E:∀ i o q,h.t.get i=some o→r i=some q→¬F q.ax):HR P G r T h w':=by
 refine ⟨fun i o hi=> ?_,hr.inj,hr.new,hr.gX,hr.base⟩;obtain ⟨q,A,C⟩:=hr.live i o hi;refine ⟨q,A,?_⟩;rw [hm.dA _ (hr.lt hi A) (E i o q hi A)];exact C
end
end Go.Hb
end
