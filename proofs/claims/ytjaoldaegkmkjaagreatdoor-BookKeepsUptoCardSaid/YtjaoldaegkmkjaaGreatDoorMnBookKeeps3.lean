/-
  Walks and plain laws that the law rests on, laid together. No conditions but those that each theorem names.
-/
import Derived.Test.YtjaoldaegkmkjaaGreatDoorMnBookKeeps2
set_option linter.unusedVariables false
open Array renaming all_eq_true_iff_forall_mem→Cj,foldl_toList→Cn,getD_eq_getD_getElem?→g9,getElem?_eq_getElem→mG,getElem?_eq_some_iff→eC,getElem?_modify→Cq,getElem?_push→sB,getElem?_setIfInBounds→pZ,getElem?_setIfInBounds_ne→xd,getElem?_setIfInBounds_self_of_lt→xe,getElem?_toList→oe,length_toList→iB,range→og,toList_inj→p7,toList_map→iC,toList_modify→Cv,toList_push→Cw
open BitVec renaming ofInt→gB
open Bool renaming and_eq_true→a9,false_eq_true→qe,noConfusion→cB,not_eq_true'→jF,or_eq_true→mI,or_eq_true_iff→CA
open Go.Builtin renaming append_→jh,clear_→sE,delete_→xg,firstCells→sF,zeroCells→CD
open Go.Calls renaming mono→jG
open Go renaming Code→bF,Edge→cq,Exit→bo,IntKind→bB,Oper→aC,Operand→aY,Program→ar,TypeId→aq,Value→ag,World→ah
open Go.Code renaming region→CG
open Go.Deferred renaming ofValue→lk
open Go.Exit renaming inBlock→CM
open Go.Fence renaming wide→iD
open Go.FrameMode renaming noConfusion→CN
open Go.Instr renaming alloc→sG,buildSlice→sI,fill→jI,keyThatStays→qg,mapUpdate→xl
open Go.Lib renaming run_unsafeString_none→CW
open Go.Op renaming equal→ll,equalIn→gC
open Go.Oper renaming semAt_eq→xq,uponIn→sL
open Go.Region renaming binds→dr,ready→dG,wanted→ji
open Go.Result renaming andThen_ok→gD
open Go.Sem renaming run→kj,run_bind→hH,run_pure→kn
open Go.World renaming freeze→ko,putObj→C1,putObj_heap_other→C2,putObj_heap_same→C3
open Int renaming natCast_nonneg→e9,natCast_pos→C5,ofNat→jK,toNat_natCast→fO
open List.Sublist renaming map→Kq
open List renaming append_assoc→hJ,eq_nil_of_length_eq_zero→kr,ext_getElem?→sQ,filter_cons→Dd,flatten_cons→De,getD_eq_getElem?_getD→cr,getElem?_append_left→eF,getElem?_append_right→eQ,getElem?_cons_succ→hO,getElem?_cons_zero→hZ,getElem?_drop→iG,getElem?_eq_getElem→bG,getElem?_eq_none→lr,getElem?_eq_some_iff→cH,getElem?_map→ks,getElem?_take→ib,getElem?_toArray→ku,length→oC,length_append→bQ,length_cons→dd,length_drop→ic,length_eq_one_iff→qq,length_nil→fP,length_take→cC,mapM_cons→Dg,map_append→oF,map_cons→eR,map_map→Dh,mem_append→gj,mem_cons→fQ,mem_cons_of_mem→kv,mem_cons_self→ky,mem_filter→Dj,mem_map→sU,mem_of_getElem?→kz,mem_of_mem_drop→sV,mem_of_mem_take→sW,mem_range→sX,nodup_cons→Dm,range→lu,range'→lx,replicate→cZ,replicate_succ→Dq,size_toArray→dY
open List.cons renaming injEq→kq
open Nat renaming add_assoc→jk,add_comm→sZ,add_mul→ly,add_zero→jl,beq→aN,ble→ba,ble_eq→qv,ble_eq_true_of_le→xD,blt→aD,eq_of_beq_eq_true→bH,le_of_ble_eq_true→bJ,le_refl→aZ,le_succ→kA,le_trans→cS,lt_of_lt_of_le→lz,lt_or_ge→di,lt_succ_iff_lt_or_eq→Dw,lt_succ_self→lA,lt_trichotomy→qw,mul_le_mul_right→iH,not_lt_zero→ta,pos_of_ne_zero→Dx,pow_succ→tc,succ_le_iff→qy,succ_pos→Dy,testBit→qz,zero_add→cy,zero_le→jM,zero_mul→td
open Option renaming getD_none→oK,getD_some→ie,map_eq_some_iff→fR,map_some→eS
open Option.some renaming inj→gE,injEq→bD
open Prod renaming fst→fS,snd→tf
open Prod.mk renaming injEq→gk
open UInt8 renaming lt_iff_toNat_lt→DA,ofNat→ek,toNat→DB,toNat_inj→lC
open Go.Proofs.Tryz
open Go.RowKit

section
namespace Go.Hb
inductive Tr (α:Type) | nil | nd (l:Tr α) (v:Option α) (r:Tr α)
def Tr.get {α:Type} :Tr α→Nat→Option α
 | .nil,_=>none
 | .nd _ v _,0=>v
 | .nd l _ r,n+1=>cond (aN (n % 2) 0) (l.get<|n / 2)<|r.get<|n / 2
def Tr.put {α:Type} (v:Option α):Nat→Tr α→Nat→Tr α
 | 0,t,_=>t
 | _+1,.nil,0=> .nd .nil v .nil
 | _+1,.nd l _ r,0=> .nd l v r
 | k+1,.nil,n+1=>cond (aN (n % 2) 0) (.nd (Tr.put v k .nil<|n / 2) none .nil)<|.nd .nil none<|Tr.put v k .nil<|n / 2
 | k+1,.nd l u r,n+1=>cond (aN (n % 2) 0) (.nd (Tr.put v k l<|n / 2) u r)<|.nd l u<|Tr.put v k r<|n / 2
theorem Tr.get_nil {α:Type} (n:Nat):(Tr.nil:Tr α).get n=none:=by unfold Tr.get; rfl
theorem BT {n:Nat} {b:Bool} (h:aN (n % 2) 0=b):n % 2=cond b 0 1:=by
 cases b
 · have :n % 2≠0:=fun e=>by rw [e] at h; cases h
   simp only [cond_false]; omega
 · exact bH h
theorem si {n m:Nat} {b:Bool} (hn:aN (n % 2) 0=b) (hm:aN (m % 2) 0=b) (e:m / 2=n / 2):m+1=n+1:=by
 have :=BT hn;have :=BT hm;omega
theorem Tr.nK {α:Type} (v:Option α):∀ (k:Nat) (t:Tr α) (n m:Nat),m≠n→(Tr.put v k t n).get m=t.get m
 | 0,t,n,m,_=>by simp [Tr.put]
 | k+1,.nil,0,m,h=>by
   obtain ⟨m,rfl⟩:∃ j,m=j+1:=⟨m - 1,U⟩
   simp [Tr.put,Tr.get]
 | k+1,.nd l u r,0,m,h=>by
   obtain ⟨m,rfl⟩:∃ j,m=j+1:=⟨m - 1,U⟩
   simp [Tr.put,Tr.get]
 | k+1,.nil,n+1,0,h=>by
   simp only [Tr.put];cases aN (n % 2) 0 <;> rfl
 | k+1,.nd l u r,n+1,0,h=>by
   simp only [Tr.put];cases aN (n % 2) 0 <;> rfl
 | k+1,.nil,n+1,m+1,h=>by
   simp only [Tr.put];cases hn:aN (n % 2) 0 <;> cases hm:aN (m % 2) 0 <;> simp only [cond_true,cond_false,Tr.get,hm]
   · rw [Tr.nK v k .nil _ _ (fun e=>h<|si hn hm e)]; rfl
   · rw [Tr.nK v k .nil _ _ (fun e=>h<|si hn hm e)]; rfl
 | k+1,.nd l u r,n+1,m+1,h=>by
   simp only [Tr.put];cases hn:aN (n % 2) 0 <;> cases hm:aN (m % 2) 0 <;> simp only [cond_true,cond_false,Tr.get,hm]
   · rw [Tr.nK v k r _ _ (fun e=>h<|si hn hm e)]
   · rw [Tr.nK v k l _ _ (fun e=>h<|si hn hm e)]
theorem Tr.put_eq {α:Type} (v:Option α):∀ (k:Nat) (t:Tr α) (n:Nat),n+1 < 2 ^ k→(Tr.put v k t n).get n=v
 | 0,t,n,h=>U
 | k+1,.nil,0,_=>by simp [Tr.put,Tr.get]
 | k+1,.nd l u r,0,_=>by simp [Tr.put,Tr.get]
 | k+1,.nil,n+1,h=>by
   have C:n / 2 +1 < 2 ^ k:=by rw [tc] at h; omega
   simp only [Tr.put];cases hn:aN (n % 2) 0 <;> simp only [cond_true,cond_false,Tr.get,hn] <;> exact Tr.put_eq v k _ _ C
 | k+1,.nd l u r,n+1,h=>by
   have C:n / 2 +1 < 2 ^ k:=by rw [tc] at h; omega
   simp only [Tr.put];cases hn:aN (n % 2) 0 <;> simp only [cond_true,cond_false,Tr.get,hn] <;> exact Tr.put_eq v k _ _ C
def bT:Nat:=1048574
def Tr.set {α:Type} (t:Tr α) (n:Nat) (v:α):Tr α:=Tr.put (some v) 20 t n
def Tr.del {α:Type} (t:Tr α) (n:Nat):Tr α:=Tr.put none 20 t n
theorem Tr.jZ {α:Type} (t:Tr α) (n m:Nat) (v:α) (h:aD n bT=true):(t.set n v).get m=if m=n then some v else t.get m:=by
 have h':n < 1048574:=by simpa [bT,aD,qv,qy] using h
 unfold Tr.set;split
 · rename_i e; subst e; exact Tr.put_eq _ _ _ _ U
 · rename_i e; exact Tr.nK _ _ _ _ _ e
theorem Tr.ns {α:Type} (t:Tr α) (n m:Nat) (h:aD n bT=true):(t.del n).get m=if m=n then none else t.get m:=by
 have h':n < 1048574:=by simpa [bT,aD,qv,qy] using h
 unfold Tr.del;split
 · rename_i e; subst e; exact Tr.put_eq _ _ _ _ U
 · rename_i e; exact Tr.nK _ _ _ _ _ e
inductive AV
 | bool (b:Bool) | int (k:bB) (n:Int) | str (l:List UInt8)
 | ptr (b o:Nat) | fZ
 | sl (b o n c:Nat) (x:Bool)
 | az
 | map (b:Nat) | jv
 | fn (f:Nat) (a c:List AV) | fM (l:Nat) | gR
 | eL (t:Nat) (v:AV) | cW
 | agg (l:List AV) | bP (l:List AV)
structure Loc where
 an:Nat
 sh:Nat
 room:Nat
abbrev Rn:=Nat→Option Loc
def Rn.le (r s:Rn):Prop := ∀ i x,r i=some x→s i=some x
theorem Rn.le_refl (r:Rn):r.le r:=fun _ _ h=>h
theorem Rn.le_trans {r s t:Rn} (h:r.le s) (h':s.le t):r.le t:=fun i x C=>h' i x<|h i x C
mutual
def den (r:Rn):AV→Option ag
 | .bool b=>some<|.bool b
 | .int k n=>some<|.int k n
 | .str l=>some<|Hb.str l
 | .ptr b o=>match r b with
   | some q=>some<|.pointer<|some ⟨q.an,q.sh+o,none⟩
   | none=>none
 | .fZ=>some<|.pointer none
 | .sl b o n c x=>match r b with
   | some q=>cond x (cond (ba n c) (some<|.slice (some ⟨q.an,q.sh+o,none⟩) n c) none)<|cond (ba (c+n) q.room) (some<|.slice (some ⟨q.an,q.sh+o,none⟩) n<|q.room - c) none
   | none=>none
 | .az=>some<|.slice none 0 0
 | .map b=>match r b with
   | some q=>some<|.map<|some q.an
   | none=>none
 | .jv=>some<|.map none
 | .fn f a c=>match aI r a,aI r c with
   | some a,some c=>some<|.func (.func f) a.toArray c.toArray
   | _,_=>none
 | .fM l=>match r l with
   | some q=>some<|.func (.yield q.an) #[] #[]
   | none=>none
 | .gR=>some .nilFunc
 | .eL t v=>match den r v with
   | some v=>some<|.iface t v
   | none=>none
 | .cW=>some .nilIface
 | .agg l=>match aI r l with
   | some l=>some<|.agg l.toArray
   | none=>none
 | .bP l=>match aI r l with
   | some l=>some<|.tuple l.toArray
   | none=>none
def aI (r:Rn):List AV→Option (List ag)
 | []=>some []
 | v::l=>match den r v,aI r l with
   | some v,some l=>some (v::l)
   | _,_=>none
end
mutual
theorem jT {r s:Rn} (h:r.le s):∀ {v:AV} {u:ag},den r v=some u→den s v=some u
 | .bool _,_,hu | .int _ _,_,hu | .str _,_,hu | .fZ,_,hu | .az,_,hu | .jv,_,hu | .gR,_,hu | .cW,_,hu=>by
   simp only [den] at hu ⊢; exact hu
 | .ptr b o,u,hu | .sl b o n c x,u,hu | .map b,u,hu | .fM b,u,hu=>by
   simp only [den] at hu ⊢;cases hb:r b with
   | none=>rw [hb] at hu; cases hu
   | some q=>rw [hb] at hu; rw [h b q hb]; exact hu
 | .fn f a c,u,hu=>by
   simp only [den] at hu ⊢;cases ha:aI r a with
   | none=>rw [ha] at hu; cases hu
   | some C=>
     cases hc:aI r c with
     | none=>rw [ha,hc] at hu; cases hu
     | some c'=>rw [ha,hc] at hu; rw [gr h ha,gr h hc]; exact hu
 | .eL t v,u,hu=>by
   simp only [den] at hu ⊢;cases hv:den r v with
   | none=>rw [hv] at hu; cases hu
   | some I=>rw [hv] at hu; rw [jT h hv]; exact hu
 | .agg l,u,hu | .bP l,u,hu=>by
   simp only [den] at hu ⊢;cases hl:aI r l with
   | none=>rw [hl] at hu; cases hu
   | some E=>rw [hl] at hu; rw [gr h hl]; exact hu
theorem gr {r s:Rn} (h:r.le s):∀ {v:List AV} {u:List ag},aI r v=some u→aI s v=some u
 | [],_,hu=>by simp only [aI] at hu ⊢; exact hu
 | v::l,u,hu=>by
   simp only [aI] at hu ⊢;cases hv:den r v with
   | none=>rw [hv] at hu; cases hu
   | some E=>
     cases hl:aI r l with
     | none=>rw [hv,hl] at hu; cases hu
     | some C=>rw [hv,hl] at hu; rw [jT h hv,gr h hl]; exact hu
end
theorem dC {r:Rn} {v:AV} {l:List AV} {us:List ag} (h:aI r (v::l)=some us):∃ u C,us=u::C∧den r v=some u∧aI r l=some C:=by
 simp only [aI] at h;split at h
 · rename_i u C h1 E; exact ⟨u,C,(gE h).symm,h1,E⟩
 · cases h
theorem jq {r:Rn} {us:List ag} (h:aI r []=some us):us= []:=by simpa [aI] using h.symm
theorem dx {r:Rn} {v:AV} {l:List AV} {u:ag} {us:List ag} (h1:den r v=some u) (C:aI r l=some us):aI r (v::l)=some (u::us):=by simp only [aI,h1,C]
theorem cP {r:Rn} :∀ {l:List AV} {us:List ag},aI r l=some us→us.length=l.length
 | [],_,h=>by rw [jq h]; rfl
 | v::l,us,h=>by obtain ⟨u,E,rfl,_,C⟩:=dC h; simp [cP C]
theorem m9 {r:Rn} :∀ {l:List AV} {us:List ag} {i:Nat} {v:AV},aI r l=some us→l[i]? =some v→∃ u,us[i]? =some u∧den r v=some u
 | [],_,i,v,h,hv=>by simp at hv
 | a::l,us,0,v,h,hv=>by
   obtain ⟨u,L,rfl,h1,_⟩:=dC h;simp only [hZ,bD] at hv;subst hv; exact ⟨u,rfl,h1⟩
 | a::l,us,i+1,v,h,hv=>by
   obtain ⟨u,L,rfl,_,C⟩:=dC h;simp only [hO] at hv;obtain ⟨J,E,I⟩:=m9 C hv;exact ⟨J,by simpa using E,I⟩
theorem eI {r:Rn} :∀ {l m:List AV} {us vs:List ag},aI r l=some us→aI r m=some vs→aI r (l++m)=some (us++vs)
 | [],m,us,vs,h,h'=>by rw [jq h]; exact h'
 | a::l,m,us,vs,h,h'=>by
   obtain ⟨u,E,rfl,h1,C⟩:=dC h;exact dx h1<|eI C h'
theorem ik {r:Rn} :∀ {l:List AV} {us:List ag} (n:Nat),aI r l=some us→aI r (l.take n)=some (us.take n)
 | _,_,0,_=>by simp [aI]
 | [],us,n+1,h=>by rw [jq h]; simp [aI]
 | a::l,us,n+1,h=>by
   obtain ⟨u,E,rfl,h1,C⟩:=dC h;exact dx h1<|ik n C
theorem iQ {r:Rn} :∀ {l:List AV} {us:List ag} (n:Nat),aI r l=some us→aI r (l.drop n)=some (us.drop n)
 | _,_,0,h=>h
 | [],us,n+1,h=>by rw [jq h]; simp [aI]
 | a::l,us,n+1,h=>by
   obtain ⟨u,E,rfl,h1,C⟩:=dC h;exact iQ n C
inductive Ck | a | z | x
inductive AO
 | cells (l:List AV) (e:Nat) (fz:Nat) (ex:Ck)
 | map (l:List (AV×AV))
 | loop (st:LoopState) (pe:Option bF) (n:Nat) (fr:Tr AV) (ps:List Nat) (aR body:bF) (D:Nat)
 | jU (b:Bool)
 | vZ (l:List UInt8) (p:Nat)
structure Hp where
 t:Tr AO
 nx:Nat
def cQ (fr:Tr AV) (i:Nat):AV:=match fr.get i with
 | some v=>v
 | none=> .bP []
def dJ (r:Rn) (n:Nat) (fr:Tr AV) (s:Nat→ag):Prop := ∀ i,i < n→den r (cQ fr i)=some (s i)
def fq (r:Rn):List (AV×AV)→List MapEntry→Prop
 | [],[]=>True
 | p::l,m::es=>den r p.1=some m.key∧den r p.2=some m.val∧fq r l es
 | _,_=>False
def OR (P:ar) (r:Rn) (q:Loc):AO→Option Obj→Prop
 | .cells l e fz ex,o=> ∃ c fr us,o=some (.cells c e fr)∧aI r l=some us∧q.sh+l.length≤c.size∧(∀ j u,us[j]? =some u→c[q.sh+j]? =some u)∧fr.2≤q.sh+fz∧
  (∀ u∈us,u.oneCell'=true)∧((ex= .x→q.sh=0∧c.size=l.length∧fr=(0,fz))∧(ex≠.a→q.sh=0))∧∀ s,bY P e=some s→q.sh+q.room*s≤c.size
 | .map l,o=> ∃ es c,o=some (.map es c)∧fq r l es.toList∧(es.toList.map fun e=>e.key).Nodup
 | .loop st I n fr ps aR body D,o=> ∃ fn C E,o=some (.loop {state:=st,pending:=I,fn:=fn,tmps:=C,params:=ps.toArray,assign:=aR,body:=body,defers:=E})∧(∃ x,r D=some x∧x.an=E)∧C.size=n∧∀ i,i < n→den r (cQ fr i)=C[i]?
 | .jU b,o=>o=some (.deferred<|cond b (some []) none)
 | .vZ l p,o=>o=some (.stringIter ⟨⟨l⟩⟩ p)
end Go.Hb
namespace Go.Hb
def jw (f:ag→Option AV):List ag→Option (List AV)
 | []=>some []
 | v::l=>match f v with
   | some a=>match jw f l with
     | some b=>some (a::b)
     | none=>none
   | none=>none
def ir:Nat→ag→Option AV
 | 0,_=>none
 | d+1,v=>match v with
   | .bool b=>some<|.bool b
   | .int k n=>some<|.int k n
   | .string ⟨⟨l⟩⟩=>some<|.str l
   | .pointer none=>some .fZ
   | .slice none 0 0=>some .az
   | .map none=>some .jv
   | .nilFunc=>some .gR
   | .nilIface=>some .cW
   | .agg ⟨l⟩=>match jw (ir d) l with
     | some l=>some<|.agg l
     | none=>none
   | .tuple ⟨l⟩=>match jw (ir d) l with
     | some l=>some<|.bP l
     | none=>none
   | _=>none
theorem nB {f:ag→Option AV} {r:Rn} (C:∀ v a,f v=some a→den r a=some v):∀ {l:List ag} {m:List AV},jw f l=some m→aI r m=some l
 | [],m,h=>by simp only [jw,bD] at h; subst h; simp [aI]
 | v::l,m,h=>by
   simp only [jw] at h;split at h
   · rename_i a ha;split at h
     · rename_i b hb;cases h;exact dx (C v a ha)<|nB C hb
     · cases h
   · cases h
theorem kX {r:Rn} :∀ (d:Nat) {v:ag} {a:AV},ir d v=some a→den r a=some v
 | 0,v,a,h=>by simp [ir] at h
 | d+1,v,a,h=>by
   simp only [ir] at h;split at h <;> first
    | (cases h; simp [den,str]; done)
    | (split at h
       · rename_i E C;cases h;simp only [den,nB (fun v a=>kX d) C]
       · cases h)
    | cases h
def jy (G n:Nat) (fr:Tr AV):aY→Option AV
 | .tmp t=>cond (aD t n) (some<|cQ fr t) none
 | .const v=>ir 4 v
 | .func f=>some<|.fn f [] []
 | .global g=>cond (aD g G) (some<|.ptr g 0) none
def jz (G n:Nat) (fr:Tr AV):List aY→Option (List AV)
 | []=>some []
 | x::l=>match jy G n fr x with
   | some a=>match jz G n fr l with
     | some b=>some (a::b)
     | none=>none
   | none=>none
def mW (G:Nat) (r:Rn):Prop := ∀ g,g < G→∃ m,r g=some ⟨g,0,m⟩
section
variable {G:Nat} {fr:Tr AV} {r:Rn} {N:Fm} {σ:Nat→ag}
theorem pB (E:mW G r) (C:dJ r N.n fr σ) {x:aY} {a:AV} (h:jy G N.n fr x=some a):den r a=some (ev N σ x):=by
 cases x with
 | tmp t=>
   simp only [jy] at h;cases hb:aD t N.n
   · rw [hb] at h; cases h
   · rw [hb] at h;simp only [cond_true,bD] at h;subst h;simp only [ev,hb,cond_true];exact C t<|by simpa [aD,qv,qy] using hb
 | const v=>exact kX 4 h
 | func f=>simp only [jy,bD] at h; subst h; simp [den,aI,ev]
 | global g=>
   simp only [jy] at h;cases hb:aD g G
   · rw [hb] at h; cases h
   · rw [hb] at h;simp only [cond_true,bD] at h;subst h;obtain ⟨m,hm⟩:=E g<|by simpa [aD,qv,qy] using hb
     simp only [den,hm,ev,jl]
theorem rG (E:mW G r) (C:dJ r N.n fr σ):∀ {l:List aY} {m:List AV},jz G N.n fr l=some m→aI r m=some (l.map<|ev N σ)
 | [],m,h=>by simp only [jz,bD] at h; subst h; simp [aI]
 | x::l,m,h=>by
   simp only [jz] at h;split at h
   · rename_i a ha;split at h
     · rename_i b hb;cases h;exact dx (pB E C ha)<|rG E C hb
     · cases h
   · cases h
end
def fu:Op→List aY
 | .move x | .assign x | .box _ x | .load _ x | .nilCheck x | .unOp _ _ x | .convert _ _ x | .makeInterface _ x | .fieldAddr _ x _ | .field _ x _ | .range _ x | .next x _ | .typeAssert x _ _ _ | .extract x _=> [x]
 | .pick c a b=> [c,a,b]
 | .build _ ⟨ps⟩=>ps.map (·.2)
 | .buildSlice _ _ ⟨ps⟩=>ps.map (·.2)
 | .store _ a v | .binOp _ _ a v _ | .makeSlice _ a v | .indexAddr _ a v | .index _ a v | .lookup _ a v _=> [a,v]
 | .makeFunc _ ⟨a⟩ ⟨c⟩=>a++c
 | .slice _ x l h m=>x::(l.toList++(h.toList++m.toList))
 | .mapUpdate _ m k v | .insert _ m k v=> [m,k,v]
 | .call ⟨.value f,⟨l⟩,_⟩ | .defer ⟨.value f,⟨l⟩,_⟩=>f::l
 | .call ⟨.builtin _,⟨l⟩,_⟩=>l
 | _=> []
theorem dZ {r:Rn} {a:AV} {u:ag} (h:aI r [a]=some [u]):den r a=some u:=by
 obtain ⟨C,us,he,h1,_⟩:=dC h;cases he; exact h1
theorem gq {r:Rn} {a b:AV} {u v:ag} (h:aI r [a,b]=some [u,v]):den r a=some u∧den r b=some v:=by
 obtain ⟨E,us,he,h1,C⟩:=dC h;cases he; exact ⟨h1,dZ C⟩
theorem kH {r:Rn} {a b c:AV} {u v t:ag} (h:aI r [a,b,c]=some [u,v,t]):den r a=some u∧den r b=some v∧den r c=some t:=by
 obtain ⟨E,us,he,h1,C⟩:=dC h;cases he; exact ⟨h1,gq C⟩
section
variable {r:Rn} {u:ag}
theorem cE {k:bB} {n:Int} (h:den r (.int k n)=some u):u= .int k n:=by simpa [den] using h.symm
theorem il {b:Bool} (h:den r (.bool b)=some u):u= .bool b:=by simpa [den] using h.symm
theorem fU {l:List UInt8} (h:den r (.str l)=some u):u=str l:=by simpa [den] using h.symm
theorem nf (h:den r .fZ=some u):u= .pointer none:=by simpa [den] using h.symm
theorem gv (h:den r .az=some u):u= .slice none 0 0:=by simpa [den] using h.symm
theorem yS (h:den r .jv=some u):u= .map none:=by simpa [den] using h.symm
theorem oZ (h:den r .gR=some u):u= .nilFunc:=by simpa [den] using h.symm
theorem nb (h:den r .cW=some u):u= .nilIface:=by simpa [den] using h.symm
theorem gI {b o:Nat} (h:den r (.ptr b o)=some u):∃ q,r b=some q∧u= .pointer (some ⟨q.an,q.sh+o,none⟩):=by
 simp only [den] at h;split at h
 · rename_i q C; exact ⟨q,C,(gE h).symm⟩
 · cases h
theorem lO {b:Nat} (h:den r (.map b)=some u):∃ q,r b=some q∧u= .map (some q.an):=by
 simp only [den] at h;split at h
 · rename_i q C; exact ⟨q,C,(gE h).symm⟩
 · cases h
theorem tZ {b:Nat} (h:den r (.fM b)=some u):∃ q,r b=some q∧u= .func (.yield q.an) #[] #[]:=by
 simp only [den] at h;split at h
 · rename_i q C; exact ⟨q,C,(gE h).symm⟩
 · cases h
theorem yT {b o n c:Nat} (h:den r (.sl b o n c true)=some u):∃ q,r b=some q∧n≤c∧u= .slice (some ⟨q.an,q.sh+o,none⟩) n c:=by
 simp only [den] at h;split at h
 · rename_i q C;cases hb:ba n c
   · rw [hb] at h; cases h
   · rw [hb] at h;exact ⟨q,C,bJ hb,(gE h).symm⟩
 · cases h
theorem qQ {b o n c:Nat} (h:den r (.sl b o n c false)=some u):∃ q,r b=some q∧c+n≤q.room∧u= .slice (some ⟨q.an,q.sh+o,none⟩) n (q.room - c):=by
 simp only [den] at h;split at h
 · rename_i q C;cases hb:ba (c+n) q.room
   · rw [hb] at h; cases h
   · rw [hb] at h;exact ⟨q,C,bJ hb,(gE h).symm⟩
 · cases h
theorem gJ {b o n c:Nat} {x:Bool} (h:den r (.sl b o n c x)=some u):∃ q cap,r b=some q∧n≤cap∧u= .slice (some ⟨q.an,q.sh+o,none⟩) n cap∧(x=true→cap=c)∧(x=false→cap=q.room - c∧c+n≤q.room):=by
 cases x
 · obtain ⟨q,E,C,he⟩:=qQ h;exact ⟨q,q.room - c,E,U,he,(fun e=>by cases e),fun _=>⟨J,C⟩⟩
 · obtain ⟨q,E,C,he⟩:=yT h;exact ⟨q,c,E,C,he,fun _=>rfl,fun e=>by cases e⟩
theorem kJ {f:Nat} {a c:List AV} (h:den r (.fn f a c)=some u):∃ C c',aI r a=some C∧aI r c=some c'∧u= .func (.func f) C.toArray c'.toArray:=by
 simp only [den] at h;split at h
 · rename_i C c' ha E; exact ⟨C,c',ha,E,(gE h).symm⟩
 · cases h
theorem qP {t:Nat} {v:AV} (h:den r (.eL t v)=some u):∃ C,den r v=some C∧u= .iface t C:=by
 simp only [den] at h;split at h
 · rename_i C E; exact ⟨C,E,(gE h).symm⟩
 · cases h
theorem oY {l:List AV} (h:den r (.agg l)=some u):∃ us,aI r l=some us∧u= .agg us.toArray:=by
 simp only [den] at h;split at h
 · rename_i E C; exact ⟨E,C,(gE h).symm⟩
 · cases h
theorem yU {l:List AV} (h:den r (.bP l)=some u):∃ us,aI r l=some us∧u= .tuple us.toArray:=by
 simp only [den] at h;split at h
 · rename_i E C; exact ⟨E,C,(gE h).symm⟩
 · cases h
end
def uG (k:bB):Int→Bool
 | .ofNat m=>match k with
   | .i64=>aD m 9223372036854775808
   | .u8=>aD m 256
   | .u64=>aD m 18446744073709551616
   | .i32=>aD m 2147483648
   | .u32=>aD m 4294967296
   | .u16=>aD m 65536
   | _=>false
 | .negSucc m=>match k with
   | .i64=>aD m 9223372036854775808
   | .i32=>aD m 2147483648
   | _=>false
def mE (k:bB) (n:Int):Int:=cond (uG k n) n<|k.wrap n
theorem cn {a b:Nat} :aD a b=true↔a < b:=by simp [aD,qv,qy]
theorem u16_in (n:Int) (h:0≤n∧n≤65535):IntKind.u16.wrap n=n:=by
 unfold IntKind.wrap;simp only [IntKind.bits,IntKind.signed];simp;omega
theorem Gb {k:bB} {n:Int} (h:uG k n=true):k.wrap n=n:=by
 cases n with
 | ofNat m=>
   show k.wrap (m:Int)=(m:Int)
   cases k with
   | i64=>have :=cn.1 (show aD m 9223372036854775808=true from h); exact iA ⟨U,U⟩
   | u8=>have :=cn.1 (show aD m 256=true from h); exact wV ⟨U,U⟩
   | u64=>have :=cn.1 (show aD m 18446744073709551616=true from h); exact gh ⟨U,U⟩
   | i32=>have :=cn.1 (show aD m 2147483648=true from h); exact wS ⟨U,U⟩
   | u32=>have :=cn.1 (show aD m 4294967296=true from h); exact Cf ⟨U,U⟩
   | u16=>have :=cn.1 (show aD m 65536=true from h); exact u16_in _ ⟨U,U⟩
   | i8=>exact cB (show false =true from h)
   | i16=>exact cB (show false =true from h)
 | negSucc m=>
   rw [Int.negSucc_eq];cases k with
   | i64=>have :=cn.1 (show aD m 9223372036854775808=true from h); exact iA ⟨U,U⟩
   | i32=>have :=cn.1 (show aD m 2147483648=true from h); exact wS ⟨U,U⟩
   | _=>exact cB (show false =true from h)
theorem pX (k:bB) (n:Int):mE k n=k.wrap n:=by
 unfold mE;cases h:uG k n
 · rfl
 · exact (Gb h).symm
def eA (k:bB):Int→Option AV
 | .ofNat 0=>some<|.int k 0
 | .ofNat (m+1)=>some<|.int k<|.ofNat<|m+1
 | .negSucc 0=>some<|.int k<|-1
 | .negSucc (m+1)=>some<|.int k<|.negSucc<|m+1
theorem eX (k:bB) (n:Int):eA k n=some (.int k n):=by
 unfold eA;split <;> rfl
def gw:List UInt8→List UInt8→Bool
 | [],[]=>true
 | a::l,b::m=>cond (aN a.toNat b.toNat) (gw l m) false
 | _,_=>false
theorem nk:∀ l m:List UInt8,gw l m=decide (l=m)
 | [],[]=>by simp [gw]
 | [],_::_=>by simp [gw]
 | _::_,[]=>by simp [gw]
 | a::l,b::m=>by
   have ih:=nk l m;simp only [gw];cases h:aN a.toNat b.toNat
   · have :a≠b:=fun e=>by subst e; simp at h
     simp [this]
   · have :a=b:=lC.1<|bH h;simp [this,ih]
def l4:List UInt8→List UInt8→Bool
 | _,[]=>false
 | [],_::_=>true
 | a::l,b::m=>cond (aD a.toNat b.toNat) true<|cond (aN a.toNat b.toNat) (l4 l m) false
theorem Ai:∀ l m:List UInt8,l4 l m=mb l m
 | [],[]=>rfl
 | _::_,[]=>rfl
 | [],_::_=>rfl
 | a::l,b::m=>by
   have ih:=Ai l m;rw [Iz];simp only [l4];rcases qw a.toNat b.toNat with h | h | h
   · have C:a < b:=DA.2 h;simp [cn.2 h,C]
   · have e:a=b:=lC.1 h;subst e;have C:¬a < a:=UInt8.lt_irrefl a;have E:aD a.toNat a.toNat=false :=by cases hb:aD a.toNat a.toNat; rfl; exact absurd (cn.1 hb)<|Nat.lt_irrefl _
     simp [E,C,ih]
   · have C:¬a < b:=fun h'=>by have :=DA.1 h'; omega
     have E:aD a.toNat b.toNat=false :=by cases hb:aD a.toNat b.toNat; rfl; exact absurd (cn.1 hb) U
     have I:aN a.toNat b.toNat=false :=by cases hb:aN a.toNat b.toNat; rfl; exact absurd (bH hb) U
     have J:a≠b:=fun e=>by subst e; omega
     simp [E,I,C,J]
end Go.Hb
namespace Go.Hb
def re (op:BinOp) (k:bB) (a b:Int):Option AV:=match op with
 | .add=>eA k<|mE k<|Int.add a b
 | .sub=>eA k<|mE k<|Int.sub a b
 | .mul=>eA k<|mE k<|Int.mul a b
 | .lss=>some<|.bool<|decide (a < b)
 | .leq=>some<|.bool<|decide (a≤b)
 | .gtr=>some<|.bool<|decide (b < a)
 | .geq=>some<|.bool<|decide (b≤a)
 | .eql=>some<|.bool<|decide (a=b)
 | .neq=>some<|.bool<|decide (a≠b)
 | .quo=>match a,b with
   | .ofNat a,.ofNat (b+1)=>eA k<|mE k<|.ofNat<|a / (b+1)
   | _,_=>none
 | .rem=>match a,b with
   | .ofNat a,.ofNat (b+1)=>eA k<|.ofNat<|a % (b+1)
   | _,_=>none
 | .or =>eA k<|k.wrap (gB k.bits a ||| gB k.bits b).toNat
 | .and =>eA k<|k.wrap (gB k.bits a &&& gB k.bits b).toNat
 | _=>none
def vL (op:BinOp) (k:bB) (a:Int) (b:Nat):Option AV:=match op with
 | .shr=>eA k<|a.fdiv<|2 ^ min b k.bits
 | .shl=>eA k<|k.wrap<|a*2 ^ min b k.bits
 | _=>none
def vY (op:BinOp) (l m:List UInt8):Option AV:=match op with
 | .eql=>some<|.bool<|gw l m
 | .neq=>some<|.bool<|!gw l m
 | .lss=>some<|.bool<|l4 l m
 | .gtr=>some<|.bool<|!(l4 l m || gw l m)
 | .leq=>some<|.bool (l4 l m || gw l m)
 | .geq=>some<|.bool<|!l4 l m
 | .add=>cond (ba (l.length+m.length) 9223372036854775807) (some<|.str<|l++m) none
 | _=>none
def pd (P:ar) (t:aq):Bool:=match P.underlying t with
 | some (.pointer e)=>(P.info? e).isSome
 | _=>false
def iZ (P:ar) (t:aq):Bool:=match P.underlying t with
 | some (.slice _)=>true
 | _=>false
def rf (P:ar) (t:aq):Bool:=match P.underlying t with
 | some (.func _ _ _)=>true
 | _=>false
def uK (P:ar) (t:aq):Bool:=match P.underlying t with
 | some .bool=>true
 | _=>false
def ri (P:ar) (t:aq):Bool:=match P.underlying t with
 | some (.interface _)=>true
 | _=>false
def isStr (P:ar) (t:aq):Bool:=match P.underlying t with
 | some .string=>true
 | _=>false
def qT (P:ar) (C:Bool) (t:aq) (x y:AV):Option Bool:=match x,y with
 | .ptr _ _,.fZ=>cond (pd P t) (some false) none
 | .fZ,.fZ=>cond (pd P t) (some true) none
 | .ptr b o,.ptr b' o'=>cond (pd P t && (aN b b' && aN o o')) (some true) none
 | .sl _ _ _ _ _,.az=>cond (iZ P t) (some false) none
 | .az,.az=>cond (iZ P t) (some true) none
 | .fn _ _ _,.gR=>cond (rf P t) (some false) none
 | .gR,.gR=>cond (rf P t) (some true) none
 | .bool a,.bool b=>cond (uK P t) (some<|a==b) none
 | .eL _ _,.cW=>cond (ri P t) (some false) none
 | .cW,.cW=>cond (ri P t && C) (some true) none
 | _,_=>none
def tC (P:ar) (C:Bool) (op:BinOp) (t:aq) (x y:AV):Option AV:=match x,y with
 | .int k a,.int k' b=>match op with
   | .shl | .shr=>match b with
     | .ofNat b=>vL op k a b
     | _=>none
   | _=>cond (aN (du k)<|du k') (re op k a b) none
 | .str l,.str m=>vY op l m
 | x,y=>match op with
   | .eql=>match qT P C t x y with
     | some b=>some<|.bool b
     | none=>none
   | .neq=>match qT P C t x y with
     | some b=>some<|.bool<|!b
     | none=>none
   | _=>none
section
variable {P:ar} {r:Rn} {N:Fm} {σ:Nat→ag} {dst:Option Nat} {ty:aq} {pos :String} {af:Array cq} {g:Option (Nat×Bool)} {x y z:aY}
def YP (P:ar) (r:Rn) (N:Fm) (σ:Nat→ag) (o:aC) (v:AV):Prop := ∃ u,den r v=some u∧∀ w,(execOp (ev N σ) o).run P w= .ok (.value u) w
theorem Gf {op:BinOp} {k:bB} {a b:Int} {t t':aq} {v:AV} (h:re op k a b=some v) (C:ev N σ x= .int k a) (E:ev N σ y= .int k b):YP P r N σ ⟨dst,.binOp op t x y t',ty,pos,af,g⟩ v:=by
 unfold re at h;split at h
 · rw [eX,pX] at h; cases h; exact ⟨_,rfl,fun w=>tv _ C E rfl⟩
 · rw [eX,pX] at h; cases h; exact ⟨_,rfl,fun w=>vC _ C E rfl⟩
 · rw [eX,pX] at h; cases h; exact ⟨_,rfl,fun w=>u7 _ C E rfl⟩
 · cases h; exact ⟨_,rfl,fun w=>lt C E⟩
 · cases h; exact ⟨_,rfl,fun w=>le C E⟩
 · cases h; exact ⟨_,rfl,fun w=>gt C E⟩
 · cases h; exact ⟨_,rfl,fun w=>ge C E⟩
 · cases h; exact ⟨_,rfl,fun w=>zj C E⟩
 · cases h; exact ⟨_,rfl,fun w=>Ar C E⟩
 · split at h
   · rename_i a b;rw [eX,pX] at h; cases h;exact ⟨_,J,fun w=>HE _ C E ⟨e9 _,C5.2<|Dy _⟩ J⟩
   · cases h
 · split at h
   · rename_i a b;rw [eX] at h; cases h;exact ⟨_,J,fun w=>rm C E ⟨e9 _,C5.2<|Dy _⟩⟩
   · cases h
 · rw [eX] at h; cases h; exact ⟨_,rfl,fun w=>yc C E rfl⟩
 · rw [eX] at h; cases h; exact ⟨_,rfl,fun w=>cI C E rfl⟩
 · cases h
theorem Ir {op:BinOp} {k I:bB} {a:Int} {b:Nat} {t t':aq} {v:AV} (h:vL op k a b=some v) (C:ev N σ x= .int k a) (E:ev N σ y= .int I (jK b)):YP P r N σ ⟨dst,.binOp op t x y t',ty,pos,af,g⟩ v:=by
 unfold vL at h;split at h
 · rw [eX] at h; cases h; exact ⟨_,rfl,fun w=>shr C E (e9 _) rfl⟩
 · rw [eX] at h; cases h; exact ⟨_,rfl,fun w=>shl C E (e9 _) rfl⟩
 · cases h
theorem I6 {op:BinOp} {l m:List UInt8} {t t':aq} {v:AV} (h:vY op l m=some v) (C:ev N σ x=str l) (E:ev N σ y=str m):YP P r N σ ⟨dst,.binOp op t x y t',ty,pos,af,g⟩ v:=by
 unfold vY at h;simp only [nk,Ai] at h;split at h
 · cases h; exact ⟨_,rfl,fun w=>zl C E⟩
 · cases h; exact ⟨.bool (decide (l≠m)),by simp [den],fun w=>As C E⟩
 · cases h; exact ⟨_,rfl,fun w=>GS C E⟩
 · cases h; exact ⟨_,rfl,fun w=>F0 C E⟩
 · cases h; exact ⟨_,rfl,fun w=>GI C E⟩
 · cases h; exact ⟨_,rfl,fun w=>FW C E⟩
 · cases hb:ba (l.length+m.length) 9223372036854775807
   · rw [hb] at h; cases h
   · rw [hb] at h; cases h; exact ⟨_,rfl,fun w=>cc C E<|bJ hb⟩
 · cases h
def cO:aY→Bool
 | .const _=>true
 | _=>false
def tj (P:ar) (t:aq) (x y:aY) (u v:ag) (q:Bool):Prop :=
 (∀ w,(binOp .eql t u v).run P w= .ok (.bool q) w)∧(∀ w,(binOp .neq t u v).run P w= .ok (.bool<|!q) w)∧∀ op w,(eqGuard op t x y u v).run P w= .ok () w
theorem tj.of {t:aq} {u v:ag} {q:Bool} (h:∀ d w,(gC (d+1) t u v).run P w= .ok q w) (h1:∀ w,(binOp .eql t u v).run P w=((ll t u v).run P w).andThen fun q w=> .ok (.bool q) w)
 (C:∀ w,(binOp .neq t u v).run P w=((ll t u v).run P w).andThen fun q w=> .ok (.bool<|!q) w) (E:∀ op w,(eqGuard op t x y u v).run P w= .ok () w):tj P t x y u v q:=by
 have e:∀ w,(ll t u v).run P w= .ok q w:=h 9999;exact ⟨fun w=>by rw [h1,e]; rfl,fun w=>by rw [C,e]; rfl,E⟩
theorem ze {ac:Bool} {t:aq} {a b:AV} {u v:ag} {q:Bool} (ae:ac=true→(cO x || cO y)=true) (h:qT P ac t a b=some q) (hu:den r a=some u) (I:den r b=some v):tj P t x y u v q:=by
 have O:pd P t=true→∃ e i,P.underlying t=some (.pointer e)∧P.info? e=some i:=by
  intro hp;unfold pd at hp;split at hp
  · rename_i e he;obtain ⟨i,hi⟩:=Option.isSome_iff_exists.1 hp;exact ⟨e,i,he,hi⟩
  · cases hp
 have Z:iZ P t=true→∃ e,P.underlying t=some (.slice e):=by
  intro hp; unfold iZ at hp; split at hp
  · exact ⟨_,by assumption⟩
  · cases hp
 have U:rf P t=true→∃ a b c,P.underlying t=some (.func a b c):=by
  intro hp; unfold rf at hp; split at hp
  · exact ⟨_,_,_,by assumption⟩
  · cases hp
 have V:ri P t=true→∃ m,P.underlying t=some (.interface m):=by
  intro hp; unfold ri at hp; split at hp
  · exact ⟨_,by assumption⟩
  · cases hp
 have B1:uK P t=true→P.underlying t=some .bool:=by
  intro hp; unfold uK at hp; split at hp
  · assumption
  · cases hp
 have L:∀ {c:Bool} {p:Option Bool} {q:Bool},cond c p none=some q→c=true∧p=some q:=by
  intro c p q h; cases c
  · cases h
  · exact ⟨J,h⟩
 unfold qT at h;split at h
 · obtain ⟨y,ab,rfl⟩:=gI hu;obtain rfl :=nf I;obtain ⟨C,E⟩:=L h;cases E;obtain ⟨e,i,he,hi⟩:=O C;exact .of (fun d w=>ue d he) (fun w=>by simp [binOp]) (fun w=>by simp [binOp]) fun op w=>by simp [eqGuard]
 · obtain rfl :=nf hu;obtain rfl :=nf I;obtain ⟨C,E⟩:=L h;cases E;obtain ⟨e,i,he,hi⟩:=O C;exact .of (fun d w=>ue d he) (fun w=>by simp [binOp]) (fun w=>by simp [binOp]) fun op w=>by simp [eqGuard]
 · rename_i b o aj al;obtain ⟨C,E⟩:=L h;cases E;simp only [a9] at C;obtain ⟨hp,h1,ad⟩:=C;obtain rfl :=bH h1;obtain rfl :=bH ad;rw [hu] at I; cases I;obtain ⟨y,ab,rfl⟩:=gI hu;obtain ⟨e,i,he,hi⟩:=O hp;exact .of (fun d w=>by simp [gC,bp he,sizeOf,cU hi,sameAddr]) (fun w=>by simp [binOp]) (fun w=>by simp [binOp]) fun op w=>by simp [eqGuard]
 · obtain ⟨y,cap,ab,_,rfl,_⟩:=gJ hu;obtain rfl :=gv I;obtain ⟨C,E⟩:=L h;cases E;obtain ⟨e,he⟩:=Z C;exact .of (fun d w=>uf d he) (fun w=>by simp [binOp]) (fun w=>by simp [binOp]) fun op w=>by simp [eqGuard]
 · obtain rfl :=gv hu;obtain rfl :=gv I;obtain ⟨C,E⟩:=L h;cases E;obtain ⟨e,he⟩:=Z C;exact .of (fun d w=>uf d he) (fun w=>by simp [binOp]) (fun w=>by simp [binOp]) fun op w=>by simp [eqGuard]
 · obtain ⟨ai,c',ha,_,rfl⟩:=kJ hu;obtain rfl :=oZ I;obtain ⟨C,E⟩:=L h;cases E;obtain ⟨_,_,_,he⟩:=U C;exact .of (fun d w=>by simp [gC,bp he]) (fun w=>by simp [binOp]) (fun w=>by simp [binOp]) fun op w=>by simp [eqGuard]
 · obtain rfl :=oZ hu;obtain rfl :=oZ I;obtain ⟨C,E⟩:=L h;cases E;obtain ⟨_,_,_,he⟩:=U C;exact .of (fun d w=>by simp [gC,bp he]) (fun w=>by simp [binOp]) (fun w=>by simp [binOp]) fun op w=>by simp [eqGuard]
 · obtain rfl :=il hu;obtain rfl :=il I;obtain ⟨C,E⟩:=L h;cases E;exact .of (fun d w=>zg d<|B1 C) (fun w=>by simp [binOp]) (fun w=>by simp [binOp]) fun op w=>by simp [eqGuard]
 · obtain ⟨am,ak,rfl⟩:=qP hu;obtain rfl :=nb I;obtain ⟨C,E⟩:=L h;cases E;obtain ⟨_,he⟩:=V C;exact .of (fun d w=>by simp [gC,bp he]) (fun w=>by simp [binOp]) (fun w=>by simp [binOp]) fun op w=>by simp [eqGuard]
 · obtain rfl :=nb hu;obtain rfl :=nb I;obtain ⟨C,E⟩:=L h;cases E;simp only [a9] at C;obtain ⟨_,he⟩:=V C.1;have ah:=ae C.2;exact .of (fun d w=>by simp [gC,bp he]) (fun w=>by simp [binOp]) (fun w=>by simp [binOp]) (fun op w=>by
    cases x <;> cases y <;> first | (cases ah; done) | simp [eqGuard])
 · cases h
theorem D9 {ab:Bool} {op:BinOp} {t t':aq} {a b v:AV} (C:ab=true→(cO x || cO y)=true) (h:tC P ab op t a b=some v) (I:den r a=some (ev N σ x)) (L:den r b=some (ev N σ y)):YP P r N σ ⟨dst,.binOp op t x y t',ty,pos,af,g⟩ v:=by
 unfold tC at h;split at h
 · rename_i k a Z b;have h1:=cE I;have V:=cE L;have key:(cond (aN (du k)<|du Z) (re op k a b) none)=some v→YP P r N σ ⟨dst,.binOp op t x y t',ty,pos,af,g⟩ v:=by
    intro E;cases C:aN (du k) (du Z)
    · rw [C] at E; cases E
    · rw [C] at E;obtain rfl :=lU C;exact Gf E h1 V
   cases op <;> first
    | exact key h
    | (dsimp only at h
       split at h
       · exact Ir h h1 V
       · cases h)
 · exact I6 h (fU I)<|fU L
 · split at h
   · split at h
     · rename_i q U;cases h;obtain ⟨h1,_,O⟩:=ze C U I L;exact ⟨_,J,fun w=>by simp [execOp,h1,O]⟩
     · cases h
   · split at h
     · rename_i q U;cases h;obtain ⟨_,h1,O⟩:=ze C U I L;exact ⟨_,J,fun w=>by simp [execOp,h1,O]⟩
     · cases h
   · cases h
end
def vO (e b o n c:Nat) (x:Bool) (i j:Nat):Option AV:=
 cond (ba i j) (cond x (cond (ba j c) (cond (aN c i) (some<|.sl b o (j - i) (c - i) true)<|some<|.sl b (o+i*e) (j - i) (c - i) true) none)
  (cond (ba j n && (aN i 0 || aD i n)) (some<|.sl b (o+i*e) (j - i) (c+i) false) none)) none
def nY (P:ar) (t:aq) (x:AV) (lo hi:Option Nat):Option AV:=match x with
 | .str l=>cond (isStr P t && (ba (lo.getD 0) (hi.getD l.length) && ba (hi.getD l.length) l.length)) (some<|.str<|(l.take<|hi.getD l.length).drop<|lo.getD 0) none
 | .sl b o n c q=>match cT P t with
   | some e=>vO e b o n c q (lo.getD 0)<|hi.getD n
   | none=>none
 | .az=>match cT P t with
   | some _=>cond (aN (lo.getD 0) 0 && aN (hi.getD 0) 0) (some .az) none
   | none=>none
 | _=>none
def vN (P:ar) (t:aq) (lo hi mx:Option aY) (xs:List AV):Option AV:=match lo,hi,mx with
 | none,some _,none=>match xs with
   | [x,.int _ (.ofNat j)]=>nY P t x none<|some j
   | _=>none
 | some _,none,none=>match xs with
   | [x,.int _ (.ofNat i)]=>nY P t x (some i) none
   | _=>none
 | some _,some _,none=>match xs with
   | [x,.int _ (.ofNat i),.int _ (.ofNat j)]=>nY P t x (some i)<|some j
   | _=>none
 | none,some _,some _=>match xs with
   | [.sl b o n c q,.int _ (.ofNat j),.int _ (.ofNat m)]=>match cT P t with
     | some e=>cond (aN j m && ba m n) (some<|.sl b o j j true) none
     | none=>none
   | _=>none
 | some _,some _,some _=>match xs with
   | [.sl b o n c q,.int _ (.ofNat i),.int _ (.ofNat j),.int _ (.ofNat m)]=>match cT P t with
     | some e=>cond (ba i j && (ba j m && ba m n)) (cond (aN m i) (some<|.sl b o (j - i) (m - i) true)<|some<|.sl b (o+i*e) (j - i) (m - i) true) none
     | none=>none
   | _=>none
 | _,_,_=>none
section
variable {P:ar} {r:Rn} {N:Fm} {σ:Nat→ag} {dst:Option Nat} {ty:aq} {pos :String} {af:Array cq} {g:Option (Nat×Bool)} {x y z:aY}
theorem aX {α:Type} {c:Bool} {p:Option α} {q:α} (h:cond c p none=some q):c=true∧p=some q:=by
 cases c
 · cases h
 · exact ⟨J,h⟩
theorem kI {b o n c:Nat} {q:Loc} (C:r b=some q) (h:n≤c):den r (.sl b o n c true)=some (.slice (some ⟨q.an,q.sh+o,none⟩) n c):=by
 simp only [den,C,cond_true,xD h]
theorem na {b o n c:Nat} {q:Loc} (C:r b=some q) (h:c+n≤q.room):den r (.sl b o n c false)=some (.slice (some ⟨q.an,q.sh+o,none⟩) n<|q.room - c):=by
 simp only [den,C,cond_true,cond_false,xD h]
theorem vP {e b o n c i j:Nat} {q:Bool} {v:AV} {u:ag} (h:vO e b o n c q i j=some v) (hu:den r (.sl b o n c q)=some u):
 ∃ a cap,u= .slice a n cap∧n≤cap∧i≤j∧j≤cap∧den r v=some (.slice (dN a cap i e) (j - i)<|cap - i):=by
 unfold vO at h;replace h:=aX h; obtain ⟨h1,h⟩:=h;have h1:=bJ h1;cases q
 · simp only [cond_false] at h;replace h:=aX h; obtain ⟨C,h⟩:=h;simp only [a9,mI] at C;obtain ⟨q,E,I,rfl⟩:=qQ hu;have V:=bJ C.1;cases h;refine ⟨_,_,J,U,h1,U,?_⟩;have O:dN (some ⟨q.an,q.sh+o,none⟩) (q.room - c) i e=some ⟨q.an,q.sh+(o+i*e),none⟩:=by
    unfold dN;rcases C.2 with C | C
    · obtain rfl :=bH C;split
      · simp
      · simp [fh]
    · have :=cn.1 C;rw [if_neg U];simp [fh,jk]
   rw [O,na E U,show q.room - (c+i)=q.room - c - i from by omega]
 · simp only [cond_true] at h;replace h:=aX h; obtain ⟨C,h⟩:=h;have C:=bJ C;obtain ⟨q,E,I,rfl⟩:=yT hu;refine ⟨_,_,J,I,h1,C,?_⟩;cases hb:aN c i
   · rw [hb] at h; cases h;have L:c≠i:=fun e=>by subst e; simp at hb
     rw [kI E U];simp only [dN,if_neg L,eS,fh,jk]
   · rw [hb] at h; cases h;obtain rfl :=bH hb;rw [kI E U];simp only [dN,if_true]
theorem kQ {t:aq} (h:isStr P t=true):P.underlying t=some .string:=by
 unfold isStr at h; split at h
 · assumption
 · cases h
theorem Bt (c i e:Nat):dN none c i e=none:=by unfold dN; split <;> rfl
theorem Iu (a:Option Addr) (c e:Nat):dN a c 0 e=a:=by
 unfold dN; split
 · rfl
 · cases a <;> simp [Addr.add]
theorem Iy {t:aq} {lo hi mx:Option aY} {xs:List AV} {v:AV} (h:vN P t lo hi mx xs=some v) (ab:aI r xs=some ((x::(lo.toList++(hi.toList++mx.toList))).map<|ev N σ)):
 YP P r N σ ⟨dst,.slice t x lo hi mx,ty,pos,af,g⟩ v:=by
 unfold vN at h;split at h
 · rename_i z;split at h
   · rename_i a k j;obtain ⟨h1,I⟩:=gq (u:=ev N σ x) (v:=ev N σ z) ab;have E:=cE I;unfold nY at h;split at h
     · replace h:=aX h; obtain ⟨C,h⟩:=h;simp only [a9,oK,ie] at C;cases h;refine ⟨_,J,fun w=>(vV (kQ C.1) (fU h1) E ⟨e9 _,?_⟩).trans ?_⟩
       · have :=bJ C.2.2; simp; omega
       · simp
     · split at h
       · rename_i e he;obtain ⟨a,cap,hu,ad,L,O,V⟩:=vP h h1;simp only [oK,ie] at L O V;refine ⟨_,V,fun w=>(vT he hu E ⟨e9 _,by simp; omega⟩).trans ?_⟩;simp [Iu]
       · cases h
     · split at h
       · rename_i e he;replace h:=aX h; obtain ⟨C,h⟩:=h;simp only [a9,oK,ie] at C;obtain rfl :=bH C.2;cases h;exact ⟨_,J,fun w=>vT he (gv h1) E ⟨e9 _,by simp⟩⟩
       · cases h
     · cases h
   · cases h
 · rename_i z;split at h
   · rename_i a k j;obtain ⟨h1,I⟩:=gq (u:=ev N σ x) (v:=ev N σ z) ab;have E:=cE I;unfold nY at h;split at h
     · replace h:=aX h; obtain ⟨C,h⟩:=h;simp only [a9,oK,ie] at C;cases h;refine ⟨_,J,fun w=>(Bx (kQ C.1) (fU h1) E ⟨e9 _,?_⟩).trans ?_⟩
       · have :=bJ C.2.1; simp; omega
       · simp
     · split at h
       · rename_i e he;obtain ⟨a,cap,hu,ad,L,O,V⟩:=vP h h1;simp only [oK,ie] at L O V;exact ⟨_,V,fun w=>vU he hu E ⟨e9 _,by simp; omega⟩⟩
       · cases h
     · split at h
       · rename_i e he;replace h:=aX h; obtain ⟨C,h⟩:=h;simp only [a9,oK,ie] at C;obtain rfl :=bH C.1;cases h;exact ⟨_,J,fun w=>(vU he (gv h1) E ⟨e9 _,by simp⟩).trans<|by simp [Bt]⟩
       · cases h
     · cases h
   · cases h
 · rename_i y z;split at h
   · rename_i a k i ai j;obtain ⟨h1,I,L⟩:=kH (u:=ev N σ x) (v:=ev N σ y) (t:=ev N σ z) ab;have Z:=cE I;have E:=cE L;unfold nY at h;split at h
     · replace h:=aX h; obtain ⟨C,h⟩:=h;simp only [a9,ie] at C;cases h;have :=bJ C.2.1;have :=bJ C.2.2;exact ⟨_,J,fun w=>r6 (kQ C.1) (fU h1) Z E ⟨e9 _,by simp; omega,by simp; omega⟩⟩
     · split at h
       · rename_i e he;obtain ⟨a,cap,hu,ad,O,V,ag⟩:=vP h h1;simp only [ie] at O V ag;exact ⟨_,ag,fun w=>vR he hu Z E ⟨e9 _,by simp; omega,by simp; omega⟩⟩
       · cases h
     · split at h
       · rename_i e he;replace h:=aX h; obtain ⟨C,h⟩:=h;simp only [a9,ie] at C;obtain rfl :=bH C.1;obtain rfl :=bH C.2;cases h;exact ⟨_,J,fun w=>(vR he (gv h1) Z E ⟨e9 _,by simp,by simp⟩).trans<|by simp [Bt]⟩
       · cases h
     · cases h
   · cases h
 · rename_i y z;split at h
   · rename_i b o n c q k j ai m;obtain ⟨h1,I,L⟩:=kH (u:=ev N σ x) (v:=ev N σ y) (t:=ev N σ z) ab;have Z:=cE I;have E:=cE L;split at h
     · rename_i e he;replace h:=aX h; obtain ⟨C,h⟩:=h;simp only [a9] at C;obtain rfl :=bH C.1;have :=bJ C.2;cases h;obtain ⟨q,cap,ae,ad,hu,_⟩:=gJ h1;exact ⟨_,kI ae (aZ _),fun w=>Ev he hu Z E U⟩
     · cases h
   · cases h
 · rename_i y z u;split at h
   · rename_i b o n c q k i ai j an m;obtain ⟨_,_,ac,h1,O⟩:=dC ab;obtain ⟨I,L,O⟩:=kH (u:=ev N σ y) (v:=ev N σ z) (t:=ev N σ u)<|by simp at ac; rw [O,← ac.2]
     have Z:=cE I;have E:=cE L;have hu:=cE O;simp at ac;rw [← ac.1] at h1;split at h
     · rename_i e he;replace h:=aX h; obtain ⟨C,h⟩:=h;simp only [a9] at C;have al:=bJ C.1;have am:=bJ C.2.1;have ao:=bJ C.2.2;obtain ⟨q,cap,ae,ad,ak,_⟩:=gJ h1;have ah:=fun w=>Ix (dst:=dst) (ty:=ty) (pos :=pos) (af:=af) (g:=g) (w:=w) he ak Z E hu ⟨al,am,U⟩;cases hb:aN m i
       · rw [hb] at h; cases h;have aj:m≠i:=fun e=>by subst e; simp at hb
         refine ⟨_,kI ae U,fun w=>(ah w).trans ?_⟩;simp only [dN,if_neg aj,eS,fh,jk]
       · rw [hb] at h; cases h;obtain rfl :=bH hb;refine ⟨_,kI ae U,fun w=>(ah w).trans ?_⟩;simp only [dN,if_true]
     · cases h
   · cases h
 · cases h
end
end Go.Hb
namespace Go.Hb
def jP:AV→List AV
 | .agg l=>l
 | v=> [v]
theorem tK {r:Rn} {v:AV} {u:ag} (h:den r v=some u):aI r (jP v)=some u.cells.toList:=by
 cases v with
 | agg l=>
   obtain ⟨us,E,rfl⟩:=oY h;simpa [jP,Value.cells] using E
 | bool b=>have :=il h; subst this; exact dx h<|by simp [aI]
 | int k n=>have :=cE h; subst this; exact dx h<|by simp [aI]
 | str l=>have :=fU h; subst this; exact dx h<|by simp [aI]
 | ptr b o=>obtain ⟨q,C,rfl⟩:=gI h; exact dx h<|by simp [aI]
 | fZ=>have :=nf h; subst this; exact dx h<|by simp [aI]
 | sl b o n c x=>obtain ⟨q,cap,C,_,rfl,_⟩:=gJ h; exact dx h<|by simp [aI]
 | az=>have :=gv h; subst this; exact dx h<|by simp [aI]
 | map b=>obtain ⟨q,C,rfl⟩:=lO h; exact dx h<|by simp [aI]
 | jv=>have :=yS h; subst this; exact dx h<|by simp [aI]
 | fn f a c=>obtain ⟨_,_,_,_,rfl⟩:=kJ h; exact dx h<|by simp [aI]
 | fM l=>obtain ⟨q,C,rfl⟩:=tZ h; exact dx h<|by simp [aI]
 | gR=>have :=oZ h; subst this; exact dx h<|by simp [aI]
 | eL t v=>obtain ⟨_,_,rfl⟩:=qP h; exact dx h<|by simp [aI]
 | cW=>have :=nb h; subst this; exact dx h<|by simp [aI]
 | bP l=>obtain ⟨_,_,rfl⟩:=yU h; exact dx h<|by simp [aI]
def rF:AV→Bool
 | .agg _ | .bP _=>false
 | _=>true
theorem Hq {r:Rn} {v:AV} {u:ag} (h:den r v=some u) (h1:rF v=true):u.oneCell'=true :=by
 cases v with
 | agg l=>cases h1
 | bool b=>have :=il h; subst this; rfl
 | int k n=>have :=cE h; subst this; rfl
 | str l=>have :=fU h; subst this; rfl
 | ptr b o=>obtain ⟨q,C,rfl⟩:=gI h; rfl
 | fZ=>have :=nf h; subst this; rfl
 | sl b o n c x=>obtain ⟨q,cap,C,_,rfl,_⟩:=gJ h; rfl
 | az=>have :=gv h; subst this; rfl
 | map b=>obtain ⟨q,C,rfl⟩:=lO h; rfl
 | jv=>have :=yS h; subst this; rfl
 | fn f a c=>obtain ⟨_,_,_,_,rfl⟩:=kJ h; rfl
 | fM l=>obtain ⟨q,C,rfl⟩:=tZ h; rfl
 | gR=>have :=oZ h; subst this; rfl
 | eL t v=>obtain ⟨_,_,rfl⟩:=qP h; rfl
 | cW=>have :=nb h; subst this; rfl
 | bP l=>cases h1
def dF:List AV→Bool
 | []=>true
 | v::l=>cond (rF v) (dF l) false
theorem nC {r:Rn} :∀ {l:List AV} {us:List ag},aI r l=some us→dF l=true→∀ u∈us,u.oneCell'=true
 | [],us,h,_,u,hu=>by rw [jq h] at hu; cases hu
 | v::l,us,h,h1,u,hu=>by
   obtain ⟨I,J,rfl,C,E⟩:=dC h;simp only [dF] at h1;cases hv:rF v
   · rw [hv] at h1; cases h1
   · rw [hv] at h1;rcases fQ.1 hu with rfl | hu
     · exact Hq C hv
     · exact nC E h1 u hu
def lR (pl:Nat→Option (Nat×Nat)):List AV→List (Nat×AV)→Option (List AV)
 | C,[]=>some C
 | C,(i,v)::ps=>match pl i with
   | some (off,s)=>cond (aN (jP v).length s && ba (off+s) C.length) (lR pl (C.take off++(jP v++C.drop (off+s))) ps) none
   | none=>none
theorem zq:∀ (l:List ag) (m off :Nat) (cs:Array ag),off+m+l.length≤cs.size→
 (l.zipIdx m).foldl (fun (cs:Array ag) (c,j)=>cs.setIfInBounds (off+j) c) cs=(cs.toList.take (off+m)++(l++cs.toList.drop (off+m+l.length))).toArray
 | [],m,off,cs,h=>by simp
 | c::l,m,off,cs,h=>by
   simp only [List.zipIdx_cons,List.foldl_cons,dd] at h ⊢;rw [zq l (m+1) off _ (by simp; omega)];apply p7.1;have aP:off+m < cs.toList.length:=by rw [iB]; omega
   simp only [Array.toList_setIfInBounds];rw [show off+(m+1)=off+m+1 from by omega,Il aP,Ij U,show off+m+1 +l.length=off+m+(l.length+1) from by omega];simp
theorem uq {r:Rn} {pl:Nat→Option (Nat×Nat)} :∀ {ps:List (Nat×AV)} {I L:List AV} {Z:List ag} {vs:List (Nat×ag)},lR pl I ps=some L→aI r I=some Z→
 vs.map fS=ps.map fS→aI r (ps.map tf)=some (vs.map tf)→∃ C,aI r L=some C∧jI pl Z.toArray vs=some C.toArray
 | [],I,L,Z,vs,h,hz,h1,E=>by
   simp only [lR,bD] at h;subst h;obtain rfl :vs= []:=by simpa using h1
   exact ⟨Z,hz,J⟩
 | (i,v)::ps,I,L,Z,vs,h,hz,h1,E=>by
   cases vs with
   | nil=>simp at h1
   | cons p vs=>
     obtain ⟨j,u⟩:=p;simp only [eR,kq] at h1;obtain ⟨rfl,h1⟩:=h1;simp only [eR] at E;obtain ⟨an,ao,he,aj,E⟩:=dC E;simp only [kq] at he;obtain ⟨rfl,rfl⟩:=he;simp only [lR] at h;split at h
     · rename_i off s ai;replace h:=aX h; obtain ⟨O,h⟩:=h;simp only [a9] at O;have ab:=bH O.1;have al:=bJ O.2;have U:=tK aj;have ah:=cP U;have am:=cP hz;have ak:=eI (ik off hz)<|eI U<|iQ (off+s) hz;obtain ⟨C,ac,ad⟩:=uq h ak h1 E;refine ⟨C,ac,?_⟩;have V:u.cells.size=s:=by rw [← iB,ah,ab]
       simp only [jI,ai,V];rw [if_neg (by simp; omega),← ad];congr 1;have ae:=zq u.cells.toList 0 off Z.toArray<|by simp; omega
       rw [show u.cells.zipIdx.foldl (fun (cs:Array ag) (c,j)=>cs.setIfInBounds (off+j) c) Z.toArray=((u.cells.toList.zipIdx 0).foldl (fun (cs:Array ag) (c,j)=>cs.setIfInBounds (off+j) c) Z.toArray) from by
        rw [← Cn]; simp [Array.toList_zipIdx],ae]
       simp [V]
     · cases h
def ki:List (Nat×aY)→List AV→List (Nat×AV)
 | p::ps,v::vs=>(p.1,v)::ki ps vs
 | _,_=> []
theorem wZ {r:Rn} {f:aY→ag} :∀ {ps:List (Nat×aY)} {xs:List AV},aI r xs=some ((ps.map (·.2)).map f)→
 (ps.map fun p=>(p.1,f p.2)).map fS=(ki ps xs).map fS∧aI r ((ki ps xs).map tf)=some ((ps.map fun p=>(p.1,f p.2)).map tf)
 | [],xs,h=>by
   have :=cP h;obtain rfl :xs= []:=kr<|by simpa using this.symm
   simp [ki,aI]
 | p::ps,[],h=>by have :=cP h; simp at this
 | p::ps,v::xs,h=>by
   simp only [eR] at h;obtain ⟨u,us,he,h1,C⟩:=dC h;simp only [kq] at he;obtain ⟨rfl,rfl⟩:=he;obtain ⟨E,I⟩:=wZ (f:=f) C;refine ⟨?_,?_⟩
   · simp only [eR,ki,kq,true_and]; exact E
   · simp only [eR,ki]; exact dx h1 I
def yw (P:ar) (t u:aq) (n:Int):Option AV:=match P.underlying u with
 | some (.int k)=>cond (P.underlying t).isSome (eA k<|mE k n) none
 | _=>none
def tD (P:ar) (b:Builtin) (C:Array aq) (xs:List AV):Option AV:=match b with
 | .len=>match xs,C with
   | [.str l],⟨[t]⟩=>cond (isStr P t) (eA .i64 l.length) none
   | [.sl _ _ n _ _],⟨[t]⟩=>cond (iZ P t) (eA .i64 n) none
   | [.az],⟨[t]⟩=>cond (iZ P t) (eA .i64 0) none
   | _,_=>none
 | .min =>match xs with
   | [.int k a,.int k' b]=>cond (aN (du k)<|du k') (eA k<|min a b) none
   | _=>none
 | .max =>match xs with
   | [.int k a,.int k' b]=>cond (aN (du k)<|du k') (eA k<|max a b) none
   | _=>none
 | _=>none
def xZ (P:ar) (t:aq):Option (Nat×Nat):=match P.underlying t with
 | some (.array n e)=>match P.info? e with
   | some i=>match cN P e with
     | some none=>some (n,i.size)
     | _=>none
   | none=>none
 | _=>none
def l8 (P:ar) (o:Op) (xs:List AV):Option AV:=match o with
 | .move _=>match xs with
   | [x]=>some x
   | _=>none
 | .assign _=>match xs with
   | [x]=>some x
   | _=>none
 | .pick _ _ _=>match xs with
   | [.bool true,a,_]=>some a
   | [.bool false,_,b]=>some b
   | _=>none
 | .nilCheck _=>match xs with
   | [.ptr b o]=>some<|.ptr b o
   | _=>none
 | .extract _ i=>match xs with
   | [.bP l]=>l[i]?
   | _=>none
 | .fieldAddr s _ f=>match xs with
   | [.ptr b o]=>match lQ P s f with
     | some n=>some<|.ptr b<|o+n
     | none=>none
   | _=>none
 | .field s _ f=>match xs with
   | [.agg l]=>match um P s f with
     | some n=>l[n]?
     | none=>match uo P s f with
       | some (E,off)=>match cN P E with
         | some (some n)=>some<|.agg<|(l.drop off).take n
         | _=>none
       | none=>none
   | _=>none
 | .indexAddr s _ _=>match xs with
   | [.sl b o n _ _,.int _ (.ofNat i)]=>match cT P s with
     | some e=>cond (aD i n) (some<|.ptr b<|o+i*e) none
     | none=>none
   | [.ptr b o,.int _ (.ofNat i)]=>match jO P s with
     | some (n,e)=>cond (aD i n) (some<|.ptr b<|o+i*e) none
     | none=>none
   | _=>none
 | .index t _ _=>match xs with
   | [.str l,.int _ (.ofNat i)]=>cond (isStr P t) (match l[i]? with
     | some c=>eA .u8 c.toNat
     | none=>none) none
   | [.agg l,.int _ (.ofNat i)]=>match xZ P t with
     | some (n,s)=>cond (aD i n) l[i*s]? none
     | none=>none
   | _=>none
 | .binOp op t x y _=>match xs with
   | [a,b]=>tC P (cO x || cO y) op t a b
   | _=>none
 | .unOp .not _ _=>match xs with
   | [.bool b]=>some<|.bool<|!b
   | _=>none
 | .convert t u _=>match xs with
   | [.int _ n]=>yw P t u n
   | _=>none
 | .slice t _ lo hi mx=>vN P t lo hi mx xs
 | .makeInterface t _=>match xs with
   | [x]=>cond (jt P t) (some<|.eL t x) none
   | _=>none
 | .typeAssert _ _ a true =>match xs with
   | [.cW]=>cond (jt P a) (match zeroV P a with
     | some z=>match ir 4 z with
       | some z=>some<|.bP [z,.bool false]
       | none=>none
     | none=>none) none
   | [.eL t v]=>cond (jt P a && aN t a) (some<|.bP [v,.bool true]) none
   | _=>none
 | .makeFunc (.func f) ⟨a⟩ _=>some<|.fn f (xs.take a.length)<|xs.drop a.length
 | .build t ⟨ps⟩=>match dX P t with
   | some (pl,C)=>match jw (ir 4) C with
     | some C=>match lR (fun i=>pl.toArray[i]?) C (ki ps xs) with
       | some l=>some<|.agg l
       | none=>none
     | none=>none
   | none=>none
 | .call ⟨.builtin b,_,ts⟩=>tD P b ts xs
 | _=>none
section
variable {P:ar} {r:Rn} {N:Fm} {σ:Nat→ag} {dst:Option Nat} {ty:aq} {pos :String} {af:Array cq} {g:Option (Nat×Bool)} {x y z:aY}
theorem ph {t:aq} (h:iZ P t=true):∃ e,P.underlying t=some (.slice e):=by
 unfold iZ at h; split at h
 · exact ⟨_,by assumption⟩
 · cases h
theorem Ec {b:Builtin} {l:List aY} {O:Array aq} {xs:List AV} {v:AV} (h:tD P b O xs=some v) (I:aI r xs=some (l.map<|ev N σ)):YP P r N σ ⟨dst,.call ⟨.builtin b,⟨l⟩,O⟩,ty,pos,af,g⟩ v:=by
 unfold tD at h;have one:∀ {a:AV},aI r [a]=some (l.map<|ev N σ)→∃ x,l= [x]∧den r a=some (ev N σ x):=by
  intro a h;have :=cP h;simp at this;obtain ⟨x,rfl⟩:=qq.1 this;exact ⟨x,J,dZ h⟩
 have two:∀ {a b:AV},aI r [a,b]=some (l.map<|ev N σ)→∃ x y,l= [x,y]∧den r a=some (ev N σ x)∧den r b=some (ev N σ y):=by
  intro a b h;have :=cP h;simp at this;obtain ⟨x,y,rfl⟩:∃ x y,l= [x,y]:=by
   match l,this with
   | [x,y],_=>exact ⟨x,y,rfl⟩
  exact ⟨x,y,J,gq h⟩
 split at h
 · split at h
   · obtain ⟨x,rfl,E⟩:=one I;replace h:=aX h; obtain ⟨C,h⟩:=h;rw [eX] at h; cases h;exact ⟨_,J,fun w=>Ae (kQ C) J<|fU E⟩
   · obtain ⟨x,rfl,E⟩:=one I;replace h:=aX h; obtain ⟨C,h⟩:=h;rw [eX] at h; cases h;obtain ⟨e,he⟩:=ph C;obtain ⟨q,cap,V,_,hu,_⟩:=gJ E;exact ⟨_,J,fun w=>uT he J hu⟩
   · obtain ⟨x,rfl,E⟩:=one I;replace h:=aX h; obtain ⟨C,h⟩:=h;rw [eX] at h; cases h;obtain ⟨e,he⟩:=ph C;exact ⟨_,J,fun w=>uT he J<|gv E⟩
   · cases h
 · split at h
   · rename_i k a U b;obtain ⟨x,y,rfl,E,L⟩:=two I;replace h:=aX h; obtain ⟨C,h⟩:=h;obtain rfl :=lU C;rw [eX] at h; cases h;exact ⟨_,J,fun w=>mn (cE E)<|cE L⟩
   · cases h
 · split at h
   · rename_i k a U b;obtain ⟨x,y,rfl,E,L⟩:=two I;replace h:=aX h; obtain ⟨C,h⟩:=h;obtain rfl :=lU C;rw [eX] at h; cases h;exact ⟨_,J,fun w=>mx (cE E)<|cE L⟩
   · cases h
 · cases h
theorem Ea {t:aq} {parts:Array (Nat×aY)} {pl:List (Nat×Nat)} {E L:List ag} (h:dX P t=some (pl,E)) (C:jI (pl.toArray[·]?) E.toArray (parts.toList.map fun p=>(p.1,ev N σ p.2))=some L.toArray) (w:ah):
 (execOp (ev N σ) ⟨dst,.build t parts,ty,pos,af,g⟩).run P w= .ok (.value<|.agg L.toArray) w:=by
 unfold dX at h;split at h
 · rename_i it fields hi hu;split at h
   · rename_i z J I hm;simp only [bD,gk] at h;obtain ⟨rfl,rfl⟩:=h;have hb:P.built t (parts.map fun p=>(p.1,ev N σ p.2)).toList=some L.toArray:=by
      simp only [Array.toArray_toList] at C;simp only [Program.built,hi,hu,I,hm,iC]; exact C
     simp [execOp,run_build w t _ _ hb]
   · cases h
 · cases h
theorem AI {o:Op} {xs:List AV} {v:AV} (h:l8 P o xs=some v) (E:aI r xs=some ((fu o).map<|ev N σ)):YP P r N σ ⟨dst,o,ty,pos,af,g⟩ v:=by
 unfold l8 at h;split at h
 · split at h
   · cases h; exact ⟨_,dZ E,fun w=>mv⟩
   · cases h
 · split at h
   · cases h; exact ⟨_,dZ E,fun w=>aR⟩
   · cases h
 · split at h
   · cases h;obtain ⟨h1,I,ac⟩:=kH E;exact ⟨_,I,fun w=>pF<|il h1⟩
   · cases h;obtain ⟨h1,I,ac⟩:=kH E;exact ⟨_,ac,fun w=>rL<|il h1⟩
   · cases h
 · split at h
   · cases h;have h1:=dZ E;obtain ⟨q,V,hu⟩:=gI h1;exact ⟨_,h1.trans (by rw [hu]),fun w=>nc hu⟩
   · cases h
 · split at h
   · obtain ⟨us,O,hu⟩:=yU<|dZ E;obtain ⟨u,Z,ab⟩:=m9 O h;exact ⟨u,ab,fun w=>xt hu<|by simpa using Z⟩
   · cases h
 · split at h
   · split at h
     · rename_i n hn;cases h;obtain ⟨q,V,hu⟩:=gI<|dZ E;exact ⟨_,by simp only [den,V]; rfl,fun w=>(fa hn hu).trans<|by rw [jk]⟩
     · cases h
   · cases h
 · split at h
   · split at h
     · rename_i n hn;obtain ⟨us,O,hu⟩:=oY<|dZ E;obtain ⟨u,Z,ab⟩:=m9 O h;exact ⟨u,ab,fun w=>FC hn hu<|by simpa using Z⟩
     · split at h
       · rename_i ao off ak;split at h
         · rename_i n ha;cases h;obtain ⟨us,O,hu⟩:=oY<|dZ E;have h1:=ik n<|iQ off O;exact ⟨_,by simp only [den,h1],fun w=>FL ak ha hu J⟩
         · cases h
       · cases h
   · cases h
 · split at h
   · split at h
     · rename_i e he;replace h:=aX h; obtain ⟨L,h⟩:=h;cases h;obtain ⟨h1,I⟩:=gq E;obtain ⟨q,cap,V,O,hu,_⟩:=gJ h1;have :=cn.1 L;refine ⟨_,by simp only [den,V]; rfl,fun w=>(ia he hu (cE I) ⟨e9 _,by simp; omega⟩).trans ?_⟩;simp [jk]
     · cases h
   · split at h
     · rename_i n e he;replace h:=aX h; obtain ⟨L,h⟩:=h;cases h;obtain ⟨h1,I⟩:=gq E;obtain ⟨q,V,hu⟩:=gI h1;have :=cn.1 L;refine ⟨_,by simp only [den,V]; rfl,fun w=>(eK he hu (cE I) ⟨e9 _,by simp; omega⟩).trans ?_⟩;simp [jk]
     · cases h
   · cases h
 · split at h
   · rename_i t _ _ l k i;replace h:=aX h; obtain ⟨L,h⟩:=h;obtain ⟨h1,I⟩:=gq E;split at h
     · rename_i c O;rw [eX] at h; cases h;obtain ⟨aP,hg⟩:=cH.1 O;refine ⟨_,J,fun w=>(eV (kQ L) (fU h1) (cE I) aP).trans ?_⟩;simp [cr,O]
     · cases h
   · rename_i l k i;split at h
     · rename_i n s U;replace h:=aX h; obtain ⟨L,h⟩:=h;have L:=cn.1 L;obtain ⟨h1,I⟩:=gq E;obtain ⟨us,O,hu⟩:=oY h1;obtain ⟨u,Z,ab⟩:=m9 O h;have an:=cE I;unfold xZ at U;split at U
       · rename_i ap e hn;split at U
         · rename_i j al;split at U
           · rename_i ha;cases U;refine ⟨u,ab,fun w=> ?_⟩;have hg:us.toArray[i*j.size]? =some u:=by simpa using Z
             have h0:(0:Int)≤jK i∧jK i < (n:Int):=⟨e9 _,by simp; omega⟩
             simp only [execOp,Instr.index,hu,an,asIntOf,hH,kn,gD,bp hn,Sem.run_ite,h0,and_self,if_true,sizeOf,cU al,part,A9 ha];simp [hg]
           · cases U
         · cases U
       · cases U
     · cases h
   · cases h
 · split at h
   · obtain ⟨h1,I⟩:=gq E;exact D9 (fun h=>h) h h1 I
   · cases h
 · split at h
   · cases h; exact ⟨_,rfl,fun w=>no<|il<|dZ E⟩
   · cases h
 · split at h
   · unfold yw at h;split at h
     · rename_i k am;replace h:=aX h; obtain ⟨L,h⟩:=h;rw [eX,pX] at h; cases h;exact ⟨_,J,fun w=>EL am L (cE<|dZ E) J⟩
     · cases h
   · cases h
 · exact Iy h E
 · split at h
   · replace h:=aX h; obtain ⟨L,h⟩:=h;cases h;have h1:=dZ E;exact ⟨_,by simp only [den,h1],fun w=>u6 L J⟩
   · cases h
 · split at h
   · replace h:=aX h; obtain ⟨L,h⟩:=h;split at h
     · rename_i z ad;split at h
       · rename_i au ae;cases h;have ac:=kX (r:=r) 4 ae;exact ⟨_,by simp [den,aI,ac],fun w=>BM L ad<|nb<|dZ E⟩
       · cases h
     · cases h
   · replace h:=aX h; obtain ⟨L,h⟩:=h;simp only [a9] at L;obtain rfl :=bH L.2;cases h;obtain ⟨ar,h1,I⟩:=qP<|dZ E;exact ⟨_,by simp [den,aI,h1],fun w=>BL L.1 I⟩
   · cases h
 · rename_i f a c;cases h;simp only [fu,oF] at E;obtain ⟨c⟩:=c;simp only at E;have h1:=ik a.length E;have I:=iQ a.length E;rw [List.take_left' (by simp)] at h1;rw [List.drop_left' (by simp)] at I;exact ⟨_,by simp only [den,h1,I],fun w=>u5⟩
 · rename_i t ps;split at h
   · rename_i pl av U;split at h
     · rename_i aw ad;split at h
       · rename_i l ai;cases h;have ae:=nB (r:=r) (fun v a=>kX 4) ad;obtain ⟨h1,I⟩:=wZ (f:=ev N σ) E;obtain ⟨C,ah,aj⟩:=uq ai ae h1 I;exact ⟨.agg C.toArray,by simp only [den,ah],fun w=>Ea U aj w⟩
       · cases h
     · cases h
   · cases h
 · rename_i b ag aq;obtain ⟨ag⟩:=ag;exact Ec h E
 · cases h
end
end Go.Hb
namespace Go.Hb
theorem Al {r s:Rn} (h:r.le s):∀ {l:List (AV×AV)} {es:List MapEntry},fq r l es→fq s l es
 | [],[],_=>trivial
 | p::l,m::es,hm=>⟨jT h hm.1,jT h hm.2.1,Al h hm.2.2⟩
 | [],_::_,hm=>hm.elim
 | _::_,[],hm=>hm.elim
theorem OR.le {P:ar} {r s:Rn} (h:r.le s) {q:Loc} {o:AO} {ob:Option Obj} (I:OR P r q o ob):OR P s q o ob:=by
 cases o with
 | cells l e fz ex=>obtain ⟨c,fr,us,h1,C,E⟩:=I; exact ⟨c,fr,us,h1,gr h C,E⟩
 | map l=>obtain ⟨es,c,h1,C,E⟩:=I; exact ⟨es,c,h1,Al h C,E⟩
 | loop st V n fr ps aR body D=>
   obtain ⟨fn,L,O,h1,⟨x,C,E⟩,h4,h5⟩:=I;refine ⟨fn,L,O,h1,⟨x,h _ _ C,E⟩,h4,fun i hi=> ?_⟩;have J:=h5 i hi;have aP:i < L.size:=U;rw [mG aP] at J ⊢;exact jT h J
 | jU b=>exact I
 | vZ l p=>exact I
structure HR (P:ar) (G:Nat) (r:Rn) (T:Nat) (h:Hp) (w:ah):Prop where
 live:∀ i o,h.t.get i=some o→∃ q,r i=some q∧OR P r q o w.heap[q.an]?
 inj:∀ i j o o' q q',h.t.get i=some o→h.t.get j=some o'→r i=some q→r j=some q'→q.an=q'.an→i=j
 new:∀ i,h.nx≤i→i < T→r i=none
 ew:mW G r
 base:G≤h.nx
def Fr (G:Nat) (r:Rn) (h:Hp) (k:Nat):Prop := ∃ i o q,G≤i∧h.t.get i=some o∧r i=some q∧q.an=k
structure St (P:ar) (G T:Nat) (r:Rn) (h:Hp) (w:ah) (r':Rn) (h':Hp) (w':ah):Prop where
 le:r.le r'
 hr:HR P G r' T h' w'
 nx:h.nx≤h'.nx
 md:Md (Fr G r h) w w'
 dE:∀ g,g≤G→∀ k,k < w.heap.size→Fr g r' h' k→Fr g r h k
 out:∀ i,h'.nx≤i→r' i=r i
theorem St.trans {P:ar} {G T:Nat} {r r' J:Rn} {h h' I:Hp} {w w' w'':ah} (a:St P G T r h w r' h' w') (b:St P G T r' h' w' J I w''):St P G T r h w J I w'':=
 ⟨Rn.le_trans a.le b.le,b.hr,cS a.nx b.nx,Md.trans' a.md b.md (fun k C E=>a.dE G (aZ _) k C E),fun g hg k C E=>a.dE g hg k C (b.dE g hg k (lz C a.md.size) E),fun i hi=>(b.out i hi).trans<|a.out i<|cS b.nx hi⟩
theorem St.refl {P:ar} {G T:Nat} {r:Rn} {h:Hp} {w:ah} (hr:HR P G r T h w):St P G T r h w r h w:=⟨Rn.le_refl r,hr,aZ _,Md.refl _ _,fun _ _ _ _ h=>h,fun _ _=>rfl⟩
theorem St.drew {P:ar} {G T:Nat} {r r':Rn} {h h':Hp} {w w':ah} (a:St P G T r h w.drew r' h' w'):St P G T r h w r' h' w':=⟨a.le,a.hr,a.nx,⟨a.md.os,a.md.output,a.md.size,a.md.eW⟩,a.dE,a.out⟩
section
variable {P:ar} {G:Nat} {r:Rn} {T:Nat} {h:Hp} {w:ah}
theorem HR.drew (hr:HR P G r T h w):HR P G r T h w.drew:=⟨hr.live,hr.inj,hr.new,hr.ew,hr.base⟩
theorem HR.cells (hr:HR P G r T h w) {b:Nat} {l:List AV} {e fz:Nat} {ex:Ck} (hb:h.t.get b=some (.cells l e fz ex)):
 ∃ q us,r b=some q∧aI r l=some us∧(∀ j u,us[j]? =some u→au w.heap q.an (q.sh+j)=some u)∧∃ c fr,w.heap[q.an]? =some (.cells c e fr):=by
 obtain ⟨q,J,c,fr,us,h1,C,L,E,_⟩:=hr.live b _ hb;exact ⟨q,us,J,C,fun j u I=>by rw [bV h1]; exact E j u I,c,fr,h1⟩
def YL (P:ar) (r:Rn) (N:Fm) (σ:Nat→ag) (o:aC) (w:ah) (v:AV):Prop := ∃ u,den r v=some u∧(execOp (ev N σ) o).run P w= .ok (.value u) w
end
def me:List AV→Option (List UInt8)
 | []=>some []
 | .int .u8 (.ofNat n)::l=>match me l with
   | some m=>cond (aD n 256) (some (ek n::m)) none
   | none=>none
 | _=>none
theorem wj {r:Rn} :∀ {l:List AV} {m:List UInt8} {us:List ag},me l=some m→aI r l=some us→us=U8 m
 | [],m,us,h,hd=>by simp only [me,bD] at h; subst h; rw [jq hd]; rfl
 | a::l,m,us,h,hd=>by
   unfold me at h;split at h
   · rename_i h0; cases h0
   · rename_i n I h0;cases h0;split at h
     · rename_i J hm;replace h:=aX h; obtain ⟨E,h⟩:=h;cases h;obtain ⟨u,L,rfl,h1,C⟩:=dC hd;obtain rfl :=cE h1;obtain rfl :=wj hm C;have :=cn.1 E;simp only [U8,eR,kq,and_true];congr 1;exact (Jk n this).symm
     · cases h
   · cases h
inductive KK | s | i (k:bB) | bs
def lX (P:ar) (k:aq) (a:AV):Option KK:=match a with
 | .str _=>cond (isStr P k) (some .s) none
 | .int q _=>match P.underlying k with
   | some (.int _)=>some<|.i q
   | _=>none
 | .agg _=>cond (lJ P k) (some .bs) none
 | _=>none
def dm (C:KK) (a:AV):Bool:=match C,a with
 | .s,.str _=>true
 | .i k,.int k' _=>aN (du k)<|du k'
 | .bs,.agg [.bool _,.str _]=>true
 | _,_=>false
def ez (C:KK):List (AV×AV)→Bool
 | []=>true
 | p::l=>cond (dm C p.1) (ez C l) false
def nu:KK→ag→Prop
 | .s=>Gi
 | .i k=>zT k
 | .bs=>uL
where Gi (v:ag):Prop := ∃ s:List UInt8,v=str s
def fk (a b:AV):Bool:=match a,b with
 | .str l,.str m=>gw l m
 | .int _ a,.int _ b=>decide (a=b)
 | .agg [.bool a,.str l],.agg [.bool b,.str m]=>cond (a==b) (gw l m) false
 | _,_=>false
def kS (x:AV):List (AV×AV)→Option AV
 | []=>none
 | p::l=>cond (fk p.1 x) (some p.2)<|kS x l
section
variable {P:ar} {r:Rn}
theorem rl {E:KK} {a:AV} {u:ag} (h:dm E a=true) (C:den r a=some u):nu E u:=by
 unfold dm at h;split at h
 · exact ⟨_,fU C⟩
 · rename_i k V n;obtain rfl :=lU h;exact ⟨_,cE C⟩
 · obtain ⟨us,h1,rfl⟩:=oY C;obtain ⟨Z,ac,rfl,I,L⟩:=dC h1;obtain ⟨ab,ad,rfl,O,U⟩:=dC L;obtain rfl :=jq U;obtain rfl :=il I;obtain rfl :=fU O;exact ⟨_,_,J⟩
 · cases h
theorem z7 {a:AV} (h:dm .s a=true):∃ l,a= .str l:=by
 cases a with
 | str l=>exact ⟨l,rfl⟩
 | _=>exact cB (show false =true from h)
theorem z6 {k:bB} {a:AV} (h:dm (.i k) a=true):∃ n,a= .int k n:=by
 cases a with
 | int C n=>exact ⟨n,by rw [lU (show aN (du k) (du C)=true from h)]⟩
 | _=>exact cB (show false =true from h)
theorem z5 {a:AV} (h:dm .bs a=true):∃ f l,a= .agg [.bool f,.str l]:=by
 unfold dm at h;split at h <;> first
  | exact ⟨_,_,rfl⟩
  | contradiction
  | (exfalso; cases h; done)
  | (rename_i C; cases C; done)
  | (rename_i C _; cases C; done)
theorem yR {f:Bool} {l:List UInt8} {u:ag} (h:den r (.agg [.bool f,.str l])=some u):u= .agg #[.bool f,str l]:=by simpa [den,aI] using h.symm
theorem str_inj {l m:List UInt8} (h:str l=str m):l=m:=by unfold str at h; cases h; rfl
theorem j4 {I:KK} {a b:AV} {u v:ag} (h1:dm I a=true) (C:dm I b=true) (hu:den r a=some u) (E:den r b=some v):fk a b=true↔u=v:=by
 cases I with
 | s=>
   obtain ⟨l,rfl⟩:=z7 h1;obtain ⟨m,rfl⟩:=z7 C;rw [fU hu,fU E];simp only [fk,nk,decide_eq_true_iff];exact ⟨fun h=>by rw [h],str_inj⟩
 | i k=>
   obtain ⟨l,rfl⟩:=z6 h1;obtain ⟨m,rfl⟩:=z6 C;rw [cE hu,cE E];simp only [fk,decide_eq_true_iff];exact ⟨fun h=>by rw [h],fun h=>by cases h; rfl⟩
 | bs=>
   obtain ⟨f,l,rfl⟩:=z5 h1;obtain ⟨g,m,rfl⟩:=z5 C;rw [yR hu,yR E];simp only [fk,nk];cases hab:(f==g)
   · have :f≠g:=by simpa using hab
     exact ⟨fun h=>cB h,fun h=>by simp at h; exact absurd h.1 this⟩
   · obtain rfl :f=g:=by simpa using hab
     simp only [cond_true,decide_eq_true_iff];exact ⟨fun h=>by rw [h],fun h=>by simp at h; exact str_inj h⟩
theorem uN {k:aq} {a:AV} {E:KK} (h:lX P k a=some E):mX P k (nu E):=by
 unfold lX at h;split at h
 · replace h:=aX h; obtain ⟨C,h⟩:=h;cases h;exact (zZ<|kQ C).key
 · split at h
   · cases h; exact (zY<|by assumption).key
   · cases h
 · replace h:=aX h; obtain ⟨C,h⟩:=h;cases h;exact Gu C
 · cases h
theorem rz {C:KK} :∀ {l:List (AV×AV)} {es:List MapEntry},fq r l es→ez C l=true→∀ p∈es.map (fun e=>(e.key,e.val)),nu C p.1
 | [],[],_,_,p,hp=>by simp at hp
 | q::l,m::es,hm,hk,p,hp=>by
   simp only [ez] at hk;cases h1:dm C q.1
   · rw [h1] at hk; cases hk
   · rw [h1] at hk;rcases fQ.1 hp with rfl | hp
     · exact rl h1 hm.1
     · exact rz hm.2.2 hk p hp
 | [],_::_,hm,_,_,_=>hm.elim
 | _::_,[],hm,_,_,_=>hm.elim
theorem zX {I:KK} {x v:AV} {kx:ag} (E:dm I x=true) (C:den r x=some kx):∀ {l:List (AV×AV)} {es:List MapEntry},fq r l es→ez I l=true→kS x l=some v→∃ u,den r v=some u∧(kx,u)∈es.map (fun e=>(e.key,e.val))
 | [],_,_,_,h=>by cases h
 | q::l,[],hm,_,_=>hm.elim
 | q::l,m::es,hm,hk,h=>by
   simp only [ez] at hk;cases h1:dm I q.1
   · rw [h1] at hk; cases hk
   · rw [h1] at hk;simp only [kS] at h;cases he:fk q.1 x
     case true =>
      have he:=(j4 h1 E hm.1 C).1 he;rw [(j4 h1 E hm.1 C).2 he] at h;cases h;exact ⟨m.val,hm.2.1,by rw [← he]; exact ky⟩
     case false =>
      rw [he] at h;obtain ⟨u,J,L⟩:=zX E C hm.2.2 hk h;exact ⟨u,J,kv _ L⟩
theorem uM {E:KK} {x:AV} {kx:ag} (J:dm E x=true) (I:den r x=some kx):∀ {l:List (AV×AV)} {es:List MapEntry},fq r l es→ez E l=true→kS x l=none→∀ v,(kx,v)∉es.map (fun e=>(e.key,e.val))
 | [],[],_,_,_,v=>by simp
 | [],_::_,hm,_,_,_=>hm.elim
 | q::l,[],hm,_,_,_=>hm.elim
 | q::l,m::es,hm,hk,h,v=>by
   simp only [ez] at hk;cases h1:dm E q.1
   · rw [h1] at hk; cases hk
   · rw [h1] at hk;simp only [kS] at h;cases he:fk q.1 x
     case true =>rw [he] at h; cases h
     case false =>
      rw [he] at h;intro L;rcases fQ.1 L with C | C
      · cases C; have :=(j4 h1 J hm.1 I).2 rfl; rw [he] at this; cases this
      · exact uM J I hm.2.2 hk h v C
end
end Go.Hb
namespace Go.Hb
def yx (P:ar) (t u:aq) (x:AV) (h:Hp):Option AV:=match x with
 | .sl _ _ 0 _ _=>match P.underlying t with
   | some (.slice e)=>cond (lK P t e u) (some<|.str []) none
   | _=>none
 | .sl b o n _ _=>match h.t.get b with
   | some (.cells l e _ _)=>cond (lK P t e u && ba (o+n) l.length) (match me ((l.drop o).take n) with
     | some m=>some<|.str m
     | none=>none) none
   | _=>none
 | .az=>match P.underlying t with
   | some (.slice e)=>cond (lK P t e u) (some<|.str []) none
   | _=>none
 | .ptr b 0=>match h.t.get b with
   | some (.cells l e 0 .x)=>cond (mg P t u e l.length || mg P u t e l.length) (some<|.ptr b 0) none
   | _=>none
 | _=>none
def rn (P:ar) (t:aq) (x:AV) (h:Hp):Option AV:=match x with
 | .ptr b o=>match h.t.get b with
   | some (.cells l _ _ _)=>match cN P t with
     | some none=>l[o]?
     | some (some n)=>cond (ba (o+n) l.length) (some<|.agg<|(l.drop o).take n) none
     | none=>none
   | _=>none
 | _=>none
def iw (P:ar) (o:Op) (xs:List AV) (h:Hp):Option AV:=match o with
 | .load t _=>match xs with
   | [x]=>rn P t x h
   | _=>none
 | .lookup t _ _ ok=>match xs with
   | [.map b,k]=>match h.t.get b with
     | some (.map l)=>match P.underlying t with
       | some (.map E e)=>match lX P E k with
         | some C=>cond (dm C k && ez C l) (match kS k l with
           | some v=>some<|cond ok (.bP [v,.bool true]) v
           | none=>match zeroV P e with
             | some z=>match ir 4 z with
               | some z=>some<|cond ok (.bP [z,.bool false]) z
               | none=>none
             | none=>none) none
         | none=>none
       | _=>none
     | _=>none
   | _=>none
 | .convert t u _=>match xs with
   | [x]=>yx P t u x h
   | _=>none
 | .slice t _ none none none=>match xs with
   | [.ptr b 0]=>match h.t.get b with
     | some (.cells _ _ _ .x)=>match jO P t with
       | some (n,_)=>some<|.sl b 0 n n true
       | none=>none
     | _=>none
   | _=>none
 | .call ⟨.builtin .len,_,⟨[t]⟩⟩=>match xs with
   | [.map b]=>match h.t.get b with
     | some (.map l)=>match P.underlying t with
       | some (.map _ _)=>eA .i64 l.length
       | _=>none
     | _=>none
   | _=>none
 | _=>none
section
variable {P:ar} {G:Nat} {r:Rn} {T:Nat} {h:Hp} {w:ah} {N:Fm} {σ:Nat→ag} {dst:Option Nat} {ty:aq} {pos :String} {af:Array cq} {g:Option (Nat×Bool)} {x y z:aY}
theorem Am:∀ {l:List (AV×AV)} {es:List MapEntry},fq r l es→es.length=l.length
 | [],[],_=>rfl
 | p::l,m::es,hm=>by simp [Am hm.2.2]
 | [],_::_,hm=>hm.elim
 | _::_,[],hm=>hm.elim
theorem HR.map (hr:HR P G r T h w) {b:Nat} {l:List (AV×AV)} (hb:h.t.get b=some (.map l)):∃ q es c,r b=some q∧w.heap[q.an]? =some (.map es c)∧fq r l es.toList∧(es.toList.map fun e=>e.key).Nodup:=by
 obtain ⟨q,I,es,c,h1,C,E⟩:=hr.live b _ hb;exact ⟨q,es,c,I,h1,C,E⟩
theorem Aa (hr:HR P G r T h w) {t:aq} {a v:AV} {v0:ag} (C:rn P t a h=some v) (Z:den r a=some v0):∃ b off u,v0= .pointer (some ⟨b,off,none⟩)∧den r v=some u∧
 ((cN P t=some none∧au w.heap b off =some u)∨∃ (n:Nat) (cs:List ag),cN P t=some (some n)∧u= .agg cs.toArray∧cs.length=n∧∀ j,j < n→au w.heap b (off+j)=cs[j]?):=by
 unfold rn at C;split at C
 · rename_i b o;split at C
   · rename_i l _ _ _ hb;obtain ⟨q,us,ac,E,I,_⟩:=hr.cells hb;obtain ⟨q',L,rfl⟩:=gI Z;rw [ac] at L; cases L;split at C
     · rename_i ha;obtain ⟨u,h1,O⟩:=m9 E C;exact ⟨_,_,u,J,O,.inl ⟨ha,I _ _ h1⟩⟩
     · rename_i n ha;replace C:=aX C; obtain ⟨V,C⟩:=C;have hle:=bJ V;cases C;have h1:=ik n<|iQ o E;have hlen:=cP E;refine ⟨_,_,.agg ((us.drop o).take n).toArray,J,by simp only [den,h1],.inr ⟨n,_,ha,J,by simp; omega,fun j ab=> ?_⟩⟩;rw [ib,if_pos ab,iG];have aP:o+j < us.length:=U;rw [jk,bG aP];exact I _ _<|bG aP
     · cases C
   · cases C
 · cases C
theorem AH (hr:HR P G r T h w) {o:Op} {xs:List AV} {v:AV} (C:iw P o xs h=some v) (ab:aI r xs=some ((fu o).map<|ev N σ)):YL P r N σ ⟨dst,o,ty,pos,af,g⟩ w v:=by
 unfold iw at C;split at C
 · split at C
   · obtain ⟨b,off,u,V,hu,h1⟩:=Aa hr C<|dZ ab;rcases h1 with ⟨ha,I⟩ | ⟨n,cs,ha,rfl,ac,I⟩
     · exact ⟨u,hu,ld ha V I⟩
     · exact ⟨_,hu,dn ha V ac I⟩
   · cases C
 · rename_i t a b ok;split at C
   · rename_i b k;split at C
     · rename_i l hb;obtain ⟨q,es,c,O,hw,hm,hn⟩:=hr.map hb;obtain ⟨h1,U⟩:=gq ab;obtain ⟨q',E,hu⟩:=lO h1;rw [O] at E; cases E;split at C
       · rename_i aC e ah;split at C
         · rename_i aB aw;replace C:=aX C; obtain ⟨I,C⟩:=C;simp only [a9] at I;have ak:=uN aw;have am:tk w.heap q.an (es.toList.map fun e=>(e.key,e.val)):=⟨es,c,hw,rfl⟩
           have al:=rz hm I.2;have hi:=rl I.1 U;split at C
           · rename_i aD hg;cases C;obtain ⟨u,Z,ad⟩:=zX I.1 U hm I.2 hg;refine ⟨if ok then .tuple #[u,.bool true] else u,?_,GO ah ak am al hu J hi (by rw [Dh]; exact hn) ad⟩;cases ok
             · exact Z
             · simp [den,aI,Z]
           · rename_i hg;have ad:=uM I.1 U hm I.2 hg;split at C
             · rename_i z ay;split at C
               · rename_i aE aA;cases C;have Z:=kX (r:=r) 4 aA;refine ⟨if ok then .tuple #[z,.bool false] else z,?_,GP ah ay ak am al hu J hi ad⟩;cases ok
                 · exact Z
                 · simp [den,aI,Z]
               · cases C
             · cases C
         · cases C
       · cases C
     · cases C
   · cases C
 · rename_i t u a;split at C
   · rename_i x;have V:=dZ ab;unfold yx at C;split at C
     · split at C
       · rename_i e he;replace C:=aX C; obtain ⟨L,C⟩:=C;cases C;obtain ⟨q',cap,E,hn,hu,_⟩:=gJ V;exact ⟨_,J,oW L hu (bt.nil _ _) J⟩
       · cases C
     · rename_i b o n c q _;split at C
       · rename_i l e _ _ hb;obtain ⟨q,us,O,ac,I,_⟩:=hr.cells hb;obtain ⟨q',cap,E,hn,hu,_⟩:=gJ V;rw [O] at E; cases E;replace C:=aX C; obtain ⟨L,C⟩:=C;simp only [a9] at L;have hle:=bJ L.2;split at C
         · rename_i m hm;cases C;have h1:=ik n<|iQ o ac;have U:=wj hm h1;have hlen:=cP ac;have ax:m.length=n:=by
            have :=congrArg oC U;simp [m3] at this;omega
           refine ⟨_,J,oW L.1 hu ⟨fun _=>rfl,fun j u ae=> ?_⟩ ax⟩;rw [← U,ib] at ae;split at ae
           · rw [iG] at ae;show au w.heap q.an (q.sh+o+j)=some u;rw [jk]; exact I _ _ ae
           · cases ae
         · cases C
       · cases C
     · split at C
       · rename_i e he;replace C:=aX C; obtain ⟨L,C⟩:=C;cases C;exact ⟨_,J,oW L (gv V) (bt.nil _ _) J⟩
       · cases C
     · rename_i b;split at C
       · rename_i l e hb;replace C:=aX C; obtain ⟨L,C⟩:=C;cases C;obtain ⟨q,O,c,fr,us,h1,U,Z,ad,ap,aq,aj,ar⟩:=hr.live b _ hb;obtain ⟨ag,ao,rfl⟩:=aj.1 rfl;obtain ⟨q',E,hu⟩:=gI V;rw [O] at E; cases E;rw [ag] at hu;have av:c=c.toList.toArray:=by simp
         rw [av] at h1;refine ⟨_,V.trans (congrArg some hu),?_⟩;rcases CA.1 L with L | L
         · exact BS L hu h1<|by simpa using ao
         · exact zF L hu h1<|by simpa using ao
       · cases C
     · cases C
   · cases C
 · split at C
   · rename_i b;split at C
     · rename_i hb;split at C
       · rename_i n _ hn;cases C;obtain ⟨q,O,c,fr,us,h1,U,Z,ad,ap,aq,aj,ar⟩:=hr.live b _ hb;obtain ⟨ag,_,_⟩:=aj.1 rfl;obtain ⟨q',E,hu⟩:=gI<|dZ ab;rw [O] at E; cases E;rw [ag] at hu;exact ⟨_,by rw [kI O (aZ _),ag],D4 hn hu⟩
       · cases C
     · cases C
   · cases C
 · rename_i ai t;split at C
   · rename_i b;split at C
     · rename_i l hb;obtain ⟨q,es,c,O,hw,hm,hn⟩:=hr.map hb;split at C
       · rename_i ah;rw [eX] at C; cases C;obtain ⟨ai⟩:=ai;have ac:=cP ab;obtain ⟨x,rfl⟩:∃ x,ai= [x]:=qq.1<|by simpa [fu] using ac
         obtain ⟨q',E,hu⟩:=lO<|dZ ab;rw [O] at E; cases E;refine ⟨_,J,?_⟩;have :=GQ (dst:=dst) (ty:=ty) (pos :=pos) (af:=af) (g:=g) (P:=P) ah rfl hu hw;rw [this];have :=Am hm;rw [iB] at this;rw [this]
       · cases C
     · cases C
   · cases C
 · cases C
end
end Go.Hb
namespace Go.Hb
def Rn.ext (r:Rn) (i:Nat) (q:Loc):Rn:=fun k=>if k=i then some q else r k
theorem Rn.fW (r:Rn) (i:Nat) (q:Loc):r.ext i q i=some q:=if_pos rfl
theorem Rn.iU (r:Rn) {i k:Nat} (q:Loc) (h:k≠i):r.ext i q k=r k:=if_neg h
theorem Rn.pk {r:Rn} {i:Nat} (q:Loc) (h:r i=none):r.le (r.ext i q):=fun k x C=>by
 by_cases e:k=i
 · subst e; rw [h] at C; cases C
 · rw [Rn.iU r q e]; exact C
theorem OR.obj {P:ar} {r:Rn} {q:Loc} {o:AO} {ob:Option Obj} (h:OR P r q o ob):∃ b,ob=some b:=by
 cases o with
 | cells l e fz ex=>obtain ⟨c,fr,us,h1,_⟩:=h; exact ⟨_,h1⟩
 | map l=>obtain ⟨es,c,h1,_⟩:=h; exact ⟨_,h1⟩
 | loop st C n fr ps aR body D=>obtain ⟨_,_,_,h1,_⟩:=h; exact ⟨_,h1⟩
 | jU b=>exact ⟨_,h⟩
 | vZ l p=>exact ⟨_,h⟩
section
variable {P:ar} {G:Nat} {r:Rn} {T:Nat} {h:Hp} {w:ah}
theorem mW.le {r s:Rn} (hg:mW G r) (h:r.le s):mW G s:=fun g aP=>let ⟨m,hm⟩:=hg g aP; ⟨m,h _ _ hm⟩
theorem HR.lt (hr:HR P G r T h w) {i:Nat} {o:AO} {q:Loc} (hi:h.t.get i=some o) (I:r i=some q):q.an < w.heap.size:=by
 obtain ⟨q',C,E⟩:=hr.live i o hi;rw [I] at C; cases C;obtain ⟨b,hb⟩:=E.obj;exact (eC.1 hb).1
theorem HR.put (hr:HR P G r T h w) {i ab:Nat} {o:AO} {q:Loc} {r':Rn} {w':ah} (hle:r.le r') (hi:aD i bT=true) (Z:r' i=some q) (ag:OR P r' q o w'.heap[q.an]?)
 (hw:∀ k,k≠q.an→k < w.heap.size→w'.heap[k]? =w.heap[k]?) (V:∀ j L q',j≠i→h.t.get j=some L→r j=some q'→q'.an≠q.an)
 (ae:h.nx≤ab) (ad:∀ k,ab≤k→k < T→r' k=none):HR P G r' T ⟨h.t.set i o,ab⟩ w':=by
 refine ⟨fun j L C=> ?_,fun j k O U aj ak C I h1 J he=> ?_,ad,hr.ew.le hle,cS hr.base ae⟩
 · rw [Tr.jZ _ _ _ _ hi] at C;split at C
   · rename_i e; subst e; cases C; exact ⟨q,Z,ag⟩
   · rename_i e;obtain ⟨q',h1,E⟩:=hr.live j L C;refine ⟨q',hle _ _ h1,?_⟩;rw [hw _ (V j L q' e C h1) (hr.lt C h1)];exact E.le hle
 · simp only [Tr.jZ _ _ _ _ hi] at C I;split at C
   · rename_i e;split at I
     · rename_i e'; rw [e,e']
     · rename_i e';exfalso;subst e;rw [Z] at h1; cases h1;obtain ⟨q',E,_⟩:=hr.live k U I;rw [hle _ _ E] at J; cases J;exact V k U _ e' I E he.symm
   · rename_i e;split at I
     · rename_i e';exfalso;subst e';rw [Z] at J; cases J;obtain ⟨q',E,_⟩:=hr.live j O C;rw [hle _ _ E] at h1; cases h1;exact V j O _ e C E he
     · obtain ⟨q',E,_⟩:=hr.live j O C;obtain ⟨ai,ac,_⟩:=hr.live k U I;rw [hle _ _ E] at h1; cases h1;rw [hle _ _ ac] at J; cases J;exact hr.inj j k O U _ _ C I E ac he
theorem HR.del (hr:HR P G r T h w) {i:Nat} (hi:aD i bT=true):HR P G r T ⟨h.t.del i,h.nx⟩ w:=by
 refine ⟨fun j o C=> ?_,fun j k I J L O C E=> ?_,hr.new,hr.ew,hr.base⟩
 · rw [Tr.ns _ _ _ hi] at C;split at C
   · cases C
   · exact hr.live j o C
 · simp only [Tr.ns _ _ _ hi] at C E;split at C
   · cases C
   · split at E
     · cases E
     · exact hr.inj j k I J L O C E
theorem Fr.set {g:Nat} {r':Rn} {i Z:Nat} {o:AO} {q:Loc} (hi:aD i bT=true) (V:r' i=some q) (hle:r.le r') (hr:HR P G r T h w) {k:Nat} (U:Fr g r' ⟨h.t.set i o,Z⟩ k):k=q.an∨Fr g r h k:=by
 obtain ⟨j,L,q',O,C,E,rfl⟩:=U;rw [Tr.jZ _ _ _ _ hi] at C;split at C
 · rename_i e; subst e; rw [V] at E; cases E; exact .inl rfl
 · obtain ⟨ab,I,_⟩:=hr.live j L C;have :=hle _ _ I;rw [E] at this; cases this;exact .inr ⟨j,L,_,O,C,I,J⟩
def YM (P:ar) (G:Nat) (r:Rn) (T:Nat) (N:Fm) (σ:Nat→ag) (o:aC) (h:Hp) (w:ah) (v:AV) (h':Hp):Prop :=
 ∃ r' u w',den r' v=some u∧((execOp (ev N σ) o).run P w= .ok (.value u) w'∨(execOp (ev N σ) o).run P w= .ok .skip w'∧u=undef)∧St P G T r h w r' h' w'
def cJ (h:Hp) (o:AO):Option Hp:=cond (aD h.nx bT) (some ⟨h.t.set h.nx o,h.nx+1⟩) none
theorem G6 (w:ah) (ob:Obj) (F:Nat→Prop):Md F w {w with heap:=w.heap.push ob} :=
 ⟨rfl,rfl,by simp,fun k C _=>by simp only [sB]; rw [if_neg U]⟩
theorem HR.cJ (hr:HR P G r T h w) {o:AO} {h':Hp} (hn:cJ h o=some h') (hT:h'.nx≤T) (room:Nat) {w':ah} {ob:Obj} (E:w'.heap=w.heap.push ob) (Z:w'.os=w.os) (ab:w'.output=w.output) (V:∀ r',r.le r'→r' h.nx=some ⟨w.heap.size,0,room⟩→OR P r' ⟨w.heap.size,0,room⟩ o (some ob)):
 ∃ r',r' h.nx=some ⟨w.heap.size,0,room⟩∧St P G T r h w r' h' w':=by
 unfold Hb.cJ at hn;replace hn:=aX hn; obtain ⟨I,hn⟩:=hn;cases hn;simp only at hT;have hle:=Rn.pk (i:=h.nx) ⟨w.heap.size,0,room⟩<|hr.new h.nx (aZ _) U;have J:∀ k,k < w.heap.size→w'.heap[k]? =w.heap[k]? :=fun k C=>by rw [E,sB,if_neg U]
 refine ⟨r.ext h.nx ⟨w.heap.size,0,room⟩,Rn.fW _ _ _,hle,hr.put hle I (Rn.fW _ _ _) ?_ (fun k _ aP=>J k aP) (fun j ae q' ad hg ac=> ?_) (kA _) (fun k C O=> ?_),kA _,⟨Z,ab,by rw [E]; simp,fun k C _=>J k C⟩,fun g _ k C L=> ?_,fun k C=>Rn.iU _ _<|by simp only at C; omega⟩
 · rw [E]; simp only [sB,if_true]; exact V _ hle<|Rn.fW _ _ _
 · have :=hr.lt hg ac; simp only; omega
 · rw [Rn.iU _ _ U]; exact hr.new k U O
 · rcases Fr.set I (Rn.fW _ _ _) hle hr L with h1 | h1
   · simp only at h1; omega
   · exact h1
theorem vj {r':Rn} {l:List AV} {us:List ag} {e b:Nat} (C:aI r' l=some us) (h1:dF l=true):OR P r' ⟨b,0,0⟩ (.cells l e 0 .x) (some<|.cells us.toArray e (0,0)):=
 ⟨us.toArray,(0,0),us,rfl,C,by simp [cP C],fun j u E=>by simpa using E,aZ _,nC C h1,⟨fun _=>⟨rfl,by simp [cP C],rfl⟩,fun _=>rfl⟩,fun s _=>by simp⟩
variable {N:Fm} {σ:Nat→ag} {dst:Option Nat} {ty:aq} {pos :String} {af:Array cq} {g:Option (Nat×Bool)} {x y z:aY}
theorem YM.new (hr:HR P G r T h w) {o:aC} {l:List AV} {us:List ag} {e:Nat} {h':Hp} {v:AV} {f:Nat→ag} (hn:Hb.cJ h (.cells l e 0 .x)=some h') (hT:h'.nx≤T) (C:aI r l=some us) (h1:dF l=true)
 (J:(execOp (ev N σ) o).run P w= .ok (.value<|f w.heap.size) {w with heap:=w.heap.push<|.cells us.toArray e (0,0)}) (L:∀ r':Rn,r' h.nx=some ⟨w.heap.size,0,0⟩→den r' v=some (f w.heap.size)):YM P G r T N σ o h w v h':=by
 obtain ⟨r',E,I⟩:=hr.cJ hn hT 0 (w':= {w with heap:=w.heap.push<|.cells us.toArray e (0,0)}) rfl rfl rfl fun r' hle _=>vj (gr hle C) h1;exact ⟨r',_,_,L r' E,.inl J,I⟩
theorem HR.j7 (hr:HR P G r T h w) {i:Nat} {o J:AO} {q:Loc} {w':ah} (hi:h.t.get i=some J) (hb:aD i bT=true) (C:r i=some q) (L:G≤i) (V:OR P r q o w'.heap[q.an]?) (hm:Md (fun k=>k=q.an) w w'):
 St P G T r h w r ⟨h.t.set i o,h.nx⟩ w':=by
 have I:∀ g,g≤G→Fr g r h q.an:=fun g hg=>⟨i,J,q,cS hg L,hi,C,rfl⟩
 refine ⟨Rn.le_refl r,hr.put (Rn.le_refl r) hb C V (fun k E aP=>hm.eW k aP E) (fun j Z ab U hg h1 he=>U<|hr.inj j i _ _ _ _ hg hi h1 C he) (aZ _) hr.new,aZ _,hm.mono fun k _ E=>by rw [E]; exact I G (aZ _),fun g hg k _ O=> ?_,fun _ _=>rfl⟩;rcases Fr.set hb C (Rn.le_refl r) hr O with h1 | h1
 · rw [h1]; exact I g hg
 · exact h1
end
end Go.Hb
namespace Go.Hb
def lW (x v:AV):List (AV×AV)→List (AV×AV)
 | []=> [(x,v)]
 | p::l=>cond (fk p.1 x) ((p.1,v)::l) (p::lW x v l)
def z8:KK→Bool
 | .bs=>false
 | _=>true
def nJ (P:ar) (t:aq) (b:Nat) (k v:AV) (h:Hp):Option Hp:=match h.t.get b with
 | some (.map l)=>match P.underlying t with
   | some (.map E e)=>match lX P E k with
     | some C=>cond (aD b bT && (ba h.nx b==false) && (dm C k && ez C l) && (z8 C || (kS k l).isNone)) (some ⟨h.t.set b (.map<|lW k v l),h.nx⟩) none
     | none=>none
   | _=>none
 | _=>none
section
variable {P:ar} {G:Nat} {r:Rn} {T:Nat} {h:Hp} {w:ah}
theorem An {x v:AV} {kx u:ag} {E:KK} (L:dm E x=true) (C:den r x=some kx) (J:den r v=some u) {m:MapEntry} (lT:m.key=kx) (I:m.val=u):∀ {l:List (AV×AV)} {es:List MapEntry},fq r l es→ez E l=true→(∀ e∈es,e.key≠kx)→fq r (lW x v l) (es++ [m])
 | [],[],_,_,_=>⟨by rw [lT]; exact C,by rw [I]; exact J,trivial⟩
 | [],_::_,hm,_,_=>hm.elim
 | _::_,[],hm,_,_=>hm.elim
 | q::l,e::es,hm,hk,hn=>by
   simp only [ez] at hk;cases h1:dm E q.1
   · rw [h1] at hk; cases hk
   · rw [h1] at hk;have he:fk q.1 x=false :=by
      cases hq:fk q.1 x
      · rfl
      · exact absurd ((j4 h1 L hm.1 C).1 hq)<|hn e ky
     simp only [lW,he,cond_false];exact ⟨hm.1,hm.2.1,An L C J lT I hm.2.2 hk fun e he=>hn e<|kv _ he⟩
theorem Ao {x v:AV} {kx u:ag} {C:KK} (I:dm C x=true) (E:den r x=some kx) (L:den r v=some u) {f:MapEntry→MapEntry} (J:∀ e,e.key=kx→(f e).key=kx∧(f e).val=u):∀ {l:List (AV×AV)} {es:List MapEntry} {j:Nat} {e':MapEntry},fq r l es→ez C l=true→
 es[j]? =some e'→e'.key=kx→(es.map fun e=>e.key).Nodup→fq r (lW x v l) (es.modify j f)
 | [],[],j,e',_,_,hj,_,_=>by simp at hj
 | [],_::_,_,_,hm,_,_,_,_=>hm.elim
 | _::_,[],_,_,hm,_,_,_,_=>hm.elim
 | q::l,e::es,0,e',hm,hk,hj,hk',_=>by
   simp only [ez] at hk;cases h1:dm C q.1
   · rw [h1] at hk; cases hk
   · simp only [hZ,bD] at hj;subst hj;simp only [lW,(j4 h1 I hm.1 E).2 hk',cond_true];obtain ⟨O,U⟩:=J e hk';exact ⟨by show den r q.1=some (f e).key; rw [hm.1,O,hk'],by show den r v=some (f e).val; rw [U]; exact L,hm.2.2⟩
 | q::l,e::es,j+1,e',hm,hk,hj,hk',hn=>by
   simp only [ez] at hk;cases h1:dm C q.1
   · rw [h1] at hk; cases hk
   · rw [h1] at hk;simp only [hO] at hj;simp only [eR,Dm] at hn;have he:fk q.1 x=false :=by
      cases hq:fk q.1 x
      · rfl
      · have :=(j4 h1 I hm.1 E).1 hq;exact absurd (sU.2 ⟨e',kz hj,hk'.trans this.symm⟩) hn.1
     simp only [lW,he,cond_false];exact ⟨hm.1,hm.2.1,Ao I E L J hm.2.2 hk hj hk' hn.2⟩
theorem Gv {k:aq} {a:AV} {C:KK} (h:lX P k a=some C) (I:z8 C=true):∀ w v,nu C v→(qg v v).run P w= .ok v w:=by
 unfold lX at h;split at h
 · replace h:=aX h; obtain ⟨E,h⟩:=h;cases h;exact (zZ<|kQ E).stays
 · split at h
   · cases h; exact (zY<|by assumption).stays
   · cases h
 · replace h:=aX h; obtain ⟨E,h⟩:=h;cases h;cases I
 · cases h
theorem AT (hr:HR P G r T h w) {t:aq} {b:Nat} {k v:AV} {h':Hp} {q:Loc} {kx u:ag} (Z:G≤b) (hp:nJ P t b k v h=some h') (V:r b=some q) (I:den r k=some kx) (al:den r v=some u):
 ∃ w',(xl t (.map<|some q.an) kx u).run P w= .ok () w'∧St P G T r h w r h' w':=by
 unfold nJ at hp;split at hp
 · rename_i l hb;split at hp
   · rename_i ax e ak;split at hp
     · rename_i av ah;replace hp:=aX hp; obtain ⟨ad,hp⟩:=hp;simp only [a9] at ad;obtain ⟨⟨⟨ac,_⟩,hka,hkl⟩,hstay⟩:=ad;cases hp;obtain ⟨q',es,c,aj,hw,hm,hn⟩:=hr.map hb;rw [V] at aj; cases aj;have O:=uN ah;have hi:=rl hka I;have ao:∀ e∈es.toList,nu av e.key:=qV rfl (rz hm hkl);have aP:=(eC.1 hw).1;rcases O.find w kx es.toList hi ao with ⟨h1,ai⟩ | ⟨j,e',h1,E,C⟩
       · refine ⟨{w with heap:=w.heap.setIfInBounds q.an<|.map (es.push {key:=kx,val:=u,born:=c})<|c+1},by simp [xl,bp ak,run_getObj_map hw,O.check _ w kx hi,h1,setObj,kj,hw],?_⟩;refine hr.j7 hb ac V Z ?_ ⟨J,J,by simp,fun i _ U=>by simp only; rw [xd (fun e=>U e.symm)]⟩;refine ⟨_,_,by simp only; rw [xe aP],?_,?_⟩
         · simp only [Cw];exact An hka I al J J hm hkl ai
         · simp only [Cw,oF,eR,List.map_nil];rw [List.nodup_append];refine ⟨hn,by simp,?_⟩;intro a ha aw ab am;simp at ab;subst am ab;obtain ⟨p,hp,au⟩:=sU.1 ha;exact ai p hp au
       · have ar:(qg kx kx).run P w= .ok kx w:=by
          rcases CA.1 hstay with L | L
          · exact Gv ah L w kx hi
          · exfalso;cases hg:kS k l with
            | none=>exact uM hka I hm hkl hg e'.val<|by rw [← C]; exact sU.2 ⟨e',kz E,rfl⟩
            | some v=>rw [hg] at L; cases L
         have ap:es[j]? =some e':=by simpa using E
         refine ⟨{w with heap:=w.heap.setIfInBounds q.an<|.map (es.modify j fun e=> {e with key:=kx,val:=u}) c},?_,?_⟩
         · simp [xl,bp ak,run_getObj_map hw,O.check _ w kx hi,h1,ap,C,ar,setObj,kj,hw]
         · refine hr.j7 hb ac V Z ?_ ⟨J,J,by simp,fun i _ U=>by simp only; rw [xd (fun e=>U e.symm)]⟩;refine ⟨_,_,by simp only; rw [xe aP],?_,?_⟩
           · rw [Cv];exact Ao hka I al (fun e _=>⟨J,J⟩) hm hkl E C hn
           · rw [Cv];have :(es.toList.modify j fun e=> {e with key:=kx,val:=u}).map (fun e=>e.key)=es.toList.map fun e=>e.key:=by
              apply sQ;intro i;simp only [ks,List.getElem?_modify];by_cases ae:j=i
              · subst ae; rw [E]; simp [C]
              · simp [ae]
             rw [this]; exact hn
     · cases hp
   · cases hp
 · cases hp
end
def jA (C:List AV):Nat→List AV
 | 0=> []
 | n+1=>C++jA C n
def pQ (P:ar) (G:Nat) (t:aq) (b o:Nat) (v:AV) (h:Hp):Option Hp:=match h.t.get b with
 | some (.cells l e fz ex)=>match bY P t with
   | some n=>cond ((aN (jP v).length n && ba (o+n) l.length) && (ba fz o && (dF (jP v) && (ba G b && aD b bT)))) (some ⟨h.t.set b (.cells (l.take o++(jP v++l.drop (o+n))) e fz ex),h.nx⟩) none
   | none=>none
 | _=>none
def nZ (P:ar) (t:aq):Option (Nat×Nat×Nat×List AV):=match P.underlying t with
 | some (.slice e)=>match P.info? e with
   | some i=>match i.zero with
     | some z=>match jw (ir 4) z.cells.toList with
       | some C=>cond (aN C.length i.size && (aD 0 i.size && dF C)) (some (e,i.size,i.bytes,C)) none
       | none=>none
     | none=>none
   | none=>none
 | _=>none
def nE (P:ar) (G:Nat) (o:Op) (xs:List AV) (h:Hp):Option (AV×Hp):=match o with
 | .alloc e=>match zeroOf P e with
   | some (some C)=>match jw (ir 4) C with
     | some l=>cond (dF l) (match cJ h (.cells l e 0 .x) with
       | some h'=>some (.ptr h.nx 0,h')
       | none=>none) none
     | none=>none
   | _=>none
 | .box e _=>match xs with
   | [x]=>cond (dF<|jP x) (match cJ h (.cells (jP x) e 0 .x) with
     | some h'=>some (.ptr h.nx 0,h')
     | none=>none) none
   | _=>none
 | .makeMap _ none=>match cJ h (.map []) with
   | some h'=>some (.map h.nx,h')
   | none=>none
 | .buildSlice t n ⟨ps⟩=>match nZ P t with
   | some (e,s,_,C)=>cond (ba (n*s) 16777216) (match lR (fun i=>some (i*s,s)) (jA C n) (ki ps xs) with
     | some l=>cond (dF l) (match cJ h (.cells l e 0 .x) with
       | some h'=>some (.sl h.nx 0 n n true,h')
       | none=>none) none
     | none=>none) none
   | none=>none
 | .makeSlice t _ _=>match xs with
   | [.int .i64 (.ofNat n),.int .i64 (.ofNat c)]=>match nZ P t with
     | some (e,s,by_,C)=>cond (ba n c && (ba (by_*c) 281474976710656 && aD c 9223372036854775808)) (match cJ h (.cells (jA C c) e 0 .x) with
       | some h'=>some (.sl h.nx 0 n c true,h')
       | none=>none) none
     | none=>none
   | _=>none
 | .store t _ _=>match xs with
   | [.ptr b o,v]=>match pQ P G t b o v h with
     | some h'=>some (.bP [],h')
     | none=>none
   | _=>none
 | .mapUpdate t _ _ _=>match xs with
   | [.map b,k,v]=>cond (ba G b) (match nJ P t b k v h with
     | some h'=>some (.bP [],h')
     | none=>none) none
   | _=>none
 | .insert t _ _ _=>match xs with
   | [.map b,k,v]=>cond (ba G b) (match nJ P t b k v h with
     | some h'=>some (.bP [],h')
     | none=>none) none
   | _=>none
 | _=>none
section
variable {P:ar} {G:Nat} {r:Rn} {T:Nat} {h:Hp} {w:ah} {N:Fm} {σ:Nat→ag} {dst:Option Nat} {ty:aq} {pos :String} {af:Array cq} {g:Option (Nat×Bool)} {x y z:aY}
theorem gH (r:Rn):den r (.bP [])=some undef:=by simp [den,aI]; rfl
theorem rN {r:Rn} {C:List AV} {Z:List ag} (h:aI r C=some Z):∀ n,aI r (jA C n)=some ((cZ n Z).flatten)
 | 0=>by simp [jA,aI]
 | n+1=>by simp only [jA,Dq,De]; exact eI h<|rN h n
theorem AF:∀ {l m:List AV},dF l=true→dF m=true→dF (l++m)=true
 | [],m,_,h=>h
 | a::l,m,h,h'=>by
   simp only [dF,List.cons_append] at h ⊢;cases ha:rF a
   · rw [ha] at h; cases h
   · rw [ha] at h; exact AF h h'
theorem vu {C:List AV} (h:dF C=true):∀ n,dF (jA C n)=true
 | 0=>rfl
 | n+1=>AF h<|vu h n
theorem vp (Z:Array ag) (C:0 < Z.size):∀ n,(og<|n*Z.size).map (Z[· % Z.size]!)=((cZ n Z.toList).flatten).toArray:=by
 intro n;apply p7.1;simp only [iC,Array.toList_range]
 induction n with
 | zero=>simp
 | succ n ih=>
   rw [Nat.succ_mul,sZ,List.range_add,oF,Dq,De,Dh];congr 1
   · apply sQ;intro i;simp only [ks];by_cases hi:i < Z.size
     · rw [List.getElem?_range hi,eS,Nat.mod_eq_of_lt hi];rw [getElem!_pos Z i hi];simp [hi]
     · rw [lr (by simp; omega),lr (by simp; omega)]; rfl
   · rw [← ih];apply List.map_congr_left;intro i _;simp
theorem r5 {r:Rn} {t e s I:Nat} {E:List AV} (h:nZ P t=some (e,s,I,E)):∃ i z,P.underlying t=some (.slice e)∧P.info? e=some i∧i.zero=some z∧i.size=s∧i.bytes=I∧z.cells.size=s∧0 < s∧aI r E=some z.cells.toList∧dF E=true∧E.length=s:=by
 unfold nZ at h;split at h
 · rename_i e' hu;split at h
   · rename_i i hi;split at h
     · rename_i z U;split at h
       · rename_i Z V;replace h:=aX h; obtain ⟨C,h⟩:=h;simp only [a9] at C;cases h;have L:=nB (r:=r) (fun v a=>kX 4) V;have O:=bH C.1;have :=cP L;exact ⟨i,z,hu,hi,U,J,J,by rw [← iB]; omega,cn.1 C.2.1,L,C.2.2,O⟩
       · cases h
     · cases h
   · cases h
 · cases h
theorem IQ (hr:HR P G r T h w) {t b o:Nat} {v:AV} {h':Hp} {u:ag} (C:pQ P G t b o v h=some h') (ay:den r v=some u) (aA:den r (.ptr b o)=some (ev N σ x)) (aB:ev N σ y=u):YM P G r T N σ ⟨dst,.store t x y,ty,pos,af,g⟩ h w (.bP []) h':=by
 unfold pQ at C;split at C
 · rename_i l e fz ex hb;split at C
   · rename_i n hn;replace C:=aX C; obtain ⟨ai,C⟩:=C;simp only [a9] at ai;obtain ⟨⟨c1,c2⟩,c3,c4,O,c6⟩:=ai;have c1:=bH c1;have c2:=bJ c2;have c3:=bJ c3;have O:=bJ O;cases C;obtain ⟨q,ak,c,fr,us,h1,V,aD,ad,aq,ae,ah,ar⟩:=hr.live b _ hb;obtain ⟨q',al,hu⟩:=gI aA;rw [ak] at al; cases al;have ab:=tK ay;have aw:=cP ab;have aF:=cP V;have aj:=nC ab c4;have hlen:u.cells.toList.length=n:=by rw [aw,c1]
     have bg:=run_storeCells_atF P q.an (q.sh+o) e fr u.cells.toList 0 c w h1 U U aj;unfold bY at hn;simp only [fR] at hn;obtain ⟨i,hi,C⟩:=hn;have ax:u.cells.size=n:=by rw [← iB,hlen]
     obtain ⟨L,Z⟩:∃ L,c.toList.take (q.sh+o+0)++u.cells.toList++c.toList.drop (q.sh+o+0 +u.cells.toList.length)=L:=⟨_,rfl⟩
     rw [Z] at bg;have aE:L.length=c.size:=by rw [← Z]; simp; omega
     have au:∀ k,L[k]? =if k < q.sh+o then c[k]? else if k < q.sh+o+n then u.cells.toList[k - (q.sh+o)]? else c[k]? :=by
      intro k;rw [← Z,jl];by_cases I:k < q.sh+o
      · rw [if_pos I,hJ,eF (by simp; omega),ib,if_pos I]; simp
      · rw [if_neg I];by_cases ac:k < q.sh+o+n
        · rw [if_pos ac,eF (by simp; omega),eQ (by simp; omega)];congr 1; simp; omega
        · rw [if_neg ac,eQ (by simp; omega),iG];simp only [bQ,cC,iB,oe];congr 1; omega
     refine ⟨r,undef,w.setRow q.an L.toArray,gH r,.inr ⟨?_,J⟩,?_⟩
     · simp [execOp,Instr.storeAt,hu,aB,Instr.sureAddr,storeVar,sizeOf,cU hi,C,ax,bg]
     · refine hr.j7 hb c6 ak O ?_ ⟨J,J,by simp,fun k _ av=>setRow_other w q.an k _ av⟩;rw [setRow_heap w q.an _ _ e _ h1];refine ⟨L.toArray,fr,us.take o++(u.cells.toList++us.drop (o+n)),J,eI (ik o V) (eI ab<|iQ (o+n) V),?_,fun j a E=> ?_,aq,?_,⟨fun hex=> ?_,ah.2⟩,fun s C=> ?_⟩
       · simp only [bQ,cC,ic,dY]; omega
       · rw [ku,au];by_cases I:j < o
         · rw [eF (by simp; omega),ib,if_pos I] at E;rw [if_pos U]; exact ad _ _ E
         · rw [eQ (by simp; omega)] at E;rw [if_neg U];have am:(us.take o).length=o:=by simp; omega
           rw [am] at E;by_cases ac:j < o+n
           · rw [eF U] at E;rw [if_pos U,show q.sh+j - (q.sh+o)=j - o from by omega]; exact E
           · rw [eQ U,iG,hlen] at E;rw [if_neg U];refine ad j a ?_;rw [← E]; congr 1; omega
       · intro a ha;rcases gj.1 ha with ha | ha
         · exact ae a<|sW ha
         · rcases gj.1 ha with ha | ha
           · exact aj a ha
           · exact ae a<|sV ha
       · obtain ⟨ao,aC,ap⟩:=ah.1 hex;refine ⟨ao,?_,ap⟩;simp only [bQ,cC,ic,dY]; omega
       · have :=ar s C;simp only [dY]; omega
   · cases C
 · cases C
end
end Go.Hb
namespace Go.Hb
section
variable {P:ar} {G:Nat} {r:Rn} {T:Nat} {h:Hp} {w:ah} {N:Fm} {σ:Nat→ag} {dst:Option Nat} {ty:aq} {pos :String} {af:Array cq} {g:Option (Nat×Bool)} {x y z:aY}
theorem yP {r':Rn} {i b room n c:Nat} (hi:r' i=some ⟨b,0,room⟩) (hn:n≤c):den r' (.sl i 0 n c true)=some (.slice (some ⟨b,0,none⟩) n c):=by
 rw [kI hi hn]
theorem FH {t e s n:Nat} {E L:List AV} {Z:ag} {ps:List (Nat×aY)} {xs:List AV} (ae:0 < s) (ad:Z.cells.size=s) (ac:aI r E=some Z.cells.toList) (V:lR (fun i=>some (i*s,s)) (jA E n) (ki ps xs)=some L) (O:aI r xs=some ((ps.map (·.2)).map<|ev N σ)):
 ∃ C,aI r L=some C∧jI (fun i=>some (i*s,s)) ((og<|n*s).map (Z.cells[· % Z.cells.size]!)) (ps.map fun p=>(p.1,ev N σ p.2))=some C.toArray:=by
 obtain ⟨h1,I⟩:=wZ (f:=ev N σ) O;obtain ⟨C,J,ab⟩:=uq V (rN ac n) h1 I;refine ⟨C,J,?_⟩;rw [← ab];congr 1;have :=vp Z.cells U n;rw [ad] at this ⊢;exact this
theorem Ht (hr:HR P G r T h w) {o:Op} {xs:List AV} {v:AV} {h':Hp} (E:nE P G o xs h=some (v,h')) (hT:h'.nx≤T) (ab:aI r xs=some ((fu o).map<|ev N σ)):YM P G r T N σ ⟨dst,o,ty,pos,af,g⟩ h w v h':=by
 unfold nE at E;split at E
 · rename_i e;split at E
   · rename_i aq Z;split at E
     · rename_i l ay;replace E:=aX E; obtain ⟨I,E⟩:=E;split at E
       · rename_i O hn;cases E;have aw:=nB (r:=r) (fun v a=>kX 4) ay;unfold zeroOf at Z;simp only [fR] at Z;obtain ⟨i,hi,zv,aG,rfl⟩:=Z;refine YM.new hr (f:=fun b=> .pointer<|some ⟨b,0,none⟩) hn hT aw I ?_ fun r' L=>by simp only [den,L]
         simp [execOp,sG,zeroValue,cU hi,aG,newVar,newRow]
       · cases E
     · cases E
   · cases E
 · rename_i e _;split at E
   · rename_i x;replace E:=aX E; obtain ⟨I,E⟩:=E;split at E
     · rename_i O hn;cases E;have h1:=dZ ab;refine YM.new hr (f:=fun b=> .pointer<|some ⟨b,0,none⟩) hn hT (tK h1) I ?_ fun r' L=>by simp only [den,L]
       simp [execOp,Instr.box,newVar,newRow]
     · cases E
   · cases E
 · split at E
   · rename_i O hn;cases E;obtain ⟨r',aB,L⟩:=hr.cJ hn hT 0 (w':= {w with heap:=w.heap.push<|.map #[] 0}) rfl rfl rfl fun r' hle _=>⟨#[],0,rfl,trivial,by simp⟩
     refine ⟨r',.map (some w.heap.size),_,by simp only [den,aB],.inl ?_,L⟩;simp [execOp,Instr.makeMap]
   · cases E
 · rename_i t n ps;split at E
   · rename_i e s ar aq Z;replace E:=aX E; obtain ⟨I,E⟩:=E;have I:=bJ I;split at E
     · rename_i l ax;replace E:=aX E; obtain ⟨h1,E⟩:=E;split at E
       · rename_i O hn;cases E;obtain ⟨i,zv,hu,hi,aj,rfl,rfl,ac,an,ak,ap,aF⟩:=r5 (r:=r) Z;obtain ⟨C,av,ae⟩:=FH (N:=N) (σ:=σ) (t:=t) (e:=e) an ac ak ax ab;refine YM.new hr (f:=fun b=> .slice (some ⟨b,0,none⟩) n n) hn hT av h1 ?_ fun r' L=>yP L<|aZ _;have aH:(ps.toArray.map fun p=>(p.1,ev N σ p.2)).toList=ps.map fun p=>(p.1,ev N σ p.2):=by simp
         by_cases am:n*i.size=0
         · have aA:n=0:=by rcases Nat.mul_eq_zero.1 am with h | h; exact h; omega
           subst aA;have al:∀ f:Nat→ag,Array.map f (og 0)= #[]:=fun f=>Array.eq_empty_of_size_eq_zero<|by simp
           rw [td,al] at ae;simp [execOp,sI,bp hu,sizeOf,cU hi,al,ae,newRow]
         · simp only [execOp,sI,hH,bp hu,gD,sizeOf,cU hi,kn,Sem.run_ite,zeroValue,aj,iC,ae];rw [if_neg (by rw [show (2:Nat) ^ 24=16777216 from rfl]; omega),if_neg am];simp [newRow]
       · cases E
     · cases E
   · cases E
 · rename_i t _ _;split at E
   · rename_i n c;split at E
     · rename_i e s ar aq Z;replace E:=aX E; obtain ⟨I,E⟩:=E;simp only [a9] at I;have c1:=bJ I.1;have c2:=bJ I.2.1;have c3:=cn.1 I.2.2;split at E
       · rename_i O hn;cases E;obtain ⟨i,zv,hu,hi,aj,rfl,rfl,ac,an,ak,ap,aF⟩:=r5 (r:=r) Z;have ao:=run_make (P:=P) w t e i zv hu hi aj .i64 .i64 n c U U (by rw [← Int.natCast_mul]; omega) U;have au:madeCells zv.cells (c*i.size)=((cZ c zv.cells.toList).flatten).toArray:=by
          have :=vp zv.cells U c;rw [ac] at this;rw [← this]; unfold madeCells; rw [ac]
         rw [fO,fO,au] at ao;refine YM.new hr (f:=fun b=> .slice (some ⟨b,0,none⟩) n c) hn hT (rN ak c) (vu ap c) ?_ fun r' L=>yP L c1;obtain ⟨h1,V⟩:=gq ab;have aD:=cE h1;have aE:=cE V;simp [execOp,aD,aE,ao]
       · cases E
     · cases E
   · cases E
 · split at E
   · split at E
     · rename_i O aC;cases E;obtain ⟨h1,V⟩:=gq ab;exact IQ hr aC V h1 J
     · cases E
   · cases E
 · split at E
   · replace E:=aX E; obtain ⟨I,E⟩:=E;split at E
     · rename_i O hp;cases E;obtain ⟨h1,V,ad⟩:=kH ab;obtain ⟨q,ah,hu⟩:=lO h1;obtain ⟨w',ai,L⟩:=AT hr (bJ I) hp ah V ad;exact ⟨r,undef,w',gH r,.inr ⟨by simp [execOp,hu,ai],J⟩,L⟩
     · cases E
   · cases E
 · split at E
   · replace E:=aX E; obtain ⟨I,E⟩:=E;split at E
     · rename_i O hp;cases E;obtain ⟨h1,V,ad⟩:=kH ab;obtain ⟨q,ah,hu⟩:=lO h1;obtain ⟨w',ai,L⟩:=AT hr (bJ I) hp ah V ad;exact ⟨r,undef,w',gH r,.inr ⟨by simp [execOp,hu,ai],J⟩,L⟩
     · cases E
   · cases E
 · cases E
end
end Go.Hb
namespace Go.Hb
def sm:List UInt8→List AV
 | []=> []
 | c::l=> .int .u8 (jK c.toNat)::sm l
def oV (o:Nat):Ck→Ck
 | .a=> .a
 | _=>match o with
   | 0=> .z
   | _=> .a
theorem yr {o:Nat} {e:Ck} :oV o e≠.x:=by
 cases e <;> simp only [oV] <;> first | (intro h; cases h; done) | (split <;> intro h <;> cases h)
theorem Et {o:Nat} {e:Ck} (h:oV o e≠.a):e≠.a∧o=0:=by
 cases e with
 | a=>exact absurd rfl h
 | _=>
   refine ⟨fun h=>(by cases h),?_⟩;simp only [oV] at h;split at h
   · rfl
   · exact absurd J h
def vW (P:ar) (s:Nat) (C:aq) (x:AV) (h:Hp):Option (Nat×List AV):=match x with
 | .sl b o n _ _=>match h.t.get b with
   | some (.cells l _ _ _)=>cond (iZ P C && ba (o+n*s) l.length) (some (n,(l.drop o).take (n*s))) none
   | _=>none
 | .az=>cond (iZ P C) (some (0,[])) none
 | .str l=>cond (isStr P C && aN s 1) (some (l.length,sm l)) none
 | _=>none
def tA (P:ar) (G:Nat) (t E:aq) (C I:AV) (h:Hp):Option (AV×Hp):=match nZ P t with
 | some (e,s,by_,_)=>match vW P s E I h with
   | some (m,news)=>cond (dF news) (match C with
     | .az=>match m with
       | 0=>some (.az,h)
       | _=>cond (ba (m*by_) 140737488355328 && ba m 1000000000) (match cJ h (.cells news e 0 .z) with
         | some h'=>some (.sl h.nx 0 m 0 false,h')
         | none=>none) none
     | .sl b o n c x=>match m with
       | 0=>some (.sl b o n c x,h)
       | _=>match h.t.get b with
         | some (.cells l e' fz ex)=>cond ((aN e e' && (ba ((n+m)*by_) 140737488355328 && ba (n+m) 1000000000)) && (ba (o+n*s) l.length && (ba G b && aD b bT)))
           (cond x (cond (ba (n+m) c)
            (cond (ba (o+(n+m)*s) l.length && ba fz (o+n*s)) (some (.sl b o (n+m) c true,⟨h.t.set b (.cells (l.take (o+n*s)++(news++l.drop (o+(n+m)*s))) e fz ex),h.nx⟩)) none)
            (match cJ h (.cells ((l.drop o).take (n*s)++news) e 0 .z) with
             | some h'=>some (.sl h.nx 0 (n+m) 0 false,h')
             | none=>none))
            (cond (aN o (c*s) && ba fz (o+n*s)) (match cJ ⟨h.t.del b,h.nx⟩ (.cells ((l.drop o).take (n*s)++news) e (fz - o)<|oV o ex) with
             | some h'=>some (.sl h.nx 0 (n+m) 0 false,h')
             | none=>none) none)) none
         | _=>none
     | _=>none) none
   | none=>none
 | none=>none
section
variable {P:ar} {G:Nat} {r:Rn} {T:Nat} {h:Hp} {w:ah} {N:Fm} {σ:Nat→ag} {dst:Option Nat} {ty:aq} {pos :String} {af:Array cq} {g:Option (Nat×Bool)} {x y z:aY}
theorem BX:∀ l:List UInt8,aI r (sm l)=some (U8 l)
 | []=>by simp [sm,aI,U8]
 | c::l=>dx rfl (BX l)
theorem ID (hr:HR P G r T h w) {s m:Nat} {U:aq} {x:AV} {news:List AV} {u:ag} (he:vW P s U x h=some (m,news)) (h1:dF news=true) (hu:den r x=some u):∃ N,aI r news=some N∧Src P s U u m N w:=by
 unfold vW at he;split at he
 · rename_i b o n ab ac;split at he
   · rename_i l _ _ _ hb;replace he:=aX he; obtain ⟨C,he⟩:=he;simp only [a9] at C;cases he;obtain ⟨q,us,Z,L,V,_⟩:=hr.cells hb;obtain ⟨q',cap,O,hn,rfl,_⟩:=gJ hu;rw [Z] at O; cases O;obtain ⟨e',I⟩:=ph C.1;have hle:=bJ C.2;have hlen:=cP L;have J:=ik (m*s)<|iQ o L;refine ⟨_,J,Src.ofSlice w I _ _ _ _ (by simp; omega) (fun j u E=> ?_)<|nC J h1⟩;rw [fh,iP,jk];rw [ib] at E;split at E
     · rw [iG] at E; exact V _ _ E
     · cases E
   · cases he
 · replace he:=aX he; obtain ⟨C,he⟩:=he;cases he;obtain rfl :=gv hu;obtain ⟨e',I⟩:=ph C;exact ⟨[],by simp [aI],Src.ofNil w I 0⟩
 · replace he:=aX he; obtain ⟨C,he⟩:=he;simp only [a9] at C;cases he;obtain rfl :=fU hu;obtain rfl :=bH C.2;exact ⟨_,BX _,Src.ofString w (kQ C.1) ⟨⟨_⟩⟩⟩
 · cases he
theorem xW {t L ty e:aq} {i:TypeInfo} (J:P.underlying t=some (.slice e)) (hi:P.info? e=some i) {x:ag} {news:List ag} (C:Src P i.size L x 0 news w) {base:Option Addr} {n c:Nat} (hn:n≤c):
 (jh #[t,L] ty #[.slice base n c,x]).run P w= .ok (.slice base n c) w:=by
 have O:news= []:=kr<|by rw [C.newsLen]; simp
 subst O;have I:=C.cells;cases base with
 | none=>rcases C.kind with ⟨e',E⟩ | E <;> simp [jh,run_underlying J,run_underlying E,sizeOf,typeInfo,hi,C.len,hn,I]
 | some a=>rcases C.kind with ⟨e',E⟩ | E <;> simp [jh,run_underlying J,run_underlying E,sizeOf,typeInfo,hi,C.len,hn,I,storeCells]
theorem xX {t I ty e:aq} {i:TypeInfo} (J:P.underlying t=some (.slice e)) (hi:P.info? e=some i) {x:ag} {m:Nat} {news:List ag} (C:Src P i.size I x m news w) {b off n c:Nat} {cur:Array ag} {fz:Nat×Nat} (hn:n+m≤c)
 (hb:w.heap[b]? =some (.cells cur e fz)) (L:fz.2≤off+n*i.size) (O:off+n*i.size+news.length≤cur.size):
 (jh #[t,I] ty #[.slice (some ⟨b,off,none⟩) n c,x]).run P w= .ok (.slice (some ⟨b,off,none⟩) (n+m) c) (w.setRow b (cur.toList.take (off+n*i.size)++news++cur.toList.drop (off+n*i.size+news.length)).toArray):=by
 have bg:=run_storeCells_atF P b (off+n*i.size) e fz news 0 cur w hb U U C.one;simp only [jl] at bg;rcases C.kind with ⟨e',E⟩ | E <;> simp [jh,run_underlying J,run_underlying E,sizeOf,typeInfo,hi,C.len,hn,C.cells,Addr.add_lit,bg]
theorem vE (L X:List ag) (a:Nat) (h:a+X.length≤L.length) (k:Nat):(L.take a++X++L.drop (a+X.length))[k]? =if k < a then L[k]? else if k < a+X.length then X[k - a]? else L[k]? :=by
 by_cases C:k < a
 · rw [if_pos C,hJ,eF (by simp; omega),ib,if_pos C]
 · rw [if_neg C];by_cases E:k < a+X.length
   · rw [if_pos E,eF (by simp; omega),eQ (by simp; omega)];congr 1; simp; omega
   · rw [if_neg E,eQ (by simp; omega),iG];simp only [bQ,cC];congr 1; omega
theorem xV {t C ty e:aq} {i:TypeInfo} {z:ag} (L:P.underlying t=some (.slice e)) (hi:P.info? e=some i) (O:i.zero=some z) (V:z.cells.size=i.size) (ac:0 < i.size) {x:ag} {m:Nat} {olds news:List ag} (I:Src P i.size C x m news w) {base:Option Addr} {n c:Nat}
 (J:olds.length=n*i.size) (hold:(sF i.size n<|.slice base n c).run P w.drew= .ok olds.toArray w.drew) (ab:∀ u∈olds,u.oneCell'=true) (hg:c < n+m) (Z:n+m≤1000000000) (hb:(n+m)*i.bytes≤140737488355328):
 ∃ (cap:Nat) (cs:Array ag),n+m≤cap∧cap*i.size=cs.size∧(∀ (j:Nat) (u:ag),(olds++news)[j]? =some u→cs[j]? =some u)∧(jh #[t,C] ty #[.slice base n c,x]).run P w= .ok (.slice (some ⟨w.heap.size,0,none⟩) (n+m) cap) {w.drew with heap:=w.heap.push<|.cells cs e (0,0)} :=by
 have hr:=run_append_grow_src (P:=P) w t C ty e i z L hi O base n c olds hold x m news I hg U<|growslice_fits hg hb;refine ⟨_,_,grownCap_ge w (n+m) c e,?_,?_,hr⟩
 · have :=grownCap_ge w (n+m) c e;simp only [Array.size_append,dY,size_zeroCells,V,bQ,J,I.newsLen,← ly];congr 1; omega
 · intro j u E;rw [Array.getElem?_append_left (by have :=(cH.1 E).1; simpa using this)];simpa using E
theorem FI (hr:HR P G r T h w) {b o n c s:Nat} {x:Bool} {l:List AV} {e fz:Nat} {ex:Ck} {us:List ag} {q:Loc} (hb:h.t.get b=some (.cells l e fz ex)) (O:r b=some q) (E:aI r l=some us) (hle:o+n*s≤l.length) (cap:Nat):
 (sF s n<|.slice (some ⟨q.an,q.sh+o,none⟩) n cap).run P w.drew= .ok ((us.drop o).take<|n*s).toArray w.drew:=by
 obtain ⟨q',U,J,I,L,_⟩:=hr.cells hb;rw [O] at J; cases J;rw [E] at I; cases I;have hlen:=cP E;refine run_firstCells_some (P:=P) w.drew s n _ n cap _ (by simp; omega) fun j u C=> ?_;rw [fh,iP,jk];rw [ib] at C;split at C
 · rw [iG] at C; exact L _ _ C
 · cases C
theorem D3 (hr:HR P G r T h w) {t au:aq} {a3 a5 v:AV} {h':Hp} (ha:tA P G t au a3 a5 h=some (v,h')) (hT:h'.nx≤T) (aC:den r a3=some (ev N σ x)) (bw:den r a5=some (ev N σ y)):YM P G r T N σ ⟨dst,.call ⟨.builtin .append,#[x,y],#[t,au]⟩,ty,pos,af,g⟩ h w v h':=by
 have ak:∀ {u:ag} {w':ah},(jh #[t,au] ty #[ev N σ x,ev N σ y]).run P w= .ok u w'→(execOp (ev N σ) ⟨dst,.call ⟨.builtin .append,#[x,y],#[t,au]⟩,ty,pos,af,g⟩).run P w= .ok (.value u) w':=by
  intro u w' h;simp [execOp,resolve,invoke,builtin,h]
 unfold tA at ha;split at ha
 · rename_i e s bB bN bx;obtain ⟨i,zv,hu,hi,a0,rfl,rfl,a1,aW,bI,bL,bK⟩:=r5 (r:=r) bx;split at ha
   · rename_i m news bu;replace ha:=aX ha; obtain ⟨aU,ha⟩:=ha;obtain ⟨Nw,ap,Z⟩:=ID hr bu aU bw;have bh:=cP ap;have aM:=nC ap aU;split at ha
     · have ad:=gv aC;split at ha
       · cases ha;exact ⟨r,_,w,aC,.inl (ak<|by rw [ad]; exact xW hu hi Z<|aZ _),St.refl hr⟩
       · rename_i aK;replace ha:=aX ha; obtain ⟨E,ha⟩:=ha;simp only [a9] at E;have c1:=bJ E.1;have c2:=bJ E.2;have hm:0 < m:=Dx fun e=>aK<|by rw [e]
         split at ha
         · rename_i ab hn;cases ha;obtain ⟨cap,cs,ae,al,aw,ax⟩:=xV (w:=w) (ty:=ty) (base:=none) (n:=0) (c:=0) (olds:= []) hu hi a0 a1 aW Z (by simp) (run_firstCells_none (P:=P) w.drew i.size 0 0 0) (by simp) U U<|by rw [cy]; exact c1
           rw [cy] at ae ax;rw [List.nil_append] at aw;obtain ⟨r',aA,bg⟩:=hr.cJ hn hT cap (w':= {w.drew with heap:=w.heap.push<|.cells cs e (0,0)}) rfl rfl rfl fun r' hle _=>by
            refine ⟨cs,(0,0),Nw,J,gr hle ap,?_,fun j u C=>by rw [cy]; exact aw j u C,by simp,aM,⟨(fun h=>by cases h),fun _=>rfl⟩,fun s I=> ?_⟩
            · rw [cy,← bh,Z.newsLen,← al]; exact iH _ ae
            · have :s=i.size:=by unfold bY at I; rw [hi] at I; simpa using I.symm
              rw [this,cy,al]; exact aZ _
           refine ⟨r',_,_,?_,.inl (ak<|by rw [ad]; exact ax),bg⟩;rw [na aA (by simpa using ae)]; simp
         · cases ha
     · rename_i b o n c a4;obtain ⟨q,cap,ai,bq,ad,bl,bj⟩:=gJ aC;split at ha
       · cases ha;exact ⟨r,_,w,aC,.inl (ak<|by rw [ad]; exact xW hu hi Z bq),St.refl hr⟩
       · rename_i aK;have hm:0 < m:=Dx fun e=>aK<|by rw [e]
         split at ha
         · rename_i l e' fz ex hb;replace ha:=aX ha; obtain ⟨E,ha⟩:=ha;simp only [a9] at E;obtain ⟨⟨c1,c2,c3⟩,aD,av,c6⟩:=E;obtain rfl :=bH c1;have c2:=bJ c2;have c3:=bJ c3;have aD:=bJ aD;have av:=bJ av;obtain ⟨q',aj,cc,fr,us,h1,ac,bD,aE,bc,aF,aG,aP⟩:=hr.live b _ hb;rw [ai] at aj; cases aj;have bG:=cP ac;have bn:=FI (s:=i.size) (x:=a4) (c:=c) hr hb ai ac aD;have holds:=ik (n*i.size)<|iQ o ac;have aL:((us.drop o).take<|n*i.size).length=n*i.size:=by simp; omega
           have aV:∀ u∈(us.drop o).take (n*i.size),u.oneCell'=true :=fun u hu=>aF u<|sV<|sW hu;have ay:=eI holds ap;have aR:∀ u∈(us.drop o).take (n*i.size)++Nw,u.oneCell'=true :=fun u hu=>(gj.1 hu).elim (aV u)<|aM u;have aS:∀ s,bY P e=some s→s=i.size:=fun s I=>by unfold bY at I; rw [hi] at I; simpa using I.symm
           have aT:((us.drop o).take (n*i.size)++Nw).length=(n+m)*i.size:=by rw [bQ,aL,Z.newsLen,ly]
           have grow:∀ {h0 ab:Hp} {aO:Nat} {ck:Ck},ck≠.x→HR P G r T h0 w→St P G T r h w r h0 w→h0.nx=h.nx→cap < n+m→Hb.cJ h0 (.cells ((l.drop o).take (n*i.size)++news) e aO ck)=some ab→ab.nx≤T→
            YM P G r T N σ ⟨dst,.call ⟨.builtin .append,#[x,y],#[t,au]⟩,ty,pos,af,g⟩ h w (.sl h.nx 0 (n+m) 0 false) ab:=by
            intro h0 ab aO ck bi bt bv br hg hn hT;obtain ⟨a6,cs,ae,al,aw,ax⟩:=xV (w:=w) (ty:=ty) (base:=some ⟨q.an,q.sh+o,none⟩) (n:=n) (c:=cap) hu hi a0 a1 aW Z aL (bn cap) aV hg c3 c2;obtain ⟨r',aA,bg⟩:=bt.cJ hn hT a6 (w':= {w.drew with heap:=w.heap.push<|.cells cs e (0,0)}) rfl rfl rfl fun r' hle _=>by
             refine ⟨cs,(0,0),_,J,gr hle ay,?_,fun j u C=>by rw [cy]; exact aw j u C,by simp,aR,⟨fun h=>absurd h bi,fun _=>rfl⟩,fun s I=> ?_⟩
             · rw [cy,← cP ay,aT,← al]; exact iH _ ae
             · rw [aS s I,cy,al]; exact aZ _
            rw [br] at aA;refine ⟨r',_,_,?_,.inl (ak<|by rw [ad]; exact ax),St.trans bv bg⟩;rw [na aA (by simpa using ae)]; simp
           cases a4
           · obtain ⟨rfl,bF⟩:=bj rfl;simp only [cond_false] at ha;replace ha:=aX ha; obtain ⟨E,ha⟩:=ha;simp only [a9] at E;have d1:=bH E.1;have d2:=bJ E.2;split at ha
             · rename_i ab hn;cases ha;have aB:=hr.del c6;have aY:St P G T r h w r ⟨h.t.del b,h.nx⟩ w:=⟨Rn.le_refl r,aB,aZ _,Md.refl _ _,fun g _ k _ aI=>by
                obtain ⟨j,a2,q',bd,C,aj,rfl⟩:=aI;rw [Tr.ns _ _ _ c6] at C;split at C
                · cases C
                · exact ⟨j,a2,q',bd,C,aj,J⟩,fun _ _=>rfl⟩
               by_cases V:n+m≤q.room - c
               ·
                have bE:=aP i.size<|by unfold bY; rw [hi]; rfl
                have bC:q.sh+o+(n+m)*i.size≤cc.size:=by
                 have :(c+(n+m))*i.size≤q.room*i.size:=iH _ U;rw [ly] at this;omega
                have a7:Nw.length=m*i.size:=Z.newsLen;have a8:(n+m)*i.size=n*i.size+m*i.size:=ly _ _ _;have ar:=xX (w:=w) (ty:=ty) (off :=q.sh+o) hu hi Z V h1 U U;unfold Hb.cJ at hn;replace hn:=aX hn; obtain ⟨aH,hn⟩:=hn;cases hn;simp only at hT aH;have hle:=Rn.pk (i:=h.nx) ⟨q.an,q.sh+o,q.room - c⟩<|hr.new h.nx (aZ _) U;obtain ⟨L,am⟩:∃ L,cc.toList.take (q.sh+o+n*i.size)++Nw++cc.toList.drop (q.sh+o+n*i.size+Nw.length)=L:=⟨_,rfl⟩
                have ao:=vE cc.toList Nw (q.sh+o+n*i.size)<|by simp; omega
                rw [am] at ar ao;have bf:L.length=cc.size:=by rw [← am]; simp; omega
                have aJ:=setRow_heap w q.an _ L.toArray e _ h1;have aQ:∀ g,g≤G→Fr g r h q.an:=fun g hg=>⟨b,_,q,cS hg av,hb,ai,rfl⟩
                refine ⟨r.ext h.nx ⟨q.an,q.sh+o,q.room - c⟩,_,w.setRow q.an L.toArray,?_,.inl (ak<|by rw [ad]; exact ar),⟨hle,aB.put hle aH (Rn.fW _ _ _) ?_ (fun k O _=>setRow_other w q.an k _ O) ?_ (kA _) (fun k O bp=> ?_),kA _,⟨J,J,by simp,fun k _ O=>setRow_other w q.an k _ fun e=>O<|by rw [e]; exact aQ G<|aZ _⟩,fun g hg k O aI=> ?_,fun k O=>Rn.iU _ _<|by simp only at O; omega⟩⟩
                · rw [na (Rn.fW _ _ _) (by simpa using V)]; simp
                · rw [aJ];refine ⟨L.toArray,fr,_,J,gr hle ay,?_,fun j u C=> ?_,by simp only; omega,aR,⟨fun h=>absurd h yr,fun h=>by obtain ⟨h1,ac⟩:=Et h; simp only; rw [aG.2 h1,ac]⟩,fun s I=> ?_⟩
                  · rw [← cP ay,aT]; simp only [dY]; omega
                  · simp only [ku];rw [ao];by_cases aN:j < n*i.size
                    · rw [eF U,ib,if_pos aN,iG] at C;rw [if_pos U,oe,jk]; exact aE _ _ C
                    · rw [eQ U,aL] at C;have :=(cH.1 C).1;rw [if_neg U,if_pos U,show q.sh+o+j - (q.sh+o+n*i.size)=j - n*i.size from by omega]; exact C
                  · rw [aS s I];simp only [dY];have :(c+(q.room - c))*i.size=q.room*i.size:=by congr 1; omega
                    rw [ly] at this;omega
                · intro j a2 q' C hg aj he;rw [Tr.ns _ _ _ c6] at hg;split at hg
                  · cases hg
                  · rename_i bo;exact bo<|hr.inj j b _ _ _ _ hg hb aj ai he
                · rw [Rn.iU _ _ (by simp only at O; omega)]; exact hr.new k (by simp only at O; omega) bp
                · rcases Fr.set aH (Rn.fW _ _ _) hle aB aI with h1 | h1
                  · rw [h1]; exact aQ g hg
                  · exact aY.dE g hg k O h1
               · exact grow yr aB aY J U hn hT
             · cases ha
           · obtain rfl :=bl rfl;simp only [cond_true] at ha;cases V:ba (n+m) cap
             · rw [V] at ha;simp only [cond_false] at ha;split at ha
               · rename_i ab hn;cases ha;exact grow (fun h=>by cases h) hr (St.refl hr) J (by
                  rcases di cap (n+m) with h | h
                  · exact h
                  · rw [xD h] at V; cases V) hn hT
               · cases ha
             · rw [V] at ha;simp only [cond_true] at ha;replace ha:=aX ha; obtain ⟨E,ha⟩:=ha;simp only [a9] at E;have d1:=bJ E.1;have d2:=bJ E.2;have V:=bJ V;cases ha;have a7:Nw.length=m*i.size:=Z.newsLen;have a8:(n+m)*i.size=n*i.size+m*i.size:=ly _ _ _;have ar:=xX (w:=w) (ty:=ty) (off :=q.sh+o) hu hi Z V h1 U U;obtain ⟨L,am⟩:∃ L,cc.toList.take (q.sh+o+n*i.size)++Nw++cc.toList.drop (q.sh+o+n*i.size+Nw.length)=L:=⟨_,rfl⟩
               have ao:=vE cc.toList Nw (q.sh+o+n*i.size)<|by simp; omega
               rw [am] at ar ao;have bf:L.length=cc.size:=by rw [← am]; simp; omega
               have aJ:=setRow_heap w q.an _ L.toArray e _ h1;refine ⟨r,_,w.setRow q.an L.toArray,kI ai V,.inl (ak<|by rw [ad]; exact ar),hr.j7 hb c6 ai av ?_ ⟨J,J,by simp,fun k _ O=>setRow_other w q.an k _ O⟩⟩;rw [aJ];have bm:=eI (ik (o+n*i.size) ac)<|eI ap<|iQ (o+(n+m)*i.size) ac;refine ⟨L.toArray,fr,_,J,bm,?_,fun j u C=> ?_,bc,?_,⟨fun hex=> ?_,aG.2⟩,fun s I=> ?_⟩
               · simp only [bQ,cC,ic,dY]; omega
               · simp only [ku];rw [ao];by_cases aN:j < o+n*i.size
                 · rw [eF (by simp; omega),ib,if_pos aN] at C;rw [if_pos U,oe]; exact aE _ _ C
                 · rw [eQ (by simp; omega)] at C;have bb:(us.take<|o+n*i.size).length=o+n*i.size:=by simp; omega
                   rw [bb] at C;rw [if_neg U];by_cases bM:j < o+(n+m)*i.size
                   · rw [eF U] at C;rw [if_pos U,show q.sh+j - (q.sh+o+n*i.size)=j - (o+n*i.size) from by omega]; exact C
                   · rw [eQ U,iG] at C;rw [if_neg U,oe];refine aE j u ?_;rw [← C]; congr 1; omega
               · intro a ha;rcases gj.1 ha with ha | ha
                 · exact aF a<|sW ha
                 · rcases gj.1 ha with ha | ha
                   · exact aM a ha
                   · exact aF a<|sV ha
               · obtain ⟨bz,x2,bA⟩:=aG.1 hex;refine ⟨bz,?_,bA⟩;simp only [bQ,cC,ic,dY]; omega
               · have :=aP s I;simp only [dY]; omega
         · cases ha
     · cases ha
   · cases ha
 · cases ha
end
end Go.Hb
namespace Go.Hb
def wb (P:ar) (G:Nat) (t:aq) (b o n c i:Nat) (h:Hp):Option (AV×Hp):=match cT P t with
 | some e=>cond (aN i n && (ba G b && aD b bT)) (match h.t.get b with
   | some (.cells l t' fz ex)=>match bY P t' with
     | some e'=>cond (aN e e' && (aN o (c*e) && ba (o+n*e) l.length)) (match cJ ⟨h.t.del b,h.nx⟩ (.cells [] t' fz .a) with
       | some h'=>some (.sl h.nx 0 0 0 false,h')
       | none=>none) none
     | none=>none
   | _=>none) none
 | none=>none
def vd (P:ar) (t:aq) (n i j:Nat) (h:Hp):Option (AV×Hp):=match cT P t with
 | some _=>cond (aN i n && (aN j n && aD h.nx bT)) (some (.sl h.nx 0 0 0 false,⟨h.t,h.nx+1⟩)) none
 | none=>none
def tN (P:ar) (G:Nat) (t:aq) (x:AV) (h:Hp):Option (AV×Hp):=match x with
 | .az=>cond (iZ P t) (some (.bP [],h)) none
 | .sl b o n c q=>match nZ P t with
   | some (e,s,_,zs)=>match n with
     | 0=>some (.bP [],h)
     | _=>match h.t.get b with
       | some (.cells l e' fz ex)=>cond ((ba (o+n*s) l.length && ba fz o) && (ba G b && aD b bT)) (some (.bP [],⟨h.t.set b (.cells (l.take o++(jA zs n++l.drop (o+n*s))) e' fz ex),h.nx⟩)) none
       | _=>none
   | none=>none
 | _=>none
def j3 (x:AV):List (AV×AV)→List (AV×AV)
 | []=> []
 | p::l=>cond (fk p.1 x) l (p::j3 x l)
def tY (P:ar) (G:Nat) (t:aq) (b:Nat) (k:AV) (h:Hp):Option (AV×Hp):=match h.t.get b with
 | some (.map l)=>match P.underlying t with
   | some (.map E e)=>match lX P E k with
     | some C=>cond ((ba G b && aD b bT) && (dm C k && ez C l)) (some (.bP [],⟨h.t.set b (.map<|j3 k l),h.nx⟩)) none
     | none=>none
   | _=>none
 | _=>none
def wN (P:ar) (G:Nat) (C:aq) (x y:AV) (h:Hp):Option (AV×Hp):=match x,y with
 | .ptr _ _,.int .i64 0=>some (.str [],h)
 | .fZ,.int .i64 0=>some (.str [],h)
 | .ptr b 0,.int .i64 (.ofNat n)=>match h.t.get b with
   | some (.cells l e fz ex)=>match ex with
     | .a=>none
     | _=>cond ((ptrTo P C e && (ba n l.length && (aD 0 n && aD n 1000000000))) && (ba G b && aD b bT)) (match me (l.take n) with
       | some m=>some (.str m,⟨h.t.set b (.cells l e (max fz n) .z),h.nx⟩)
       | none=>none) none
   | _=>none
 | _,_=>none
def rI (P:ar) (G:Nat) (o:Op) (xs:List AV) (h:Hp):Option (AV×Hp):=match o with
 | .call ⟨.builtin .append,_,⟨[t,tx]⟩⟩=>match xs with
   | [s,x]=>tA P G t tx s x h
   | _=>none
 | .call ⟨.builtin .clear,_,⟨[t]⟩⟩=>match xs with
   | [x]=>tN P G t x h
   | _=>none
 | .call ⟨.builtin .delete,_,⟨[t,_]⟩⟩=>match xs with
   | [.map b,k]=>tY P G t b k h
   | _=>none
 | .call ⟨.builtin .unsafeSliceData,_,_⟩=>match xs with
   | [.az]=>some (.fZ,h)
   | [.sl b o n c x]=>cond (aD 0 n) (some (.ptr b o,h)) none
   | _=>none
 | .call ⟨.builtin .unsafeString,_,⟨[pt,_]⟩⟩=>match xs with
   | [x,y]=>wN P G pt x y h
   | _=>none
 | .slice t _ (some _) none none=>match xs with
   | [.sl b o n c false,.int _ (.ofNat i)]=>wb P G t b o n c i h
   | _=>none
 | .slice t _ (some _) (some _) none=>match xs with
   | [.sl b o n c false,.int _ (.ofNat i),.int _ (.ofNat j)]=>vd P t n i j h
   | _=>none
 | _=>none
inductive AD | mark (D:Nat) | fn (f:Nat) (args:List AV)
inductive EX | bX | ret | ext (id:Nat)
inductive Tk
 | cd (rd:Option Nat) (n:Nat) (c:bF) (fr:Tr AV) (D:List AD) (h:Hp)
 | lp (rd:Option Nat) (n:Nat) (c:bF) (fr:Tr AV) (D:List AD) (h:Hp)
 | cl (f:Nat) (args:List AV) (h:Hp)
 | yl (l:Nat) (args:List AV) (h:Hp)
 | df (f:Nat) (args:List AV) (h:Hp)
inductive Rs | no | cd (e:EX) (fr:Tr AV) (D:List AD) (h:Hp) | rv (v:AV) (h:Hp)
inductive Ro | no | v (x:AV) (h:Hp) | d (a:AD)
abbrev Xt:=Nat→Option (List AV→Hp→Option (AV×Hp))
def eY (n:Nat) (fr:Tr AV) (d:Option Nat) (v:AV):Option (Tr AV):=match d with
 | none=>some fr
 | some d=>cond (aD d n && aD d bT) (some<|fr.set d v) none
def qK (X:Xt) (ih:Tk→Rs) (f:AV) (args:List AV) (h:Hp):Ro:=match f with
 | .fn f a c=>match X f with
   | some e=>match e (a++(args++c)) h with
     | some (v,h)=> .v v h
     | none=> .no
   | none=>match ih (.cl f (a++(args++c)) h) with
     | .rv v h=> .v v h
     | _=> .no
 | .fM l=>match ih (.yl l args h) with
   | .rv v h=> .v v h
   | _=> .no
 | _=> .no
def pC (P:ar) (G:Nat) (X:Xt) (ih:Tk→Rs) (o:Op) (xs:List AV) (h:Hp):Ro:=match l8 P o xs with
 | some v=> .v v h
 | none=>match iw P o xs h with
   | some v=> .v v h
   | none=>match o with
     | .call ⟨.value _,_,_⟩=>match xs with
       | f::args=>qK X ih f args h
       | []=> .no
     | .defer ⟨.value _,_,_⟩=>match xs with
       | .fn f a c::args=> .d<|.fn f<|a++(args++c)
       | _=> .no
     | _=>match nE P G o xs h with
       | some (v,h)=> .v v h
       | none=>match rI P G o xs h with
         | some (v,h')=>cond (ba h.nx h'.nx) (.v v h') .no
         | none=> .no
inductive Gd | y | n | no
def iV (n:Nat) (ops:List aC) (fr:Tr AV) (g:Option (Nat×Bool)):Gd:=match g with
 | none=> .y
 | some (j,want)=>match ops[j]? with
   | some o=>match o.dst with
     | some t=>cond (aD t n) (match cQ fr t with
       | .bool b=>cond (b==want) .y .n
       | .bP []=> .n
       | _=> .no) .no
     | none=> .no
   | none=> .no
def je (P:ar) (G:Nat) (X:Xt) (ih:Tk→Rs) (rd:Option Nat) (n:Nat) (ops:List aC):List aC→Tr AV→List AD→Hp→Rs
 | [],fr,D,h=> .cd .bX fr D h
 | o::l,fr,D,h=>match iV n ops fr o.guard with
   | .y=>match jz G n fr (fu o.op) with
     | some xs=>match pC P G X ih o.op xs h with
       | .v v h=>match eY n fr o.dst v with
         | some fr=>je P G X ih rd n ops l fr D h
         | none=> .no
       | .d a=>match rd with
         | none=>match eY n fr o.dst (.bP []) with
           | some fr=>je P G X ih rd n ops l fr (a::D) h
           | none=> .no
         | some _=> .no
       | .no=> .no
     | none=> .no
   | .n=>match eY n fr o.dst (.bP []) with
     | some fr=>je P G X ih rd n ops l fr D h
     | none=> .no
   | .no=> .no
def gL:Nat→List AV→Tr AV→Tr AV
 | _,[],fr=>fr
 | i,v::l,fr=>gL (i+1) l<|fr.set i v
def ma (n:Nat):List Nat→List AV→Tr AV→Option (Tr AV)
 | [],[],fr=>some fr
 | p::ps,v::vs,fr=>match eY n fr (some p) v with
   | some fr=>ma n ps vs fr
   | none=>none
 | _,_,_=>none
def gT (P:ar) (n:Nat) (fr:Tr AV) (h:Hp):List ResultVar→Option (List AV)
 | []=>some []
 | .tmp t::l=>match gT P n fr h l with
   | some vs=>cond (aD t n) (some (cQ fr t::vs)) none
   | none=>none
 | .cell a t::l=>match gT P n fr h l with
   | some vs=>cond (aD a n) (match rn P t (cQ fr a) h with
     | some v=>some (v::vs)
     | none=>none) none
   | none=>none
def l9:List AV→AV
 | [v]=>v
 | vs=> .bP vs
def jc (G:Nat) (ih:Tk→Rs):List AD→Hp→Option Hp
 | [],h=>some h
 | .mark d::l,h=>match h.t.get d with
   | some (.jU true)=>cond (ba G d && aD d bT) (jc G ih l ⟨h.t.set d (.jU false),h.nx⟩) none
   | _=>none
 | .fn f args::l,h=>match ih (.df f args h) with
   | .rv _ h=>jc G ih l h
   | _=>none
def zo:EX→Option bF
 | .bX=>none
 | .ret=>some .ret
 | .ext i=>some<|.exit i
def ni (G:Nat) (ih:Tk→Rs) (rd:Option Nat) (n:Nat) (fr:Tr AV) (D:List AD) (l:Nat) (h:Hp):Rs:=match h.t.get l with
 | some (.loop st C m E ps aR body d)=>match st with
   | .busy=> .no
   | _=>cond (ba G l && aD l bT) (match C with
     | none=> .cd .bX fr D ⟨h.t.set l (.loop .exhausted C m E ps aR body d),h.nx⟩
     | some c=>ih (.cd rd n c fr D ⟨h.t.set l (.loop .exhausted C m E ps aR body d),h.nx⟩)) .no
 | _=> .no
def nN (ih:Tk→Rs) (G:Nat) (rd:Option Nat) (n:Nat) (g:aY) (ps:List Nat) (aR body:bF) (fr:Tr AV) (D:List AD) (h:Hp):Rs:=match jy G n fr g with
 | some (.fn f a c)=>match rd with
   | none=>match cJ h (.jU true) with
     | some h1=>match cJ h1 (.loop .ready none n fr ps aR body h.nx) with
       | some C=>match ih (.cl f (a++(.fM h1.nx::c)) C) with
         | .rv _ E=>ni G ih rd n fr (.mark h.nx::D) h1.nx E
         | _=> .no
       | none=> .no
     | none=> .no
   | some I=>match h.t.get I with
     | some (.loop _ _ _ _ _ _ _ d)=>match cJ h (.loop .ready none n fr ps aR body d) with
       | some C=>match ih (.cl f (a++(.fM h.nx::c)) C) with
         | .rv _ E=>ni G ih rd n fr D h.nx E
         | _=> .no
       | none=> .no
     | _=> .no
 | _=> .no
def pY (G:Nat) (ih:Tk→Rs) (l:Nat) (args:List AV) (h:Hp):Rs:=match h.t.get l with
 | some (.loop .ready L n fr ps aR body d)=>match ma n ps args fr with
   | some fr=>match ih (.cd (some l) n aR fr [] h) with
     | .cd .bX fr [] h=>match h.t.get l with
       | some (.loop .ready O E C U I J d1)=>cond (ba G l && aD l bT) (match ih (.cd (some l) n body fr [] ⟨h.t.set l (.loop .busy O E C U I J d1),h.nx⟩) with
         | .cd e fr [] h=>match h.t.get l with
           | some (.loop .busy L E C ps aR body d)=>match e with
             | .bX=> .rv (.bool true) ⟨h.t.set l (.loop .ready none E C ps aR body d),h.nx⟩
             | e=> .rv (.bool false) ⟨h.t.set l (.loop .done (zo e) E C ps aR body d),h.nx⟩
           | _=> .no
         | _=> .no) .no
       | _=> .no
     | _=> .no
   | none=> .no
 | _=> .no
mutual
def ee:AV→AV→Bool
 | .bool a,.bool b=>a==b
 | .int k a,.int k' b=>cond (aN (du k)<|du k') (decide (a=b)) false
 | .str l,.str m=>gw l m
 | .ptr b o,.ptr b' o'=>aN b b' && aN o o'
 | .fZ,.fZ=>true
 | .sl b o n c x,.sl b' o' n' c' x'=>(aN b b' && aN o o') && (aN n n' && (aN c c' && (x==x')))
 | .az,.az=>true
 | .map b,.map b'=>aN b b'
 | .jv,.jv=>true
 | .fn f a c,.fn f' a' c'=>aN f f' && (iS a a' && iS c c')
 | .fM l,.fM l'=>aN l l'
 | .gR,.gR=>true
 | .eL t v,.eL t' v'=>aN t t' && ee v v'
 | .cW,.cW=>true
 | .agg l,.agg m=>iS l m
 | .bP l,.bP m=>iS l m
 | _,_=>false
def iS:List AV→List AV→Bool
 | [],[]=>true
 | a::l,b::m=>cond (ee a b) (iS l m) false
 | _,_=>false
end
def n4:List aY→List Nat
 | []=> []
 | .tmp t::l=>t::n4 l
 | _::l=>n4 l
def uB (ops:List aC) (g:Option (Nat×Bool)):List Nat:=match g with
 | none=> []
 | some (j,_)=>match ops[j]? with
   | some q=>match q.dst with
     | some t=> [t]
     | none=> []
   | none=> []
def nL (ops:List aC) (o:aC):List Nat:=uB ops o.guard++n4 (fu o.op)
def pq (t:Nat):List Nat→Bool
 | []=>false
 | u::l=>cond (aN t u) true<|pq t l
def rA (d:Option Nat) (l:List Nat):Bool:=match d with
 | some t=>pq t l
 | none=>false
def kW (l:List Nat) (i:Nat):Nat:=j5 l i 0
def kU (acc:List Nat):List cq→Nat
 | []=>0
 | e::l=>cond (dr .any e && aD e.on acc.length) (Nat.lor (Nat.lor (Nat.pow 2 e.on)<|kW acc e.on)<|kU acc l)<|kU acc l
def gu:List aC→List Nat→List Nat
 | [],acc=>acc
 | o::l,acc=>gu l<|acc++ [kU acc o.after.toList]
def iL (C:List Nat) (i j:Nat):Bool:=qz (kW C i) j
def o3 (i:Nat):List cq→Bool
 | []=>true
 | e::l=>cond (dr .any e && !(aD e.on i)) false<|o3 i l
def zd (a b:Option Nat):Bool:=match a,b with
 | some a,some b=>aN a b
 | _,_=>false
def qL (ops:List aC) (I:List Nat) (i:Nat) (C:aC):Nat→List aC→Bool
 | _,[]=>true
 | j,E::l=>cond (aD j i) ((!(zd C.dst E.dst) && (iL I i j || (!(rA E.dst<|nL ops C) && !(rA C.dst<|nL ops E)))) && qL ops I i C (j+1) l) true
def m8 (ops:List aC) (C:List Nat):Nat→List aC→Bool
 | _,[]=>true
 | i,E::l=>(o3 i E.after.toList && qL ops C i E 0 ops) && m8 ops C (i+1) l
inductive Cs | s | p | l | a | c
structure Rec where
 k:Cs
 xs:List AV
 v:AV
 hb:Hp
 ha:Hp
def qD (P:ar) (e:aq):Option (List AV):=match zeroOf P e with
 | some (some C)=>match jw (ir 4) C with
   | some l=>cond (dF l) (some l) none
   | none=>none
 | _=>none
def early (C:List Nat) (i:Nat) (last:Option Nat):Bool:=match last with
 | some c=> !(iL C i c)
 | none=>false
def vt (P:ar) (G:Nat) (X:Xt) (ih:Tk→Rs) (fr:Bool) (o:Op) (xs:List AV) (h:Hp):Option Rec:=match l8 P o xs with
 | some v=>some ⟨.p,xs,v,h,h⟩
 | none=>match iw P o xs h with
   | some v=>some ⟨.l,xs,v,h,h⟩
   | none=>match fr,o with
     | true,.alloc e=>match qD P e with
       | some l=>match cJ h (.cells l e 0 .x) with
         | some h'=>some ⟨.a,xs,.ptr h.nx 0,h,h'⟩
         | none=>none
       | none=>none
     | _,_=>match pC P G X ih o xs h with
       | .v v h'=>some ⟨.c,xs,v,h,h'⟩
       | _=>none
def GB (i:Nat) (last:Option Nat):Cs→Option Nat
 | .c=>some i
 | _=>last
def ka (P:ar) (G:Nat) (X:Xt) (ih:Tk→Rs) (n:Nat) (ops:List aC) (C:List Nat):Nat→Option Nat→List aC→Tr AV→Hp→Option (List Rec×Tr AV×Hp)
 | _,_,[],fr,h=>some ([],fr,h)
 | i,last,o::l,fr,h=>match iV n ops fr o.guard with
   | .y=>match jz G n fr (fu o.op) with
     | some xs=>match vt P G X ih (early C i last) o.op xs h with
       | some r=>match eY n fr o.dst r.v with
         | some fr=>match ka P G X ih n ops C (i+1) (GB i last r.k) l fr r.ha with
           | some (rs,fr,h)=>some (r::rs,fr,h)
           | none=>none
         | none=>none
       | none=>none
     | none=>none
   | .n=>match eY n fr o.dst (.bP []) with
     | some fr=>match ka P G X ih n ops C (i+1) last l fr h with
       | some (rs,fr,h')=>some (⟨.s,[],.bP [],h,h⟩::rs,fr,h')
       | none=>none
     | none=>none
   | .no=>none
def ud (a:Option AV) (v:AV):Bool:=match a with
 | some a=>ee a v
 | none=>false
def py (P:ar) (C:List Nat) (i:Nat) (o:Op) (xs:List AV) (v:AV):Nat→List Rec→Bool
 | _,[]=>true
 | j,q::l=>cond (match q.k with
   | .c=>cond (aD j i) (iL C i j || ud (iw P o xs q.hb) v) (iL C j i || ud (iw P o xs q.ha) v)
   | .a=> !(aD j i)
   | _=>true) (py P C i o xs v (j+1) l) false
def px (C:List Nat) (i:Nat):Nat→List Rec→Bool
 | _,[]=>true
 | j,q::l=>cond (match q.k with
   | .c=>cond (aD j i) (iL C i j) true
   | .a=>cond (aD j i) (iL C i j) true
   | _=>true) (px C i (j+1) l) false
def j6 (P:ar) (C:List Nat) (rs:List Rec):Nat→List aC→List Rec→Bool
 | _,[],[]=>true
 | i,o::l,q::m=>cond (match q.k with
   | .l=>py P C i o.op q.xs q.v 0 rs
   | .c=>px C i 0 rs
   | _=>true) (j6 P C rs (i+1) l m) false
 | _,_,_=>false
def qR (P:ar) (G:Nat) (X:Xt) (ih:Tk→Rs) (n:Nat) (ops:List aC) (fr:Tr AV) (D:List AD) (h:Hp):Rs:=match gu ops [] with
 | C=>cond (m8 ops C 0 ops) (match ka P G X ih n ops C 0 none ops fr h with
   | some (rs,fr,h)=>cond (j6 P C rs 0 ops rs) (.cd .bX fr D h) .no
   | none=> .no) .no
def eB (P:ar) (G:Nat) (X:Xt) (ih:Tk→Rs):Tk→Rs
 | .cd rd n c fr D h=>match c with
   | .skip => .cd .bX fr D h
   | .region _ ⟨ops⟩ draw=>cond draw (qR P G X ih n ops fr D h)<|je P G X ih rd n ops ops fr D h
   | .seq a b=>match ih (.cd rd n a fr D h) with
     | .cd .bX fr D h=>ih<|.cd rd n b fr D h
     | r=>r
   | .cond x a b=>match jy G n fr x with
     | some (.bool true)=>ih<|.cd rd n a fr D h
     | some (.bool false)=>ih<|.cd rd n b fr D h
     | _=> .no
   | .block id c=>match ih (.cd rd n c fr D h) with
     | .cd (.ext j) fr D h=>cond (aN j id) (.cd .bX fr D h)<|.cd (.ext j) fr D h
     | r=>r
   | .loop c=>ih<|.lp rd n c fr D h
   | .rangeFunc g ⟨ps⟩ aR body=>nN ih G rd n g ps aR body fr D h
   | .exit id=> .cd (.ext id) fr D h
   | .ret=> .cd .ret fr D h
   | _=> .no
 | .lp rd n c fr D h=>match ih (.cd rd n c fr D h) with
   | .cd .bX fr D h=>ih<|.lp rd n c fr D h
   | r=>r
 | .cl f args h=>match P.funcs[f]? with
   | some fn=>match fn.body with
     | some c=>cond (ba args.length fn.ntmps && aD fn.ntmps bT) (match ih (.cd none fn.ntmps c (gL 0 args .nil) [] h) with
       | .cd (.ext _) _ _ _=> .no
       | .cd _ fr D h=>match jc G ih D h with
         | some h=>match gT P fn.ntmps fr h fn.results.toList with
           | some vs=> .rv (l9 vs) h
           | none=> .no
         | none=> .no
       | _=> .no) .no
     | none=> .no
   | none=> .no
 | .yl l args h=>pY G ih l args h
 | .df f args h=>match P.funcs[f]? with
   | some fn=>match fn.body with
     | some c=>cond (ba args.length fn.ntmps && aD fn.ntmps bT) (match (match c with
       | .seq (.region _ ⟨⟨some d,.call ⟨.builtin .recover,⟨[]⟩,⟨[]⟩⟩,ty,pos,af,none⟩::rest⟩ false) y=>match eY fn.ntmps (gL 0 args .nil) (some d) .cW with
         | some fr=>match je P G X ih none fn.ntmps (⟨some d,.call ⟨.builtin .recover,⟨[]⟩,⟨[]⟩⟩,ty,pos,af,none⟩::rest) rest fr [] h with
           | .cd .bX fr [] h=>ih<|.cd none fn.ntmps y fr [] h
           | _=> .no
         | none=> .no
       | c=>ih (.cd none fn.ntmps c (gL 0 args .nil) [] h)) with
       | .cd (.ext _) _ _ _=> .no
       | .cd _ fr [] h=>match gT P fn.ntmps fr h fn.results.toList with
         | some vs=> .rv (l9 vs) h
         | none=> .no
       | _=> .no) .no
     | none=> .no
   | none=> .no
def pb (c:Nat):List UInt8→Nat→Int
 | [],_=> -1
 | b::l,i=>cond (aN b.toNat c) (jK i)<|pb c l<|i+1
def wY (xs:List AV) (h:Hp):Option (AV×Hp):=match xs with
 | [.str l,.int .u8 (.ofNat c)]=>cond (aD c 256) (match eA .i64 (pb c l 0) with
   | some v=>some (v,h)
   | none=>none) none
 | _=>none
def wW (xs:List AV) (h:Hp):Option (AV×Hp):=match xs with
 | [x]=>some (x,h)
 | _=>none
end Go.Hb
namespace Go.Hb
section
variable {P:ar} {G:Nat} {r:Rn} {T:Nat} {h:Hp} {w:ah} {N:Fm} {σ:Nat→ag} {dst:Option Nat} {ty:aq} {pos :String} {af:Array cq} {g:Option (Nat×Bool)} {x y z:aY}
theorem HR.Bg (hr:HR P G r T h w) {b o:Nat} {l news:List AV} {e fz:Nat} {ex:Ck} {q:Loc} {Nw:List ag} (hb:h.t.get b=some (.cells l e fz ex)) (am:ba G b=true) (ao:aD b bT=true) (ab:r b=some q) (I:aI r news=some Nw) (h1:dF news=true) (hle:o+news.length≤l.length) (ax:fz≤o):
 ∃ c fr,w.heap[q.an]? =some (.cells c e fr)∧fr.2≤q.sh+o∧q.sh+o+Nw.length≤c.size∧(∀ u∈Nw,u.oneCell'=true)∧
   St P G T r h w r ⟨h.t.set b (.cells (l.take o++(news++l.drop (o+news.length))) e fz ex),h.nx⟩ (w.setRow q.an (c.toList.take (q.sh+o)++Nw++c.toList.drop (q.sh+o+Nw.length)).toArray):=by
 obtain ⟨q',ac,c,fr,us,ad,O,aB,ae,ar,ah,ai,au⟩:=hr.live b _ hb;rw [ab] at ac; cases ac;have ay:=cP I;have aA:=cP O;have Z:=nC I h1;obtain ⟨L,E⟩:∃ L,c.toList.take (q.sh+o)++Nw++c.toList.drop (q.sh+o+Nw.length)=L:=⟨_,rfl⟩
 have V:=vE c.toList Nw (q.sh+o)<|by have :=iB (xs:=c); omega
 rw [E] at V;have aw:L.length=c.size:=by rw [← E]; simp; omega
 refine ⟨c,fr,ad,U,U,Z,?_⟩;rw [E];refine hr.j7 hb ao ab (bJ am) ?_ ⟨J,J,by simp,fun k _ ap=>setRow_other w q.an k _ ap⟩;rw [setRow_heap w q.an _ _ e _ ad];refine ⟨L.toArray,fr,_,J,eI (ik o O) (eI I<|iQ (o+news.length) O),?_,fun j a C=> ?_,ar,?_,⟨fun hex=> ?_,ai.2⟩,fun s aq=> ?_⟩
 · simp only [bQ,cC,ic,dY]; omega
 · rw [ku,V];have aj:(us.take o).length=o:=by simp; omega
   by_cases m1:j < o
   · rw [eF U,ib,if_pos m1] at C;rw [if_pos U,oe]; exact ae _ _ C
   · rw [eQ U,aj] at C;rw [if_neg U];by_cases aC:j < o+Nw.length
     · rw [eF U] at C;rw [if_pos U,show q.sh+j - (q.sh+o)=j - o from by omega]; exact C
     · rw [eQ U,iG] at C;rw [if_neg U,oe];refine ae j a ?_;rw [← C]; congr 1; omega
 · intro a ha;rcases gj.1 ha with ha | ha
   · exact ah a<|sW ha
   · rcases gj.1 ha with ha | ha
     · exact Z a ha
     · exact ah a<|sV ha
 · obtain ⟨ak,av,al⟩:=ai.1 hex;refine ⟨ak,?_,al⟩;simp only [bQ,cC,ic,dY]; omega
 · have :=au s aq;simp only [dY]; omega
theorem Hl (hr:HR P G r T h w) {t b o n c i j:Nat} {h':Hp} {v:AV} {k ap:bB} (hn:vd P t n i j h=some (v,h')) (hT:h'.nx≤T) (al:den r (.sl b o n c false)=some (ev N σ x)) (am:ev N σ y= .int k (jK i)) (ao:ev N σ z= .int ap (jK j)):YM P G r T N σ ⟨dst,.slice t x (some y) (some z) none,ty,pos,af,g⟩ h w v h':=by
 unfold vd at hn;split at hn
 · rename_i e he;replace hn:=aX hn; obtain ⟨O,hn⟩:=hn;simp only [a9] at O;obtain rfl :=bH O.1;obtain rfl :=bH O.2.1;cases hn;simp only at hT;obtain ⟨q,au,ar,hu⟩:=qQ al;have ak:=vR (dst:=dst) (ty:=ty) (pos :=pos) (af:=af) (g:=g) (w:=w) he hu am ao ⟨e9 _,Int.le_refl _,by simp; omega⟩;obtain ⟨ad,ag⟩:∃ ad:Nat,dN (some ⟨q.an,q.sh+o,none⟩) (q.room - c) j e=some ⟨q.an,ad,none⟩:=by
    unfold dN; split
    · exact ⟨_,J⟩
    · exact ⟨_,by rw [eS,fh]⟩
   have hle:=Rn.pk (i:=h.nx) ⟨q.an,ad,q.room - c - j⟩<|hr.new h.nx (aZ _) U;refine ⟨r.ext h.nx ⟨q.an,ad,q.room - c - j⟩,_,w,?_,.inl ak,hle,⟨fun j L E=> ?_,fun j k ab ac aw aq E I h1 C he=> ?_,fun k I ai=> ?_,hr.ew.le hle,cS hr.base<|kA _⟩,kA _,Md.refl _ _,fun g hg k I ah=> ?_,fun k I=>Rn.iU _ _<|by simp only at I; omega⟩
   · rw [na (Rn.fW _ _ _) (by simp)];simp [ag]
   · obtain ⟨q',h1,C⟩:=hr.live j L E;exact ⟨q',hle _ _ h1,C.le hle⟩
   · obtain ⟨q',V,_⟩:=hr.live j ab E;obtain ⟨av,Z,_⟩:=hr.live k ac I;rw [hle _ _ V] at h1; cases h1;rw [hle _ _ Z] at C; cases C;exact hr.inj j k ab ac _ _ E I V Z he
   · simp only at I; rw [Rn.iU _ _ U]; exact hr.new k U ai
   · obtain ⟨j,L,q',ae,E,aj,rfl⟩:=ah;obtain ⟨aq,C,_⟩:=hr.live j L E;have :=hle _ _ C;rw [aj] at this; cases this;exact ⟨j,L,_,ae,E,C,J⟩
 · cases hn
theorem HR.Fa (hr:HR P G r T h w) {b:Nat} (hb:aD b bT=true):St P G T r h w r ⟨h.t.del b,h.nx⟩ w:=
 ⟨Rn.le_refl r,hr.del hb,aZ _,Md.refl _ _,fun g _ k _ I=>by
  obtain ⟨j,O,q',E,C,L,rfl⟩:=I;rw [Tr.ns _ _ _ hb] at C;split at C
  · cases C
  · exact ⟨j,O,q',E,C,L,J⟩,fun _ _=>rfl⟩
theorem HR.Ha (hr:HR P G r T h w) {b:Nat} {o:AO} {q q':Loc} {h':Hp} {ob:AO} (hb:h.t.get b=some ob) (I:aD b bT=true) (L:r b=some q) (Z:ba G b=true) (E:q'.an=q.an) (hn:Hb.cJ ⟨h.t.del b,h.nx⟩ o=some h') (hT:h'.nx≤T) (ae:∀ r',r.le r'→OR P r' q' o w.heap[q.an]?):
 ∃ r',r' h.nx=some q'∧St P G T r h w r' h' w:=by
 have O:=hr.del I;have ah:=hr.Fa I;unfold Hb.cJ at hn;replace hn:=aX hn; obtain ⟨J,hn⟩:=hn;cases hn;simp only at hT J;have hle:=Rn.pk (i:=h.nx) q'<|hr.new h.nx (aZ _) U;have V:∀ g,g≤G→Fr g r h q.an:=fun g hg=>⟨b,_,q,cS hg (bJ Z),hb,L,rfl⟩
 refine ⟨r.ext h.nx q',Rn.fW _ _ _,hle,O.put hle J (Rn.fW _ _ _) (by rw [E]; exact ae _ hle) (fun _ _ _=>rfl) (fun j aj ak ai hg ag he=> ?_) (kA _) (fun k C ad=> ?_),kA _,Md.refl _ _,fun g hg k C ab=> ?_,fun k C=>Rn.iU _ _<|by simp only at C; omega⟩
 · rw [Tr.ns _ _ _ I] at hg;split at hg
   · cases hg
   · rename_i ac;exact ac<|hr.inj j b _ _ _ _ hg hb ag L<|by rw [he,E]
 · simp only at C; rw [Rn.iU _ _ U]; exact hr.new k U ad
 · rcases Fr.set J (Rn.fW _ _ _) hle O ab with h1 | h1
   · rw [h1,E]; exact V g hg
   · exact ah.dE g hg k C h1
theorem Ja (hr:HR P G r T h w) {t b o n c i:Nat} {h':Hp} {v:AV} {k:bB} (hn:wb P G t b o n c i h=some (v,h')) (hT:h'.nx≤T) (al:den r (.sl b o n c false)=some (ev N σ x)) (am:ev N σ y= .int k (jK i)):YM P G r T N σ ⟨dst,.slice t x (some y) none none,ty,pos,af,g⟩ h w v h':=by
 unfold wb at hn;split at hn
 · rename_i e he;replace hn:=aX hn; obtain ⟨E,hn⟩:=hn;simp only [a9] at E;obtain rfl :=bH E.1;obtain ⟨_,Z,ab⟩:=E;split at hn
   · rename_i l t' fz ex hb;split at hn
     · rename_i e' I;replace hn:=aX hn; obtain ⟨C,hn⟩:=hn;simp only [a9] at C;obtain rfl :=bH C.1;have d1:=bH C.2.1;have d2:=bJ C.2.2;split at hn
       · rename_i aq ah;cases hn;obtain ⟨q,L,au,hu⟩:=qQ al;obtain ⟨q',O,cc,fr,us,ao,av,aw,ax,ay,aA,aB,ap⟩:=hr.live b _ hb;rw [L] at O; cases O;have aC:=ap e I;have ak:=vU (dst:=dst) (ty:=ty) (pos :=pos) (af:=af) (g:=g) (w:=w) he hu am ⟨e9 _,Int.le_refl _⟩;have aj:(c+i+(q.room - c - i))*e=q.room*e:=by congr 1; omega
         rw [ly,ly] at aj;obtain ⟨ad,ac,ar,ae⟩:∃ ad:Nat,dN (some ⟨q.an,q.sh+o,none⟩) (q.room - c) i e=some ⟨q.an,ad,none⟩∧q.sh≤ad∧ad+(q.room - c - i)*e≤cc.size:=by
          unfold dN; split
          · rename_i h0;refine ⟨_,J,U,?_⟩;rw [show q.room - c - i=0 from by omega,td]; omega
          · exact ⟨q.sh+o+i*e,by rw [eS,fh],U,U⟩
         obtain ⟨r',ai,bg⟩:=hr.Ha (q':=⟨q.an,ad,q.room - c - i⟩) hb ab L Z rfl ah hT fun r' hle=>by
          refine ⟨cc,fr,[],ao,by simp [aI],by simp only [fP,jl]; omega,fun j u ag=>by simp at ag,by simp only; omega,fun u hu=>by simp at hu,⟨(fun h=>by cases h),fun h=>absurd J h⟩,fun s V=> ?_⟩;rw [I] at V; cases V;exact ae
         refine ⟨r',_,w,?_,.inl ak,bg⟩;rw [na ai (by simp)];simp [ac]
       · cases hn
     · cases hn
   · cases hn
 · cases hn
theorem Eu (hr:HR P G r T h w) {t:aq} {a v:AV} {h':Hp} (hn:tN P G t a h=some (v,h')) (O:den r a=some (ev N σ x)):YM P G r T N σ ⟨dst,.call ⟨.builtin .clear,#[x],#[t]⟩,ty,pos,af,g⟩ h w v h':=by
 have E:∀ {u:ag} {w':ah},(sE #[t] ty #[ev N σ x]).run P w= .ok u w'→(execOp (ev N σ) ⟨dst,.call ⟨.builtin .clear,#[x],#[t]⟩,ty,pos,af,g⟩).run P w= .ok (.value u) w':=by
  intro u w' h;simp [execOp,resolve,invoke,builtin,h]
 unfold tN at hn;split at hn
 · replace hn:=aX hn; obtain ⟨C,hn⟩:=hn;cases hn;obtain ⟨e,he⟩:=ph C;have hu:=gv O;exact ⟨r,undef,w,gH r,.inl (E<|by rw [hu]; simp [sE,bp he]; rfl),St.refl hr⟩
 · rename_i b o n c q;split at hn
   · rename_i e s ar ap ad;obtain ⟨i,zv,hu,hi,ae,rfl,rfl,al,aw,aj,ak,ax⟩:=r5 (r:=r) ad;obtain ⟨Z,cap,ac,au,V,_⟩:=gJ O;split at hn
     · cases hn;exact ⟨r,undef,w,gH r,.inl (E<|by rw [V]; simp [sE,bp hu]; rfl),St.refl hr⟩
     · rename_i ab;split at hn
       · rename_i l e' fz ex hb;replace hn:=aX hn; obtain ⟨C,hn⟩:=hn;simp only [a9] at C;obtain ⟨⟨c1,c2⟩,c3,c4⟩:=C;have c1:=bJ c1;have c2:=bJ c2;cases hn;have I:=rN aj n;have hlen:=cP I;have J:(jA ap n).length=n*i.size:=by
          rw [← hlen]; simp [List.length_flatten,al]
         obtain ⟨cc,fr,am,ay,aA,ao,bg⟩:=hr.Bg (o:=o) hb c3 c4 ac I (vu ak n) (by rw [J]; exact c1) c2;have L:=run_storeCells_atF P Z.an (Z.sh+o) e' fr _ 0 cc w am U U ao;simp only [jl] at L;rw [J] at bg;refine ⟨r,undef,_,gH r,.inl (E ?_),bg⟩;rw [V];have ai:(CD zv.cells n).toList=(cZ n zv.cells.toList).flatten:=by
          have :=vp zv.cells U n;have :=congrArg Array.toList this;simpa [CD] using this
         have av:n≠0:=fun h=>ab<|by rw [h]
         obtain ⟨m,rfl⟩:∃ m,n=m+1:=⟨n - 1,U⟩
         simp [sE,bp hu,zeroValue,cU hi,ae,ai,L];rfl
       · cases hn
   · cases hn
 · cases hn
theorem Ak {x:AV} {kx:ag} {C:KK} (I:dm C x=true) (E:den r x=some kx):∀ {l:List (AV×AV)} {es:List MapEntry} {j:Nat} {e':MapEntry},fq r l es→ez C l=true→
 es[j]? =some e'→e'.key=kx→(es.map fun e=>e.key).Nodup→fq r (j3 x l) (es.eraseIdx j)
 | [],[],j,e',_,_,hj,_,_=>by simp at hj
 | [],_::_,_,_,hm,_,_,_,_=>hm.elim
 | _::_,[],_,_,hm,_,_,_,_=>hm.elim
 | q::l,e::es,0,e',hm,hk,hj,hk',_=>by
   simp only [ez] at hk;cases h1:dm C q.1
   · rw [h1] at hk; cases hk
   · simp only [hZ,bD] at hj;subst hj;simp only [j3,(j4 h1 I hm.1 E).2 hk',cond_true];exact hm.2.2
 | q::l,e::es,j+1,e',hm,hk,hj,hk',hn=>by
   simp only [ez] at hk;cases h1:dm C q.1
   · rw [h1] at hk; cases hk
   · rw [h1] at hk;simp only [hO] at hj;simp only [eR,Dm] at hn;have he:fk q.1 x=false :=by
      cases hq:fk q.1 x
      · rfl
      · have :=(j4 h1 I hm.1 E).1 hq;exact absurd (sU.2 ⟨e',kz hj,hk'.trans this.symm⟩) hn.1
     simp only [j3,he,cond_false];exact ⟨hm.1,hm.2.1,Ak I E hm.2.2 hk hj hk' hn.2⟩
theorem zW {x:AV} {kx:ag} {C:KK} (I:dm C x=true) (E:den r x=some kx):∀ {l:List (AV×AV)} {es:List MapEntry},fq r l es→ez C l=true→(∀ e∈es,e.key≠kx)→j3 x l=l
 | [],_,_,_,_=>rfl
 | q::l,[],hm,_,_=>hm.elim
 | q::l,e::es,hm,hk,hn=>by
   simp only [ez] at hk;cases h1:dm C q.1
   · rw [h1] at hk; cases hk
   · rw [h1] at hk;have he:fk q.1 x=false :=by
      cases hq:fk q.1 x
      · rfl
      · exact absurd ((j4 h1 I hm.1 E).1 hq)<|hn e ky
     simp only [j3,he,cond_false,zW I E hm.2.2 hk (fun e he=>hn e<|kv _ he)]
theorem E9 (hr:HR P G r T h w) {t I:aq} {b:Nat} {k v:AV} {h':Hp} (hp:tY P G t b k h=some (v,h')) (ap:den r (.map b)=some (ev N σ x)) (E:den r k=some (ev N σ y)):YM P G r T N σ ⟨dst,.call ⟨.builtin .delete,#[x,y],#[t,I]⟩,ty,pos,af,g⟩ h w v h':=by
 have Z:∀ {u:ag} {w':ah},(xg #[t,I] ty #[ev N σ x,ev N σ y]).run P w= .ok u w'→(execOp (ev N σ) ⟨dst,.call ⟨.builtin .delete,#[x,y],#[t,I]⟩,ty,pos,af,g⟩).run P w= .ok (.value u) w':=by
  intro u w' h;simp [execOp,resolve,invoke,builtin,h]
 unfold tY at hp;split at hp
 · rename_i l hb;split at hp
   · rename_i av e ab;split at hp
     · rename_i ar al;replace hp:=aX hp; obtain ⟨J,hp⟩:=hp;simp only [a9] at J;obtain ⟨⟨ai,aj⟩,hka,hkl⟩:=J;cases hp;obtain ⟨q,es,c,U,hw,hm,hn⟩:=hr.map hb;obtain ⟨q',V,hu⟩:=lO ap;rw [U] at V; cases V;have C:=uN al;have hi:=rl hka E;have ak:∀ e∈es.toList,nu ar e.key:=qV rfl (rz hm hkl);have aP:=(eC.1 hw).1;have st:∀ (es':Array MapEntry),fq r (j3 k l) es'.toList→(es'.toList.map fun e=>e.key).Nodup→St P G T r h w r ⟨h.t.set b (.map<|j3 k l),h.nx⟩ {w with heap:=w.heap.setIfInBounds q.an<|.map es' c} :=fun es' ac ad=>
        hr.j7 hb aj U (bJ ai) ⟨es',c,by simp only; rw [xe aP],ac,ad⟩ ⟨rfl,rfl,by simp,fun i _ am=>by simp only; rw [xd (fun e=>am e.symm)]⟩
       rcases C.find w (ev N σ y) es.toList hi ak with ⟨h1,ao⟩ | ⟨j,e',h1,O,ae⟩
       · refine ⟨r,undef,_,gH r,.inl (Z ?_),st es (by rw [zW hka E hm hkl ao]; exact hm) hn⟩;rw [hu];simp [xg,bp ab,run_getObj_map hw,C.check _ w _ hi,h1,setObj,kj,hw];rfl
       · have au:=(cH.1 O).1;have L:(es.eraseIdxIfInBounds j).toList=es.toList.eraseIdx j:=by simp
         refine ⟨r,undef,_,gH r,.inl (Z ?_),st (es.eraseIdxIfInBounds j) (by rw [L]; exact Ak hka E hm hkl O ae hn) (by
          rw [L];exact List.Nodup.sublist (Kq _<|List.eraseIdx_sublist _ _) hn)⟩
         rw [hu];simp [xg,bp ab,run_getObj_map hw,C.check _ w _ hi,h1,setObj,kj,hw];rfl
     · cases hp
   · cases hp
 · cases hp
theorem Jr (hr:HR P G r T h w) {C it:aq} {a b v:AV} {h':Hp} (hp:wN P G C a b h=some (v,h')) (ad:den r a=some (ev N σ x)) (ae:den r b=some (ev N σ y)):YM P G r T N σ ⟨dst,.call ⟨.builtin .unsafeString,#[x,y],#[C,it]⟩,ty,pos,af,g⟩ h w v h':=by
 have ab:∀ {u:ag} {w':ah},(Builtin.unsafeString_ #[C,it] ty #[ev N σ x,ev N σ y]).run P w= .ok u w'→(execOp (ev N σ) ⟨dst,.call ⟨.builtin .unsafeString,#[x,y],#[C,it]⟩,ty,pos,af,g⟩).run P w= .ok (.value u) w':=by
  intro u w' h;simp [execOp,resolve,invoke,builtin,h]
 have am:den r (.str [])=some (.string .empty):=rfl;unfold wN at hp;split at hp
 · cases hp;obtain ⟨q,Z,hu⟩:=gI ad;have I:=cE ae;exact ⟨r,_,w,am,.inl (ab<|by rw [hu,I]; exact CW w C it ty _),St.refl hr⟩
 · cases hp;have hu:=nf ad;have I:=cE ae;exact ⟨r,_,w,am,.inl (ab<|by rw [hu,I]; exact CW w C it ty _),St.refl hr⟩
 · rename_i L n _;split at hp
   · rename_i l e fz ex hb;have key:ex≠.a→cond ((ptrTo P C e && (ba n l.length && (aD 0 n && aD n 1000000000))) && (ba G L && aD L bT)) (match me (l.take n) with
      | some m=>some (AV.str m,(⟨h.t.set L (.cells l e (max fz n) .z),h.nx⟩:Hp))
      | none=>none) none=some (v,h')→YM P G r T N σ ⟨dst,.call ⟨.builtin .unsafeString,#[x,y],#[C,it]⟩,ty,pos,af,g⟩ h w v h':=by
      intro hex hp;replace hp:=aX hp; obtain ⟨al,hp⟩:=hp;simp only [a9] at al;obtain ⟨⟨E,c1,c2,c3⟩,hG,hbm⟩:=al;have c1:=bJ c1;have c2:=cn.1 c2;have c3:=cn.1 c3;split at hp
      · rename_i m hm;cases hp;obtain ⟨q,Z,cc,fr,us,ai,aj,aE,ar,aF,aG,aH,aI⟩:=hr.live L _ hb;have ac:=aH.2 hex;obtain ⟨q',ap,hu⟩:=gI ad;rw [Z] at ap; cases ap;have I:=cE ae;rw [ac] at hu;have aw:=ik n aj;have ak:=wj hm aw;have aJ:=cP aj;have O:m.length=n:=by
         have :=congrArg oC ak;simp [m3] at this;omega
        unfold ptrTo at E;split at E
        · rename_i e' ax;simp only [a9,beq_iff_eq] at E;obtain ⟨rfl,au⟩:=E;have aC:w.shape? q.an=some (e',cc.size):=by simp [World.shape?,ai]
          have V:m≠[]:=fun h=>by rw [h] at O; simp at O; omega
          have av:=Lib.run_unsafeString_row (P:=P) w C it ty e' ax au q.an cc.size aC m V U U (fun j u ay=>by
           have h1:us[j]? =some (.int .u8 u.toNat):=by
            have :(us.take n)[j]? =some (.int .u8 u.toNat):=by rw [ak]; simp [U8,ay]
            rw [ib] at this;split at this
            · exact this
            · cases this
           rw [fh,iP,bV ai,cy];have :=ar j _ h1;rwa [ac,cy] at this)
          have ao:ko w ⟨q.an,0,none⟩ m.length= {w with heap:=w.heap.modify q.an fun
           | .cells c elem (lo,hi)=> .cells c elem (if lo==hi then (0,0 +m.length) else (min lo 0,max hi (0 +m.length)))
           | o=>o} :=by
           unfold ko;rw [if_neg U];rfl
          obtain ⟨lo,hi⟩:=fr;have aB:(ko w ⟨q.an,0,none⟩ m.length).heap[q.an]? =some (.cells cc e' (if lo==hi then (0,0 +m.length) else (min lo 0,max hi (0 +m.length)))):=by
           rw [ao];simp only [Cq,if_true,ai];rfl
          refine ⟨r,.string ⟨m.toArray⟩,ko w ⟨q.an,0,none⟩ m.length,J,.inl (ab ?_),hr.j7 hb hbm Z (bJ hG) ?_ ?_⟩
          · rw [hu,I,← O]; exact av
          · rw [aB];refine ⟨cc,_,us,J,aj,aE,ar,?_,aG,⟨(fun h=>by cases h),fun _=>ac⟩,aI⟩;simp only at aF;split <;> simp only <;> omega
          · rw [ao];exact ⟨J,J,by simp,fun k _ aA=>by simp only [Cq]; rw [if_neg (fun e=>aA e.symm)]⟩
        · cases E
      · cases hp
     split at hp
     · cases hp
     · rename_i V;exact key V hp
   · cases hp
 · cases hp
theorem Hu (hr:HR P G r T h w) {o:Op} {xs:List AV} {v:AV} {h':Hp} (C:rI P G o xs h=some (v,h')) (hT:h'.nx≤T) (L:aI r xs=some ((fu o).map<|ev N σ)):YM P G r T N σ ⟨dst,o,ty,pos,af,g⟩ h w v h':=by
 have two:∀ {a b:AV} {l:List aY},aI r [a,b]=some (l.map<|ev N σ)→∃ x y,l= [x,y]∧den r a=some (ev N σ x)∧den r b=some (ev N σ y):=by
  intro a b l h;have :=cP h;simp at this;obtain ⟨x,y,rfl⟩:∃ x y,l= [x,y]:=by
   match l,this with
   | [x,y],_=>exact ⟨x,y,rfl⟩
  exact ⟨x,y,J,gq h⟩
 have one:∀ {a:AV} {l:List aY},aI r [a]=some (l.map<|ev N σ)→∃ x,l= [x]∧den r a=some (ev N σ x):=by
  intro a l h;have :=cP h;simp at this;obtain ⟨x,rfl⟩:=qq.1 this;exact ⟨x,J,dZ h⟩
 unfold rI at C;split at C
 · rename_i E t ah;split at C
   · obtain ⟨E⟩:=E;obtain ⟨x,y,rfl,I,O⟩:=two L;exact D3 hr C hT I O
   · cases C
 · rename_i E t;split at C
   · obtain ⟨E⟩:=E;obtain ⟨x,rfl,I⟩:=one L;exact Eu hr C I
   · cases C
 · rename_i E t ad;split at C
   · obtain ⟨E⟩:=E;obtain ⟨x,y,rfl,I,O⟩:=two L;exact E9 hr C I O
   · cases C
 · rename_i E ag;obtain ⟨E⟩:=E;split at C
   · cases C;obtain ⟨x,rfl,I⟩:=one L;exact ⟨r,_,w,J,.inl (wG (v:= .nilFunc) (gv I)<|.inl J),St.refl hr⟩
   · replace C:=aX C; obtain ⟨Z,C⟩:=C;have Z:=cn.1 Z;cases C;obtain ⟨x,rfl,I⟩:=one L;obtain ⟨q,cap,ac,hn,hu,_⟩:=gJ I;exact ⟨r,_,w,by simp only [den,ac],.inl (wG (v:= .nilFunc) hu<|.inr U),St.refl hr⟩
   · cases C
 · rename_i E ae it;split at C
   · obtain ⟨E⟩:=E;obtain ⟨x,y,rfl,I,O⟩:=two L;exact Jr hr C I O
   · cases C
 · split at C
   · obtain ⟨h1,V⟩:=gq L;exact Ja hr C hT h1<|cE V
   · cases C
 · split at C
   · obtain ⟨h1,V,ab⟩:=kH L;exact Hl hr C hT h1 (cE V)<|cE ab
   · cases C
 · cases C
end
end Go.Hb
namespace Go.Hb
def iT:EX→bo
 | .bX=> .normal
 | .ret=> .ret
 | .ext i=> .exit i
def iR (r:Rn):List AD→List Deferred→Prop
 | [],[]=>True
 | .mark d::l,x::m=>(∃ q,r d=some q∧x= {target:= .collected q.an,args:= #[]})∧iR r l m
 | .fn f args::l,x::m=>(∃ (a:List ag) (cap C:Array ag),aI r args=some a∧x= {target:= .fn (.func f) cap,args:=C}∧C++cap=a.toArray)∧iR r l m
 | _,_=>False
def pH (r:Rn):Option Nat→Option Nat→Prop
 | none,none=>True
 | some l,some k=> ∃ q,r l=some q∧q.an=k
 | _,_=>False
theorem lN {r s:Rn} (h:r.le s):∀ {D:List AD} {m:List Deferred},iR r D m→iR s D m
 | [],[],_=>trivial
 | [],_::_,h'=>h'.elim
 | .mark d::l,[],h'=>h'.elim
 | .fn f args::l,[],h'=>h'.elim
 | .mark d::l,x::m,⟨⟨q,h1,h2⟩,h3⟩=>⟨⟨q,h _ _ h1,h2⟩,lN h h3⟩
 | .fn f args::l,x::m,⟨⟨a,cap,as_,h1,h2⟩,h3⟩=>⟨⟨a,cap,as_,gr h h1,h2⟩,lN h h3⟩
theorem AU {r s:Rn} (h:r.le s) {a b:Option Nat} (hr:pH r a b):pH s a b:=by
 cases a <;> cases b
 · trivial
 · exact hr.elim
 · exact hr.elim
 · obtain ⟨q,h1,C⟩:=hr; exact ⟨q,h _ _ h1,C⟩
theorem dJ.le {r s:Rn} (h:r.le s) {n:Nat} {fr:Tr AV} {σ:Nat→ag} (C:dJ r n fr σ):dJ s n fr σ:=fun i hi=>jT h<|C i hi
def de (P:ar) (G:Nat) (rd:Option Nat) (n:Nat) (W:Option Nat→(bo→Act→ah→Prop)→Act→ah→Prop) (fr:Tr AV) (D:List AD) (h:Hp) (e:EX) (I:Tr AV) (E:List AD) (h':Hp):Prop :=
 h.nx≤h'.nx∧∀ (T:Nat) (r:Rn) (w:ah) (σ:Nat→ag) (Dl:List Deferred) (rr:Option Nat) (Q:bo→Act→ah→Prop),h'.nx≤T→HR P G r T h w→dJ r n fr σ→iR r D Dl→pH r rd rr→
  (∀ (r':Rn) (w':ah) (σ':Nat→ag) (C:List Deferred),St P G T r h w r' h' w'→dJ r' n I σ'→iR r' E C→Q (iT e) (act ⟨n,C,[],rr⟩ σ') w')→W rr Q (act ⟨n,Dl,[],rr⟩ σ) w
def iK (P:ar) (G:Nat) (f:Nat) (args:List AV) (h:Hp) (v:AV) (h':Hp):Prop :=
 h.nx≤h'.nx∧∀ (T:Nat) (r:Rn) (w:ah) (L:List ag),h'.nx≤T→HR P G r T h w→aI r args=some L→bc P f L.toArray w fun u w'=> ∃ r',den r' v=some u∧St P G T r h w r' h' w'
def tu (P:ar) (G:Nat) (l:Nat) (args:List AV) (h:Hp) (v:AV) (h':Hp):Prop :=
 h.nx≤h'.nx∧∀ (T:Nat) (r:Rn) (w:ah) (L:List ag) (q:Loc),h'.nx≤T→HR P G r T h w→aI r args=some L→r l=some q→YieldAt iD 0 P q.an L.toArray w fun e w'=> ∃ u r',e= .returned u∧den r' v=some u∧St P G T r h w r' h' w'
def DI (P:ar) (G:Nat) (f:Nat) (args:List AV) (h h':Hp):Prop :=
 h.nx≤h'.nx∧∀ (T:Nat) (r:Rn) (w:ah) (L:List ag),h'.nx≤T→HR P G r T h w→aI r args=some L→CallsDIn iD 0 P f L.toArray .returning w fun e C w'=> ∃ v,e= .returned v∧C= .returning∧∃ r',St P G T r h w r' h' w'
def su (P:ar) (c:bF) (rr:Option Nat) (Q:bo→Act→ah→Prop) (a:Act) (w:ah):Prop :=
 ∀ (b:Frame) (k:List Item) (cs:List Frame),b.roundOf=(fe rr).round→(fe rr).fn b.fn→(fe rr).room (cs.length+1 +0)→
   ∃ e C w',Q e C w'∧ArrivesIn (Machine.fenced P<|fe rr) P (lone (b.atR a (.code c:: .inLoop c::k)) cs w) b k cs e C w'
def kD (P:ar) (G:Nat):Tk→Rs→Prop
 | .cd rd n c fr D h,.cd e fr' D' h'=>de P G rd n (fun rr Q a w=>c.wpIn (fe rr) 0 P Q a w) fr D h e fr' D' h'
 | .lp rd n c fr D h,.cd e fr' D' h'=>de P G rd n (su P c) fr D h e fr' D' h'
 | .cl f args h,.rv v h'=>iK P G f args h v h'
 | .yl l args h,.rv v h'=>tu P G l args h v h'
 | .df f args h,.rv v h'=>DI P G f args h h'
 | _,.no=>True
 | _,_=>False
def Good (P:ar) (G:Nat) (ih:Tk→Rs):Prop := ∀ t,kD P G t (ih t)
def gF (P:ar) (G:Nat) (X:Xt):Prop := ∀ f e,X f=some e→∀ xs h v h',e xs h=some (v,h')→h.nx≤h'.nx∧∀ (T:Nat) (r:Rn) (w:ah) (us:List ag),h'.nx≤T→HR P G r T h w→aI r xs=some us→
 ∃ r' u w',den r' v=some u∧(callFunc f us.toArray).run P w= .ok (.value u) w'∧St P G T r h w r' h' w'
def fC (P:ar):Prop := ∀ f fn c,P.funcs[f]? =some fn→fn.body=some c→fT P f
section
variable {P:ar} {G:Nat} {r:Rn} {T:Nat} {h:Hp} {w:ah} {N:Fm} {σ:Nat→ag} {dst:Option Nat} {ty:aq} {pos :String} {af:Array cq} {g:Option (Nat×Bool)} {x y z:aY} {K:Act→ah→Prop} {Q:bo→Act→ah→Prop}
theorem ss {o:aC} (hn:∀ c,o.op≠.defer c) {u:ag} {w':ah} (hr:(execOp (ev N σ) o).run P w= .ok (.value u) w'∨(execOp (ev N σ) o).run P w= .ok .skip w'∧u=undef) (C:K ((act N σ).put o.dst u) w'):o.wpIn (fe N.r) 0 P (act N σ) w K Q:=by
 refine ⟨fun f _=>kM _ f,?_⟩;rw [o6,xq _ _ _ hn,dk];rcases hr with hr | ⟨hr,rfl⟩
 · rw [hr]; exact C
 · rw [hr]; exact C
theorem ym {f:Nat} {fo:aY} {first cap:Array ag} {args:Array aY} {C:Array aq} (E:ev N σ fo= .func (.func f) first cap):(execOp (ev N σ) ⟨dst,.call ⟨.value fo,args,C⟩,ty,pos,af,g⟩).run P w=(callFunc f<|first++args.map (ev N σ)++cap).run P w:=by
 simp only [execOp,resolve,E,lk,hH,kn,gD,invoke]
end
end Go.Hb
namespace Go.Hb
section
variable {P:ar} {G:Nat} {h:Hp}
theorem ju {o:AO} {h':Hp} (hn:cJ h o=some h'):h'.nx=h.nx+1:=by
 unfold cJ at hn;replace hn:=aX hn; obtain ⟨_,hn⟩:=hn;cases hn; rfl
theorem AS {t:aq} {b:Nat} {k v:AV} {h':Hp} (hp:nJ P t b k v h=some h'):h'.nx=h.nx:=by
 unfold nJ at hp;split at hp
 · split at hp
   · split at hp
     · replace hp:=aX hp; obtain ⟨_,hp⟩:=hp; cases hp; rfl
     · cases hp
   · cases hp
 · cases hp
theorem IP {t b o:Nat} {v:AV} {h':Hp} (C:pQ P G t b o v h=some h'):h'.nx=h.nx:=by
 unfold pQ at C;split at C
 · split at C
   · replace C:=aX C; obtain ⟨_,C⟩:=C; cases C; rfl
   · cases C
 · cases C
theorem Hs {o:Op} {xs:List AV} {v:AV} {h':Hp} (C:nE P G o xs h=some (v,h')):h.nx≤h'.nx:=by
 unfold nE at C;split at C
 · split at C
   · split at C
     · replace C:=aX C; obtain ⟨_,C⟩:=C;split at C
       · rename_i hn; cases C; have :=ju hn; omega
       · cases C
     · cases C
   · cases C
 · split at C
   · replace C:=aX C; obtain ⟨_,C⟩:=C;split at C
     · rename_i hn; cases C; have :=ju hn; omega
     · cases C
   · cases C
 · split at C
   · rename_i hn; cases C; have :=ju hn; omega
   · cases C
 · split at C
   · replace C:=aX C; obtain ⟨_,C⟩:=C;split at C
     · replace C:=aX C; obtain ⟨_,C⟩:=C;split at C
       · rename_i hn; cases C; have :=ju hn; omega
       · cases C
     · cases C
   · cases C
 · split at C
   · split at C
     · replace C:=aX C; obtain ⟨_,C⟩:=C;split at C
       · rename_i hn; cases C; have :=ju hn; omega
       · cases C
     · cases C
   · cases C
 · split at C
   · split at C
     · rename_i E; cases C; have :=IP E; omega
     · cases C
   · cases C
 · split at C
   · replace C:=aX C; obtain ⟨_,C⟩:=C;split at C
     · rename_i hp; cases C; have :=AS hp; omega
     · cases C
   · cases C
 · split at C
   · replace C:=aX C; obtain ⟨_,C⟩:=C;split at C
     · rename_i hp; cases C; have :=AS hp; omega
     · cases C
   · cases C
 · cases C
end
section
variable {P:ar} {G:Nat} {X:Xt} {ih:Tk→Rs} {n:Nat}
def jn (P:ar) (G:Nat) (o:Op) (xs:List AV) (h:Hp) (v:AV) (h':Hp):Prop :=
 h.nx≤h'.nx∧∀ (T:Nat) (r:Rn) (w:ah) (N:Fm) (σ:Nat→ag) (dst:Option Nat) (ty:aq) (pos :String) (af:Array cq) (g:Option (Nat×Bool)) (K:Act→ah→Prop) (Q:bo→Act→ah→Prop),h'.nx≤T→HR P G r T h w→aI r xs=some ((fu o).map<|ev N σ)→
  (∀ (r':Rn) (u:ag) (w':ah),den r' v=some u→St P G T r h w r' h' w'→K ((act N σ).put dst u) w')→(Oper.mk dst o ty pos af g).wpIn (fe N.r) 0 P (act N σ) w K Q
theorem jn.run {o:Op} {xs:List AV} {h h':Hp} {v:AV} (hn:∀ c,o≠.defer c) (O:h.nx≤h'.nx)
 (hr:∀ (T:Nat) (r:Rn) (w:ah) (N:Fm) (σ:Nat→ag) (dst:Option Nat) (ty:aq) (pos :String) (af:Array cq) (g:Option (Nat×Bool)),h'.nx≤T→HR P G r T h w→aI r xs=some ((fu o).map<|ev N σ)→YM P G r T N σ ⟨dst,o,ty,pos,af,g⟩ h w v h'):jn P G o xs h v h':=
 ⟨O,fun T r w N σ dst ty pos af g K Q hT J I L=>by
  obtain ⟨r',u,w',h1,C,E⟩:=hr T r w N σ dst ty pos af g hT J I;exact ss hn C (L r' u w' h1 E)⟩
theorem Em (al:Good P G ih) (au:gF P G X) (ar:fC P) (ax:∀ f args h v h',ih (.cl f args h)= .rv v h'→∃ fn c,P.funcs[f]? =some fn∧fn.body=some c) {fo:aY} {J:List aY} {ae:Array aq} {f:AV} {args:List AV} {h h':Hp} {v:AV} (E:qK X ih f args h= .v v h'):
 jn P G (.call ⟨.value fo,⟨J⟩,ae⟩) (f::args) h v h':=by
 have ai:∀ c,Op.call ⟨.value fo,⟨J⟩,ae⟩≠.defer c:=fun c e=>by cases e
 unfold qK at E;split at E
 · rename_i f a c;split at E
   · rename_i e he;split at E
     · rename_i v1 h1 aj;cases E;obtain ⟨ad,I⟩:=au f e he _ _ _ _ aj;refine jn.run ai ad fun T r w N σ dst ty pos af g hT ac Z=> ?_;obtain ⟨u,us,C,ab,V⟩:=dC Z;simp only [fu,eR,kq] at C;obtain ⟨C,rfl⟩:=C;obtain ⟨L,c',ha,ag,rfl⟩:=kJ ab;obtain ⟨r',u,w',O,U,ap⟩:=I T r w _ hT ac<|eI ha<|eI V ag;refine ⟨r',u,w',O,.inl ?_,ap⟩;rw [ym C];have :L.toArray++(⟨J⟩:Array aY).map (ev N σ)++c'.toArray=(L++(J.map (ev N σ)++c')).toArray:=by simp
       rw [this]; exact U
     · cases E
   · split at E
     · rename_i v1 h1 ao;cases E;have I:=al<|.cl f (a++(args++c)) h;rw [ao] at I;obtain ⟨ad,I⟩:=I;obtain ⟨fn,cd,ay,av⟩:=ax _ _ _ _ _ ao;have aw:=ar f fn cd ay av;refine ⟨ad,fun T r w N σ dst ty pos af g K Q hT ac Z ah=> ?_⟩;obtain ⟨u,us,C,ab,V⟩:=dC Z;simp only [fu,eR,kq] at C;obtain ⟨C,rfl⟩:=C;obtain ⟨L,c',ha,ag,rfl⟩:=kJ ab;have aB:=I T r w _ hT ac<|eI ha<|eI V ag;refine ⟨fun f _=>kM _ f,?_⟩;rw [o6,xq _ _ _ ai,dk,ym C];have :L.toArray++(⟨J⟩:Array aY).map (ev N σ)++c'.toArray=(L++(J.map (ev N σ)++c')).toArray:=by simp
       rw [this,aw];simp only [Oper.uponIn_enter];refine ⟨fun h0=>(by rw [qY] at h0; cases h0),CallsIn.mono (uk aB) ?_⟩;rintro e w' ⟨u,rfl,r',O,U⟩;exact ah r' u w' O U
     · cases E
 · rename_i l;split at E
   · rename_i v1 h1 aD;cases E;have I:=al<|.yl l args h;rw [aD] at I;obtain ⟨ad,I⟩:=I;refine ⟨ad,fun T r w N σ dst ty pos af g K Q hT ac Z ah=> ?_⟩;obtain ⟨u,us,C,ab,V⟩:=dC Z;simp only [fu,eR,kq] at C;obtain ⟨C,rfl⟩:=C;obtain ⟨q,aA,rfl⟩:=tZ ab;obtain ⟨fn,tmps,aa,ak,aC,am⟩:=I T r w _ q hT ac V aA;refine ⟨fun f _=>kM _ f,?_⟩;rw [o6,xq _ _ _ ai,dk];have aj:(execOp (ev N σ) ⟨dst,.call ⟨.value fo,⟨J⟩,ae⟩,ty,pos,af,g⟩).run P w= .ok (.round q.an fn tmps aa ak) w:=by
      have hm:(⟨J⟩:Array aY).map (ev N σ)=(J.map<|ev N σ).toArray:=by simp
      simp only [execOp,resolve,C,lk,hH,kn,gD,invoke];simp [aC]
     rw [aj];simp only [sL];refine ⟨fun h0=>(by rw [qY] at h0; cases h0),?_⟩;have h1:RoundIn (fe N.r) (0 - 1) P q.an fn tmps aa ak w fun e w'=> ∃ u r',e= .returned u∧den r' v=some u∧St P G T r h w r' h' w':=by
      cases hr:N.r with
      | none=>exact am
      | some k=>exact am
     refine RoundIn.mono h1 ?_;rintro e w' ⟨u,r',rfl,O,U⟩;exact ah r' u w' O U
   · cases E
 · cases E
theorem AJ (Z:Good P G ih) (ab:gF P G X) (V:fC P) (ac:∀ f args h v h',ih (.cl f args h)= .rv v h'→∃ fn c,P.funcs[f]? =some fn∧fn.body=some c) {o:Op} {xs:List AV} {h h':Hp} {v:AV} (C:pC P G X ih o xs h= .v v h'):jn P G o xs h v h':=by
 unfold pC at C;split at C
 · rename_i v1 hp;cases C;have I:∀ c,o≠.defer c:=fun c e=>by subst e; simp [l8] at hp
   refine jn.run I (aZ _) fun T r w N σ dst ty pos af g hT E J=> ?_;obtain ⟨u,h1,L⟩:=AI (dst:=dst) (ty:=ty) (pos :=pos) (af:=af) (g:=g) hp J;exact ⟨r,u,w,h1,.inl (L w),St.refl E⟩
 · split at C
   · rename_i v1 U;cases C;have I:∀ c,o≠.defer c:=fun c e=>by subst e; simp [iw] at U
     refine jn.run I (aZ _) fun T r w N σ dst ty pos af g hT E J=> ?_;obtain ⟨u,h1,L⟩:=AH (dst:=dst) (ty:=ty) (pos :=pos) (af:=af) (g:=g) E U J;exact ⟨r,u,w,h1,.inl L,St.refl E⟩
   · split at C
     · rename_i fo O ad;split at C
       · obtain ⟨O⟩:=O;exact Em Z ab V ac C
       · cases C
     · split at C <;> cases C
     · rename_i ae I;split at C
       · rename_i v1 h1 hm;cases C;have I:∀ c,o≠.defer c:=fun c e=>by subst e; simp [nE] at hm
         exact jn.run I (Hs hm) fun T r w N σ dst ty pos af g hT E J=>Ht E hm hT J
       · split at C
         · rename_i v1 h1 hm;cases hle:ba h.nx h1.nx
           · rw [hle] at C; cases C
           rw [hle] at C;cases C;have I:∀ c,o≠.defer c:=fun c e=>by subst e; simp [rI] at hm
           exact jn.run I (bJ hle) fun T r w N σ dst ty pos af g hT E J=>Hu E hm hT J
         · cases C
end
end Go.Hb
namespace Go.Hb
section
variable {P:ar} {G:Nat} {X:Xt} {ih:Tk→Rs} {n:Nat} {r:Rn}
theorem nS {fr E:Tr AV} {d:Option Nat} {v:AV} {u:ag} {σ:Nat→ag} (C:eY n fr d v=some E) (J:dJ r n fr σ) (L:den r v=some u):dJ r n E (dc σ d u):=by
 cases d with
 | none=>simp only [eY,bD] at C; subst C; exact J
 | some d=>
   simp only [eY] at C;replace C:=aX C; obtain ⟨I,C⟩:=C;simp only [a9] at I;cases C;intro i hi;simp only [dc,bd,cQ,Tr.jZ _ _ _ _ I.2];by_cases e:i=d
   · subst e;rw [if_pos rfl,show aN i i=true from by simp]; exact L
   · rw [if_neg e,show aN i d=false from by
      cases hb:aN i d
      · rfl
      · exact absurd (bH hb) e]
     exact J i hi
theorem uA {ops:List aC} {fr:Tr AV} {o:aC} {N:Fm} {σ:Nat→ag} (hg:iV N.n ops fr o.guard= .y) (C:dJ r N.n fr σ):ji o (yielded ops.toArray (act N σ).tmps)=true :=by
 unfold iV at hg;split at hg
 · exact fw _ (by assumption) _
 · rename_i j want E;split at hg
   · rename_i O I;split at hg
     · rename_i t J;cases hb:aD t N.n
       · rw [hb] at hg; cases hg
       · rw [hb] at hg;simp only [cond_true] at hg;split at hg
         · rename_i b L;cases hbw:(b==want)
           · rw [hbw] at hg; cases hg
           · have h1:=C t<|cn.1 hb;rw [L] at h1;rw [lh E (by simp [dz,I,J]) hb (il h1),hbw]
         · cases hg
         · cases hg
     · cases hg
   · cases hg
theorem zJ {ops:List aC} {fr:Tr AV} {o:aC} {N:Fm} {σ:Nat→ag} (hg:iV N.n ops fr o.guard= .n) (E:dJ r N.n fr σ):ji o (yielded ops.toArray (act N σ).tmps)=false :=by
 unfold iV at hg;split at hg
 · cases hg
 · rename_i j want I;split at hg
   · rename_i O J;split at hg
     · rename_i t L;cases hb:aD t N.n
       · rw [hb] at hg; cases hg
       · rw [hb] at hg;simp only [cond_true] at hg;split at hg
         · rename_i b C;cases hbw:(b==want)
           · have h1:=E t<|cn.1 hb;rw [C] at h1;rw [lh I (by simp [dz,J,L]) hb (il h1),hbw]
           · rw [hbw] at hg; cases hg
         · rename_i C;have h1:=E t<|cn.1 hb;rw [C] at h1;rw [gH] at h1;exact wR I (by simp [dz,J,L]) hb (gE h1).symm
         · cases hg
     · cases hg
   · cases hg
theorem pD (ad:Good P G ih) (ae:gF P G X) (ac:fC P) (ag:∀ f args h v h',ih (.cl f args h)= .rv v h'→∃ fn c,P.funcs[f]? =some fn∧fn.body=some c) {rd:Option Nat} {ops:List aC} :∀ {l:List aC} {fr ab:Tr AV} {D Z:List AD} {h h':Hp},
 je P G X ih rd n ops l fr D h= .cd .bX ab Z h'→de P G rd n (fun rr Q a w=>wpListIn (fe rr) 0 P ops.toArray Q l a w) fr D h .bX ab Z h'
 | [],fr,ab,D,Z,h,h',he=>by
   simp only [je,Rs.cd.injEq,true_and] at he;obtain ⟨rfl,rfl,rfl⟩:=he;exact ⟨aZ _,fun T r w σ Dl rr Q hT E C L U O=>O r w σ Dl (St.refl E) C L⟩
 | o::l,fr,ab,D,Z,h,h',he=>by
   simp only [je] at he;split at he
   · rename_i hg;split at he
     · rename_i xs an;split at he
       · rename_i v h1 bI;split at he
         · rename_i au V;obtain ⟨n1,s1⟩:=AJ ad ae ac ag bI;obtain ⟨n2,s2⟩:=pD ad ae ac ag he;refine ⟨cS n1 n2,fun T r w σ Dl rr Q hT E C L U O=> ?_⟩;show wpListIn _ _ _ _ _ _ _ _;unfold wpListIn;rw [if_pos (uA (N:=⟨n,Dl,[],rr⟩) hg C)];obtain ⟨d,op,ty,pos,af,g⟩:=o;refine s1 T r w ⟨n,Dl,[],rr⟩ σ d ty pos af g _ Q (cS n2 hT) E (rG E.ew C an) fun r' u w' hu bg=> ?_;rw [eu];exact s2 T r' w' _ Dl rr Q hT bg.hr (nS V (C.le bg.le) hu) (lN bg.le L) (AU bg.le U) fun ao ap aq ai am al ak=>O ao ap aq ai (bg.trans am) al ak
         · cases he
       · rename_i a bI;split at he
         · split at he
           · rename_i au V;obtain ⟨n2,s2⟩:=pD ad ae ac ag he;refine ⟨n2,fun T r w σ Dl rr Q hT E C L U O=> ?_⟩;have aB:rr=none:=by
              cases rr with
              | none=>rfl
              | some k=>exact U.elim
             subst aB;show wpListIn _ _ _ _ _ _ _ _;unfold wpListIn;rw [if_pos (uA (N:=⟨n,Dl,[],none⟩) hg C)];obtain ⟨d,op,ty,pos,af,g⟩:=o;simp only at bI an V;have aE:=rG (N:=⟨n,Dl,[],none⟩) E.ew C an;unfold pC at bI;split at bI
             · cases bI
             · split at bI
               · cases bI
               · split at bI
                 · rename_i fo I ar;split at bI
                   · unfold qK at bI;split at bI
                     · split at bI
                       · split at bI <;> cases bI
                       · split at bI <;> cases bI
                     · split at bI <;> cases bI
                     · cases bI
                   · cases bI
                 · rename_i fo I ar _ _;split at bI
                   · rename_i f aF c' args _ _;cases bI;obtain ⟨I⟩:=I;obtain ⟨u,us,ah,ay,aw⟩:=dC aE;simp only [fu,eR,kq] at ah;obtain ⟨ah,rfl⟩:=ah;obtain ⟨aj,c2,ha,ax,rfl⟩:=kJ ay;refine ⟨fun f _=>trivial,?_⟩;have aD:(execOp (ev ⟨n,Dl,[],none⟩ σ) ⟨d,.defer ⟨.value fo,⟨I⟩,ar⟩,ty,pos,af,g⟩).run P w= .ok (.defer {target:= .fn (.func f) c2.toArray,args:=aj.toArray++(⟨I⟩:Array aY).map (ev ⟨n,Dl,[],none⟩ σ)}) w:=by
                      simp [execOp,resolve,ah,lk]
                     show sL _ _ _ _ _ _ _ (kj P (Oper.semAt (fe none).round _ _) w);rw [o6,Oper.semAt_none,dk,aD];simp only [Oper.uponIn_defer];have aA:({(act ⟨n,Dl,[],none⟩ σ) with defers:= {target:=Target.fn (.func f) c2.toArray,args:=aj.toArray++(⟨I⟩:Array aY).map (ev ⟨n,Dl,[],none⟩ σ)} ::(act ⟨n,Dl,[],none⟩ σ).defers} :Act)=act ⟨n,{target:= .fn (.func f) c2.toArray,args:=aj.toArray++(⟨I⟩:Array aY).map (ev ⟨n,Dl,[],none⟩ σ)} ::Dl,[],none⟩ σ:=rfl;rw [aA,eu];refine s2 T r w _ _ none Q hT E (nS V C<|gH r) ⟨⟨_,_,_,eI ha (eI aw ax),J,by simp⟩,L⟩ U fun ao ap aq ai am al ak=>O ao ap aq ai am al ak
                   · cases bI
                 · split at bI
                   · cases bI
                   · split at bI
                     · rename_i av _;cases hle:ba h.nx av.nx
                       · rw [hle] at bI; cases bI
                       · rw [hle] at bI; cases bI
                     · cases bI
           · cases he
         · cases he
       · cases he
     · cases he
   · rename_i hg;split at he
     · rename_i au V;obtain ⟨n2,s2⟩:=pD ad ae ac ag he;refine ⟨n2,fun T r w σ Dl rr Q hT E C L U O=> ?_⟩;show wpListIn _ _ _ _ _ _ _ _;unfold wpListIn;rw [if_neg (by rw [zJ (N:=⟨n,Dl,[],rr⟩) hg C]; simp)];refine ⟨fun f _=>kM _ f,?_⟩;rw [eu];exact s2 T r w _ Dl rr Q hT E (nS V C<|gH r) L U O
     · cases he
   · cases he
end
end Go.Hb
namespace Go.Hb
section
variable {P:ar} {G:Nat} {X:Xt} {ih:Tk→Rs} {n:Nat} {r:Rn} {T:Nat} {h:Hp} {w:ah}
theorem HR.loop (hr:HR P G r T h w) {l:Nat} {st:LoopState} {I:Option bF} {fr:Tr AV} {ps:List Nat} {aR body:bF} {D:Nat} (U:h.t.get l=some (.loop st I n fr ps aR body D)):
 ∃ q fn C E,r l=some q∧w.heap[q.an]? =some (.loop {state:=st,pending:=I,fn:=fn,tmps:=C,params:=ps.toArray,assign:=aR,body:=body,defers:=E})∧(∃ x,r D=some x∧x.an=E)∧C.size=n∧∀ i,i < n→den r (cQ fr i)=C[i]? :=by
 obtain ⟨q,V,fn,C,E,h1,J,L,O⟩:=hr.live l _ U;exact ⟨q,fn,C,E,V,h1,J,L,O⟩
theorem HR.vH (hr:HR P G r T h w) {l:Nat} {q:Loc} {st st':LoopState} {I pe':Option bF} {fr:Tr AV} {ps:List Nat} {aR body:bF} {D fn E:Nat} {C:Array ag} (Z:h.t.get l=some (.loop st I n fr ps aR body D)) (O:ba G l=true) (hb:aD l bT=true) (ab:r l=some q)
 (hw:w.heap[q.an]? =some (.loop {state:=st,pending:=I,fn:=fn,tmps:=C,params:=ps.toArray,assign:=aR,body:=body,defers:=E})) (L:∃ x,r D=some x∧x.an=E) (ac:C.size=n) (U:∀ i,i < n→den r (cQ fr i)=C[i]?):
 St P G T r h w r ⟨h.t.set l (.loop st' pe' n fr ps aR body D),h.nx⟩ (w.putObj q.an<|.loop {state:=st',pending:=pe',fn:=fn,tmps:=C,params:=ps.toArray,assign:=aR,body:=body,defers:=E}):=by
 have aP:=(eC.1 hw).1;refine hr.j7 Z hb ab (bJ O) ?_ ⟨J,J,by simp [C1],fun k _ V=>C2 V⟩;rw [C3 aP];exact ⟨fn,C,E,J,L,ac,U⟩
theorem Bl {σ:Nat→ag} :∀ {ps:List Nat} {args:List AV} {L:List ag} {fr C:Tr AV},ma n ps args fr=some C→dJ r n fr σ→aI r args=some L→L.length=ps.length∧dJ r n C ((ps.zip L).foldl (fun s p=>bd s p.1 p.2) σ)
 | [],[],L,fr,C,hs,hf,hd=>by
   simp only [ma,bD] at hs;subst hs;rw [jq hd]; exact ⟨rfl,hf⟩
 | [],_::_,_,_,_,hs,_,_=>by simp [ma] at hs
 | _::_,[],_,_,_,hs,_,_=>by simp [ma] at hs
 | p::ps,v::vs,L,fr,C,hs,hf,hd=>by
   simp only [ma] at hs;split at hs
   · rename_i V h1;obtain ⟨u,us,rfl,I,J⟩:=dC hd;have E:=nS h1 hf I;simp only [dc] at E;obtain ⟨O,U⟩:=Bl hs E J;exact ⟨by simp [O],U⟩
   · cases hs
theorem DP (N:Fm) (l:List (Tmp×ag)) (σ:Nat→ag):l.foldl (fun t p=>t.setIfInBounds p.1 p.2) (act N σ).tmps=(act N<|l.foldl (fun s p=>bd s p.1 p.2) σ).tmps:=DO N l σ
theorem DN {C:Array ag} {N:Fm} (E:C.size=N.n):C=(act N fun i=>C.getD i undef).tmps:=by
 apply Array.ext_getElem?;intro i;rw [ij];by_cases hi:i < N.n
 · rw [if_pos hi,g9,mG U]; rfl
 · rw [if_neg hi,Array.getElem?_eq_none U]
theorem EE {c:Bool} {p:Rs} {v:AV} {h:Hp} (C:cond c p .no= .rv v h):c=true∧p= .rv v h:=by
 cases c
 · cases C
 · exact ⟨J,C⟩
theorem Kd (am:Good P G ih) {l:Nat} {args:List AV} {h':Hp} {v:AV} (C:pY G ih l args h= .rv v h'):tu P G l args h v h':=by
 unfold pY at C;split at C
 · rename_i bn n fr ps aR body d aU;split at C
   · rename_i aE aX;split at C
     · rename_i aF h1 aJ;have s1:=am<|.cd (some l) n aR aE [] h;rw [aJ] at s1;obtain ⟨n1,s1⟩:=s1;split at C
       · rename_i ax m1 aD a4 aB aC d1 ao;replace C:=EE C; obtain ⟨I,C⟩:=C;simp only [a9] at I;split at C
         · rename_i e bi O aK;have s2:=am<|.cd (some l) n body aF [] ⟨h1.t.set l (.loop .busy ax m1 aD a4 aB aC d1),h1.nx⟩;rw [aK] at s2;obtain ⟨n2,s2⟩:=s2;simp only at n2;split at C
           · rename_i bo aw al ay ai aj d2 ap;have key:∀ (jump:Option bF) (st:LoopState),jump=zo e→st=(if jump.isNone then .ready else .done)→v= .bool jump.isNone→h'=⟨O.t.set l (.loop st jump aw al ay ai aj d2),O.nx⟩→tu P G l args h v h':=by
              intro jump st ad bg a3 aT;subst a3 aT;refine ⟨cS n1 n2,fun T r w L q hT hr aL ae=> ?_⟩;simp only at hT;obtain ⟨q',fn,E,br,aq,hw,bj,aZ,aP⟩:=hr.loop aU;rw [ae] at aq; cases aq;have aY:=Bl (σ:=fun i=>E.getD i undef) aX (fun i hi=>by
               show den r (cQ fr i)=some (E.getD i undef);rw [aP i hi,g9,mG U]; rfl) aL
              obtain ⟨hlen,aN⟩:=aY;have aW:=run_yield (P:=P) (args:=L.toArray) hw<|by simpa using hlen
              refine ⟨_,_,_,_,aW,roundIn_of_wpIn (F:=iD) trivial ?_⟩;have a2:((ps.toArray.zip L.toArray).foldl (fun tmps (p:Tmp×ag)=>tmps.setIfInBounds p.1 p.2) E)=(act ⟨n,[],[],some q.an⟩<|(ps.zip L).foldl (fun s p=>bd s p.1 p.2) fun i=>E.getD i undef).tmps:=by
               rw [← Cn,Array.toList_zip];simp only [];rw [← DP ⟨n,[],[],some q.an⟩];rw [← DN (N:=⟨n,[],[],some q.an⟩) aZ]
              have ak:({tmps:=((ps.toArray.zip L.toArray).foldl (fun tmps (p:Tmp×ag)=>tmps.setIfInBounds p.1 p.2) E),defers:= []} :Act)=act ⟨n,[],[],some q.an⟩ ((ps.zip L).foldl (fun s p=>bd s p.1 p.2) fun i=>E.getD i undef):=by rw [a2]; rfl
              simp only at ak ⊢;rw [ak];refine s1 T r w _ [] (some q.an) _ U hr aN trivial ⟨q,ae,J⟩ fun a5 bx bb ah Z aO aM=> ?_;have aI:ah= []:=by cases ah; rfl; exact aM.elim
              subst aI;obtain ⟨bp,bf,bv,bt,V,au,aG,a0,aQ⟩:=Z.hr.loop ao;have :=Z.le _ _ ae;rw [V] at this; cases this;have aA:=Z.hr.vH (st':= .busy) (pe':=ax) ao I.1 I.2 V au aG a0 aQ;refine ⟨_,run_beginRound au J,?_⟩;refine s2 T a5 _ bb [] (some q.an) _ U aA.hr aO trivial ⟨q,V,J⟩ fun a6 ba bz bc ab bm bl=> ?_;obtain ⟨bq,bh,bw,bu,ar,av,aH,a1,aS⟩:=ab.hr.loop ap;have :=ab.le _ _ V;rw [ar] at this; cases this;have a7:=ab.hr.vH (st':=st) (pe':=jump) ap I.1 I.2 ar av aH a1 aS;have ac:=run_endRound (P:=P) jump av;simp only at ac;rw [← bg] at ac;have a8:=St.trans (St.trans (St.trans Z aA) ab) a7;have fin:∃ v w',(Instr.endRound q.an jump).run P ba= .ok v w'∧∃ u r',(Ending.returned v)= .returned u∧den r' (.bool jump.isNone)=some u∧St P G T r h w r' ⟨O.t.set l (.loop st jump aw al ay ai aj d2),O.nx⟩ w':=
               ⟨_,_,ac,_,a6,rfl,rfl,a8⟩
              cases e with
              | bX=>subst ad; exact fin
              | ret=>subst ad; exact fin
              | ext i=>subst ad; exact fin
             split at C
             · cases C;exact key none .ready J J J J
             · rename_i aV;cases C;cases e with
               | bX=>exact absurd rfl aV
               | ret=>exact key (some .ret) .done rfl rfl rfl rfl
               | ext i=>exact key (some<|.exit i) .done rfl rfl rfl rfl
           · cases C
         · cases C
       · cases C
     · cases C
   · cases C
 · cases C
end
end Go.Hb
namespace Go.Hb
section
variable {P:ar} {G:Nat} {X:Xt} {ih:Tk→Rs} {n:Nat} {r:Rn} {T:Nat} {h:Hp} {w:ah}
theorem ED {c:Bool} {p:Rs} {e:EX} {fr:Tr AV} {D:List AD} {h:Hp} (C:cond c p .no= .cd e fr D h):c=true∧p= .cd e fr D h:=by
 cases c
 · cases C
 · exact ⟨J,C⟩
theorem za (am:Good P G ih) {rd:Option Nat} {fr L:Tr AV} {D J:List AD} {l:Nat} {h':Hp} {e:EX} (he:ni G ih rd n fr D l h= .cd e L J h'):h.nx≤h'.nx∧
 ∀ (T:Nat) (r:Rn) (w:ah) (σ:Nat→ag) (Dl:List Deferred) (rr:Option Nat) (Q:bo→Act→ah→Prop) (q:Loc) (u:ag),h'.nx≤T→HR P G r T h w→r l=some q→dJ r n fr σ→iR r D Dl→pH r rd rr→
   (∀ (r':Rn) (w':ah) (σ':Nat→ag) (I:List Deferred),St P G T r h w r' h' w'→dJ r' n L σ'→iR r' J I→Q (iT e) (act ⟨n,I,[],rr⟩ σ') w')→rangePost (fe rr) 0 P q.an Q (act ⟨n,Dl,[],rr⟩ σ) (.returned u) w:=by
 unfold ni at he;split at he
 · rename_i st C m O ps aR body d ae;have key:cond (ba G l && aD l bT) (match C with
    | none=>Rs.cd .bX fr D ⟨h.t.set l (.loop .exhausted C m O ps aR body d),h.nx⟩
    | some c=>ih (.cd rd n c fr D ⟨h.t.set l (.loop .exhausted C m O ps aR body d),h.nx⟩)) .no= .cd e L J h'→st≠.busy→h.nx≤h'.nx∧
   ∀ (T:Nat) (r:Rn) (w:ah) (σ:Nat→ag) (Dl:List Deferred) (rr:Option Nat) (Q:bo→Act→ah→Prop) (q:Loc) (u:ag),h'.nx≤T→HR P G r T h w→r l=some q→dJ r n fr σ→iR r D Dl→pH r rd rr→
     (∀ (r':Rn) (w':ah) (σ':Nat→ag) (I:List Deferred),St P G T r h w r' h' w'→dJ r' n L σ'→iR r' J I→Q (iT e) (act ⟨n,I,[],rr⟩ σ') w')→rangePost (fe rr) 0 P q.an Q (act ⟨n,Dl,[],rr⟩ σ) (.returned u) w:=by
     intro he bg;obtain ⟨V,he⟩:=ED he;simp only [a9] at V;have run:∀ (r:Rn) (w:ah) (T:Nat) (q:Loc),HR P G r T h w→r l=some q→∃ w',(Instr.endLoop q.an).run P w= .ok C w'∧St P G T r h w r ⟨h.t.set l (.loop .exhausted C m O ps aR body d),h.nx⟩ w':=by
      intro r w T q hr E;obtain ⟨q',fn,aB,aA,ai,hw,al,au,aq⟩:=hr.loop ae;rw [E] at ai; cases ai;exact ⟨_,run_endLoop (P:=P) hw bg,hr.vH (st':= .exhausted) (pe':=C) ae V.1 V.2 E hw al au aq⟩
     cases C with
     | none=>
       cases he;refine ⟨aZ _,fun T r w σ Dl rr Q q u hT hr E ab Z aj ac=> ?_⟩;obtain ⟨w',ad,U⟩:=run r w T q hr E;exact ⟨none,w',ad,ac r w' σ Dl U ab Z⟩
     | some c=>
       simp only at he;have s1:=am<|.cd rd n c fr D ⟨h.t.set l (.loop .exhausted (some c) m O ps aR body d),h.nx⟩;rw [he] at s1;obtain ⟨n1,s1⟩:=s1;refine ⟨n1,fun T r w σ Dl rr Q q u hT hr E ab Z aj ac=> ?_⟩;obtain ⟨w',ad,U⟩:=run r w T q hr E;exact ⟨some c,w',ad,s1 T r w' σ Dl rr Q hT U.hr ab Z aj fun av ax ay ak aw ap ao=>ac av ax ay ak (U.trans aw) ap ao⟩
   split at he
   · cases he
   · rename_i ar;exact key he ar
 · cases he
theorem HM (ag:Good P G ih) (aM:fC P) (aN:∀ f args h v h',ih (.cl f args h)= .rv v h'→∃ fn c,P.funcs[f]? =some fn∧fn.body=some c) {rd:Option Nat} {g:aY} {ps:List Nat} {aR body:bF} {fr aL:Tr AV} {D aK:List AD} {h':Hp} {e:EX} (he:nN ih G rd n g ps aR body fr D h= .cd e aL aK h'):
 de P G rd n (fun rr Q a w=>(Code.rangeFunc g ⟨ps⟩ aR body).wpIn (fe rr) 0 P Q a w) fr D h e aL aK h':=by
 unfold nN at he;split at he
 · rename_i f a c hg;split at he
   · split at he
     · rename_i h1 aO;split at he
       · rename_i am ac;split at he
         · rename_i v aW ab;have s1:=ag<|.cl f (a++(.fM h1.nx::c)) am;rw [ab] at s1;obtain ⟨m1,s1⟩:=s1;obtain ⟨a7,s2⟩:=za ag he;have bf:=ju aO;have a6:=ju ac;obtain ⟨al,ak,aA,aq⟩:=aN _ _ _ _ _ ab;have ar:=aM f al ak aA aq;refine ⟨U,fun T r w σ Dl rr Q hT hr V av ah aB=> ?_⟩;have a1:rr=none:=by
            cases rr with
            | none=>rfl
            | some k=>exact ah.elim
           subst a1;refine wpIn_rangeFunc ?_;intro fn _;have O:=pB (N:=⟨n,Dl,[],none⟩) hr.ew V hg;obtain ⟨C,c',ha,au,O⟩:=kJ O;obtain ⟨bl,aP,aE⟩:=hr.cJ aO U 0 (w':=w.alloc<|.deferred<|some []) rfl rfl rfl fun r' _ _=>rfl;have a2:(w.alloc<|.deferred<|some []).heap.size=w.heap.size+1:=World.size_alloc _ _;obtain ⟨ae,Z,I⟩:=aE.hr.cJ ac U 0 (w':=(w.alloc<|.deferred<|some []).alloc<|.loop {state:= .ready,pending:=none,fn:=fn,tmps:=(act ⟨n,Dl,[],none⟩ σ).tmps,params:=⟨ps⟩,assign:=aR,body:=body,defers:=w.heap.size}) rfl rfl rfl fun r' hle _=>by
            refine ⟨fn,(act ⟨n,Dl,[],none⟩ σ).tmps,w.heap.size,J,⟨_,hle _ _ aP,J⟩,by simp [act],fun i hi=> ?_⟩;rw [ij,if_pos hi];exact jT hle<|jT aE.le<|V i hi
           have aF:=aE.trans I;rw [a2] at Z;have ao:=eI (gr aF.le ha)<|dx (show den ae (.fM h1.nx)=some (.func (.yield<|w.heap.size+1) #[] #[]) from by simp only [den,Z])<|gr aF.le au;have aC:=s1 T ae _ _ U I.hr ao;refine ⟨w.heap.size+1,[{target:= .collected w.heap.size,args:= #[]}],((w.alloc<|.deferred<|some []).alloc<|.loop {state:= .ready,pending:=none,fn:=fn,tmps:=(act ⟨n,Dl,[],none⟩ σ).tmps,params:=⟨ps⟩,assign:=aR,body:=body,defers:=w.heap.size}),{target:= .fn (.func f) c'.toArray,args:=C.toArray++ #[.func (.yield<|w.heap.size+1) #[] #[]]},((w.alloc<|.deferred<|some []).alloc<|.loop {state:= .ready,pending:=none,fn:=fn,tmps:=(act ⟨n,Dl,[],none⟩ σ).tmps,params:=⟨ps⟩,assign:=aR,body:=body,defers:=w.heap.size}),f,(C++(.func (.yield<|w.heap.size+1) #[] #[]::c')).toArray,_,?_,?_,fun _ _=>trivial,?_,fun h0=>(by cases h0),callsIn_wide.2<|jG aC ?_⟩
           · exact run_enterLoop_outer _ _ _ _ _
           · have ax:(act ⟨n,Dl,[],none⟩ σ).eval g= .func (.func f) C.toArray c'.toArray:=by rw [dk]; exact O
             simp only [resolve,ax];simp [go_sem]
           · have ap:C.toArray++ #[.func (.yield<|w.heap.size+1) #[] #[]]++c'.toArray=(C++(.func (.yield<|w.heap.size+1) #[] #[]::c')).toArray:=by simp
             have :=ar (C++(.func (.yield<|w.heap.size+1) #[] #[]::c')).toArray<|(w.alloc<|.deferred<|some []).alloc<|.loop {state:= .ready,pending:=none,fn:=fn,tmps:=(act ⟨n,Dl,[],none⟩ σ).tmps,params:=⟨ps⟩,assign:=aR,body:=body,defers:=w.heap.size};simp only [invoke,ap];exact this
           · rintro aU aH ⟨u,rfl,ai,_,L⟩;have db:=aF.trans L;have hm:ai h.nx=some ⟨w.heap.size,0,0⟩:=L.le _ _<|I.le _ _ aP;exact s2 T ai aH σ ({target:= .collected w.heap.size,args:= #[]} ::Dl) none Q ⟨w.heap.size+1,0,0⟩ u hT L.hr (L.le _ _ Z) (V.le db.le) ⟨⟨_,hm,J⟩,lN db.le av⟩ trivial fun aD aI aJ aj aG ay aw=>aB aD aI aJ aj (db.trans aG) ay aw
         · cases he
       · cases he
     · cases he
   · rename_i bg;split at he
     · rename_i bm bh m0 bb bi a8 a9 d aZ;split at he
       · rename_i am ac;split at he
         · rename_i v aW ab;have s1:=ag<|.cl f (a++(.fM h.nx::c)) am;rw [ab] at s1;obtain ⟨m1,s1⟩:=s1;obtain ⟨a7,s2⟩:=za ag he;have a6:=ju ac;obtain ⟨al,ak,aA,aq⟩:=aN _ _ _ _ _ ab;have ar:=aM f al ak aA aq;refine ⟨U,fun T r w σ Dl rr Q hT hr V av ah aB=> ?_⟩;obtain ⟨aT,rfl⟩:∃ aT,rr=some aT:=by
            cases rr with
            | none=>exact ah.elim
            | some k=>exact ⟨k,rfl⟩
           obtain ⟨E,aQ,a0⟩:=ah;obtain ⟨bj,ba,bn,ad,aS,a3,aX,bd,bc⟩:=hr.loop aZ;rw [aQ] at aS; cases aS;subst a0;refine wpIn_rangeFunc ?_;intro fn _;have O:=pB (N:=⟨n,Dl,[],some E.an⟩) hr.ew V hg;obtain ⟨C,c',ha,au,O⟩:=kJ O;obtain ⟨ae,Z,I⟩:=hr.cJ ac U 0 (w':=w.alloc<|.loop {state:= .ready,pending:=none,fn:=fn,tmps:=(act ⟨n,Dl,[],some E.an⟩ σ).tmps,params:=⟨ps⟩,assign:=aR,body:=body,defers:=ad}) rfl rfl rfl fun r' hle _=>by
            obtain ⟨x,a4,a5⟩:=aX;refine ⟨fn,(act ⟨n,Dl,[],some E.an⟩ σ).tmps,ad,J,⟨x,hle _ _ a4,a5⟩,by simp [act],fun i hi=> ?_⟩;rw [ij,if_pos hi];exact jT hle<|V i hi
           have ao:=eI (gr I.le ha)<|dx (show den ae (.fM h.nx)=some (.func (.yield w.heap.size) #[] #[]) from by simp only [den,Z])<|gr I.le au;have aC:=s1 T ae _ _ U I.hr ao;refine ⟨w.heap.size,[],(w.alloc<|.loop {state:= .ready,pending:=none,fn:=fn,tmps:=(act ⟨n,Dl,[],some E.an⟩ σ).tmps,params:=⟨ps⟩,assign:=aR,body:=body,defers:=ad}),{target:= .fn (.func f) c'.toArray,args:=C.toArray++ #[.func (.yield w.heap.size) #[] #[]]},(w.alloc<|.loop {state:= .ready,pending:=none,fn:=fn,tmps:=(act ⟨n,Dl,[],some E.an⟩ σ).tmps,params:=⟨ps⟩,assign:=aR,body:=body,defers:=ad}),f,(C++(.func (.yield w.heap.size) #[] #[]::c')).toArray,_,?_,?_,fun aV _=>kM _ aV,?_,fun h0=>(by cases h0),uk<|jG aC ?_⟩
           · exact run_enterLoop_inner a3 _ _ _ _ _
           · have ax:(act ⟨n,Dl,[],some E.an⟩ σ).eval g= .func (.func f) C.toArray c'.toArray:=by rw [dk]; exact O
             simp only [resolve,ax];simp [go_sem]
           · have ap:C.toArray++ #[.func (.yield w.heap.size) #[] #[]]++c'.toArray=(C++(.func (.yield w.heap.size) #[] #[]::c')).toArray:=by simp
             have :=ar (C++(.func (.yield w.heap.size) #[] #[]::c')).toArray<|w.alloc<|.loop {state:= .ready,pending:=none,fn:=fn,tmps:=(act ⟨n,Dl,[],some E.an⟩ σ).tmps,params:=⟨ps⟩,assign:=aR,body:=body,defers:=ad};simp only [invoke,ap];exact this
           · rintro aU aH ⟨u,rfl,ai,_,L⟩;have db:=I.trans L;exact s2 T ai aH σ _ (some E.an) Q ⟨w.heap.size,0,0⟩ u hT L.hr (L.le _ _ Z) (V.le db.le) (lN db.le av) ⟨E,db.le _ _ aQ,J⟩ fun aD aI aJ aj aG ay aw=>aB aD aI aJ aj (db.trans aG) ay aw
         · cases he
       · cases he
     · cases he
 · cases he
theorem vw {N:Fm} {σ:Nat→ag} (hr:HR P G r T h w) {fr:Tr AV} (L:dJ r N.n fr σ):∀ {l:List ResultVar} {vs:List AV},gT P N.n fr h l=some vs→∃ us,aI r vs=some us∧(l.mapM<|kd (act N σ).tmps).run P w= .ok us w
 | [],vs,C=>by
   simp only [gT,bD] at C;subst C;exact ⟨[],by simp [aI],by simp⟩
 | .tmp t::l,vs,C=>by
   simp only [gT] at C;split at C
   · rename_i ah I;replace C:=aX C; obtain ⟨E,C⟩:=C;cases C;obtain ⟨us,h1,O⟩:=vw hr L I;have U:=L t<|cn.1 E;have Z:=jg (P:=P) (w:=w)<|pI (P:=P) (N:=N) (σ:=σ) (w:=w) (t:=t);have J:ev N σ (.tmp t)=σ t:=by simp only [ev,E,cond_true]
     rw [J] at Z;exact ⟨σ t::us,dx U h1,by simp [Dg,Z,O]⟩
   · cases C
 | .cell a t::l,vs,C=>by
   simp only [gT] at C;split at C
   · rename_i ah I;replace C:=aX C; obtain ⟨E,C⟩:=C;split at C
     · rename_i v cR;cases C;obtain ⟨us,h1,O⟩:=vw hr L I;have U:=L a<|cn.1 E;have J:ev N σ (.tmp a)=σ a:=by simp only [ev,E,cond_true]
       obtain ⟨b,off,u,ab,hu,ac⟩:=Aa hr cR U;have ad:jN P N σ w (.cell a t) u:=by
        rcases ac with ⟨ha,V⟩ | ⟨m,cs,ha,rfl,I,V⟩
        · exact ix (J.trans ab) ha V
        · exact gz (J.trans ab) ha I V
       have ae:=jg ad;exact ⟨u::us,dx hu h1,by simp [Dg,ae,O]⟩
     · cases C
   · cases C
theorem vy {N:Fm} {σ:Nat→ag} {fn:Func} (hr:HR P G r T h w) {fr:Tr AV} (L:dJ r N.n fr σ) {vs:List AV} (V:gT P N.n fr h fn.results.toList=some vs):∃ u,den r (l9 vs)=some u∧(results fn (act N σ).tmps).run P w= .ok u w:=by
 obtain ⟨us,h1,I⟩:=vw hr L V;have Z:(results fn (act N σ).tmps)=(do let vs ← fn.results.mapM (kd (act N σ).tmps); pure (if h:vs.size=1 then vs[0] else .tuple vs)):=rfl;have E:=cP h1;have C:(fn.results.mapM<|kd (act N σ).tmps).run P w= .ok us.toArray w:=by
  have :fn.results=fn.results.toList.toArray:=by simp
  rw [this,List.mapM_toArray];simp [I]
 rw [Z];unfold l9;split
 · obtain ⟨u,rfl⟩:=qq.1 (show us.length=1 from E);exact ⟨u,dZ h1,by simp [C]⟩
 · rename_i U;refine ⟨.tuple us.toArray,by simp only [den,h1],?_⟩;have O:us.length≠1:=fun e=>by
    rw [E] at e;obtain ⟨v,rfl⟩:=qq.1 e;exact U v J
   simp [C,O]
end
end Go.Hb
namespace Go.Hb
section
variable {P:ar} {G:Nat} {X:Xt} {ih:Tk→Rs} {n:Nat} {r:Rn} {T:Nat} {h:Hp} {w:ah}
theorem zz:∀ (l:List AV) (k:Nat) (fr:Tr AV) (i:Nat),k+l.length≤1048574→(gL k l fr).get i=if k≤i∧i < k+l.length then l[i - k]? else fr.get i
 | [],k,fr,i,_=>by rw [gL,if_neg (fun h=>by have :=h.1; have :=h.2; simp only [fP] at this; omega)]
 | v::l,k,fr,i,h=>by
   simp only [dd] at h;rw [gL,zz l (k+1) _ i U,Tr.jZ _ _ _ _ (cn.2 (show k < 1048574 by omega))];by_cases h1:k+1≤i∧i < k+1 +l.length
   · rw [if_pos h1,if_pos (by simp only [dd]; omega)];obtain ⟨m,hm⟩:∃ m,i - k=m+1:=⟨i - k - 1,U⟩
     rw [hm,hO,show i - (k+1)=m from by omega]
   · rw [if_neg h1];by_cases C:i=k
     · rw [if_pos C,if_pos (by simp only [dd]; omega),C]; simp
     · rw [if_neg C,if_neg (by simp only [dd]; omega)]
theorem uv {args:List AV} {L:List ag} (C:aI r args=some L) (hb:ba args.length n=true) (hn:aD n bT=true):dJ r n (gL 0 args .nil) (dh L):=by
 have hb:=bJ hb;have hn:n < 1048574:=cn.1 hn;have J:=cP C;intro i hi;simp only [cQ,zz args 0 .nil i U,dh,jM,true_and,cy,Nat.sub_zero];by_cases h1:i < args.length
 · rw [if_pos h1,bG h1];obtain ⟨u,E,I⟩:=m9 C<|bG h1;simp only [I,cr,E,ie]
 · rw [if_neg h1,Tr.get_nil];simp only [gH,cr];rw [lr U]; rfl
theorem yi {f:FuncId} {args:Array ag} {u:FrameMode} {R C:Ending→FrameMode→ah→Prop} (E:CallsDIn iD 0 P f args u w R) (hr:∀ e u w,R e u w→C e u w):CallsDIn iD 0 P f args u w C:=
 ⟨E.1,fun c cs hu I=>let ⟨e,u',w',fr,h1,h2⟩:=E.2 c cs hu I; ⟨e,u',w',fr,hr _ _ _ h1,h2⟩⟩
theorem En {f:FuncId} {fn:Func} {id N d:Nat} {ty:aq} {pos :String} {af:Array cq} {rest:List aC} {y:bF} {args:List ag} {R:ah→Prop}
 (L:P.funcs[f]? =some fn) (hb:fn.body=some (.seq (.region id ⟨⟨some d,.call ⟨.builtin .recover,⟨[]⟩,⟨[]⟩⟩,ty,pos,af,none⟩::rest⟩ false) y)) (aj:fn.ntmps=N) (hn:ba args.length N=true)
 (h:wpListIn (fe none) 0 P (⟨some d,.call ⟨.builtin .recover,⟨[]⟩,⟨[]⟩⟩,ty,pos,af,none⟩::rest).toArray (Exit.then (y.wpIn (fe none) 0 P fun e a w=>(e= .normal∨e= .ret)∧a.defers= []∧∃ v,(results fn a.tmps).run P w= .ok v w∧R w) fun _ _ _=>False) rest (act ⟨N,[],[],none⟩<|bd (dh args) d .nilIface) w):
 CallsDIn iD 0 P f args.toArray .returning w fun e aw w'=> ∃ v,e= .returned v∧aw= .returning∧R w':=by
 subst aj;refine ⟨trivial,fun C cs hu _=> ?_⟩
 let b:Frame:= {(default:Frame) with fn:=f,kind:= .deferred}
 have ak:Frame.enter P f args.toArray .deferred=b.at (act ⟨fn.ntmps,[],[],none⟩<|dh args) [.code (.seq (.region id ⟨⟨some d,.call ⟨.builtin .recover,⟨[]⟩,⟨[]⟩⟩,ty,pos,af,none⟩::rest⟩ false) y)]:=by
  rw [← nX fn args [] hn];simp [Frame.enter,Frame.at,L,hb,b]
 have au:lu (⟨⟨some d,.call ⟨.builtin .recover,⟨[]⟩,⟨[]⟩⟩,ty,pos,af,none⟩::rest⟩:Array aC).size=0::(lx 1 rest.length):=by
  rw [dY,dd,List.range_eq_range',List.range'_succ]
 have am:=wpOpsIn_eq_wpListIn (F:=fe none) (n:=0) (P:=P) (ops:=(⟨some d,.call ⟨.builtin .recover,⟨[]⟩,⟨[]⟩⟩,ty,pos,af,none⟩::rest).toArray) (Q:=Exit.then (y.wpIn (fe none) 0 P fun e a w=>(e= .normal∨e= .ret)∧a.defers= []∧∃ v,(results fn a.tmps).run P w= .ok v w∧R w) fun _ _ _=>False) rest 1 fun j=>by simp [sZ]
 rw [← am] at h;obtain ⟨e,ax,w',ac,E⟩:=wp_opsIn _ _ _ h b [.code y] (C::cs) rfl trivial (room_wide _);have E:=(arrivesIn_iff (b:=b) (fun _ _=>stepsIn_wide) rfl).1 E;have ap:step P (lone (b.at (act ⟨fn.ntmps,[],[],none⟩<|dh args) (.inRegion (⟨some d,.call ⟨.builtin .recover,⟨[]⟩,⟨[]⟩⟩,ty,pos,af,none⟩::rest).toArray (0::lx 1 rest.length)::[.code y])) (C::cs) w)=
  .next (lone (b.at (act ⟨fn.ntmps,[],[],none⟩<|bd (dh args) d .nilIface) (.inRegion (⟨some d,.call ⟨.builtin .recover,⟨[]⟩,⟨[]⟩⟩,ty,pos,af,none⟩::rest).toArray (lx 1 rest.length)::[.code y])) (C::cs) w):=by
  have hg:=stepG_op (P:=P) (b:=b) (a:=act ⟨fn.ntmps,[],[],none⟩<|dh args) (k:= [.code y]) (cs:=C::cs) (w:=w) (ops:=(⟨some d,.call ⟨.builtin .recover,⟨[]⟩,⟨[]⟩⟩,ty,pos,af,none⟩::rest).toArray) (i:=0) (rest:=lx 1 rest.length) (o:=⟨some d,.call ⟨.builtin .recover,⟨[]⟩,⟨[]⟩⟩,ty,pos,af,none⟩) rfl (fw _ rfl _);have av:(execOp (act ⟨fn.ntmps,[],[],none⟩<|dh args).eval ⟨some d,.call ⟨.builtin .recover,⟨[]⟩,⟨[]⟩⟩,ty,pos,af,none⟩).run P w= .ok .recover w:=by
   rw [dk];simp [execOp,resolve,invoke,builtin]
  have ae:=tryRecover_deferred (fr:=b.at (act ⟨fn.ntmps,[],[],none⟩<|dh args) (.inRegion (⟨some d,.call ⟨.builtin .recover,⟨[]⟩,⟨[]⟩⟩,ty,pos,af,none⟩::rest).toArray (0::lx 1 rest.length)::[.code y])) rfl (C::cs);have an:recoverD (C::cs)=none:=by simp [recoverD,hu]
  have al:(b.at (act ⟨fn.ntmps,[],[],none⟩<|dh args) (.inRegion (⟨some d,.call ⟨.builtin .recover,⟨[]⟩,⟨[]⟩⟩,ty,pos,af,none⟩::rest).toArray (0::lx 1 rest.length)::[.code y])).finish .nilIface=b.at (act ⟨fn.ntmps,[],[],none⟩<|bd (dh args) d .nilIface) (.inRegion (⟨some d,.call ⟨.builtin .recover,⟨[]⟩,⟨[]⟩⟩,ty,pos,af,none⟩::rest).toArray (lx 1 rest.length)::[.code y]):=by
   rw [Frame.finish_at];have :=eu ⟨fn.ntmps,[],[],none⟩ (dh args) (some d) .nilIface;simp only [dc] at this;rw [← this]; rfl
  refine step_lone_go ?_;rw [hg,← al];simp only [Frame.at] at ae ⊢;simp [stepG.apply,av,ae,an]
 have V:Steps P (lone (Frame.enter P f args.toArray .deferred) (C::cs) w) (lone (b.at (act ⟨fn.ntmps,[],[],none⟩<|bd (dh args) d .nilIface) (.inRegion (⟨some d,.call ⟨.builtin .recover,⟨[]⟩,⟨[]⟩⟩,ty,pos,af,none⟩::rest).toArray (lx 1 rest.length)::[.code y])) (C::cs) w):=by
  rw [ak];refine .head step_seq<|.head step_region ?_;rw [au];exact .one ap
 cases e with
 | normal=>
   obtain ⟨ay,O,ai,ao,I⟩:=ac b [] (C::cs) rfl trivial (room_wide _);have I:=(arrivesIn_iff (b:=b) (fun _ _=>stepsIn_wide) rfl).1 I;obtain ⟨kN,Z,v,ad,U⟩:=ao;have ab:({C with mode:= .returning} :Frame)=C:=by rw [← hu]
   rcases kN with rfl | rfl
   · refine ⟨.returned v,.returning,ai,{b.at O [] with mode:= .returning},⟨v,J,J,U⟩,?_,J,J,J,Z,fn,L,ad⟩;rw [ab];exact stepsIn_wide.2<|Steps.trans V<|Steps.trans E<|Steps.trans I<|.one step_end
   · obtain ⟨todo,ar⟩:=I;refine ⟨.returned v,.returning,ai,{b.at O todo with mode:= .returning},⟨v,J,J,U⟩,?_,J,J,J,Z,fn,L,ad⟩;rw [ab];exact stepsIn_wide.2<|Steps.trans V<|Steps.trans E ar
 | _=>exact ac.elim
theorem uW (U:Good P G ih) (O:fC P) (Z:∀ f args h v h',ih (.df f args h)= .rv v h'→∃ fn c,P.funcs[f]? =some fn∧fn.body=some c):∀ {D:List AD} {h h':Hp},jc G ih D h=some h'→h.nx≤h'.nx∧∀ (T:Nat) (r:Rn) (w:ah) (Dl:List Deferred) (fn:Func) (tmps:Array ag) (R:Ending→ah→Prop),
 h'.nx≤T→HR P G r T h w→iR r D Dl→(∀ (r':Rn) (w':ah),St P G T r h w r' h' w'→∃ v,(results fn tmps).run P w'= .ok v w'∧R (.returned v) w')→LeavesInM iD 0 P fn tmps R Dl .returning w
 | [],h,h',he=>by
   simp only [jc,bD] at he;subst he;refine ⟨aZ _,fun T r w Dl fn tmps R hT hr C E=> ?_⟩;have :Dl= []:=by cases Dl; rfl; exact C.elim
   subst this;exact E r w<|St.refl hr
 | .mark d::D,h,h',he=>by
   simp only [jc] at he;split at he
   · rename_i ac;replace he:=aX he; obtain ⟨V,he⟩:=he;simp only [a9] at V;obtain ⟨n1,s1⟩:=uW U O Z he;refine ⟨n1,fun T r w Dl fn tmps R hT hr C E=> ?_⟩;cases Dl with
     | nil=>exact C.elim
     | cons x Dl=>
       obtain ⟨⟨q,ad,rfl⟩,C⟩:=C;obtain ⟨q',ae,I⟩:=hr.live d _ ac;rw [ad] at ae; cases ae;have I:w.heap[q.an]? =some (.deferred<|some []):=I;have aP:=(eC.1 I).1;have st:St P G T r h w r ⟨h.t.set d (.jU false),h.nx⟩ (w.putObj q.an<|.deferred none):=
        hr.j7 ac V.2 ad (bJ V.1) (by rw [C3 aP]; rfl) ⟨rfl,rfl,by simp [C1],fun k _ E=>C2 E⟩
       exact ⟨CN,.inl ⟨q.an,_,J,run_takeDeferred I,s1 T r _ Dl fn tmps R hT st.hr C fun r' w' st'=>E r' w'<|st.trans st'⟩⟩
   · cases he
 | .fn f args::D,h,h',he=>by
   simp only [jc] at he;split at he
   · rename_i v h1 ab;have L:=U<|.df f args h;rw [ab] at L;obtain ⟨n0,L⟩:=L;obtain ⟨aj,ai,ao,ak⟩:=Z _ _ _ _ _ ab;have al:=O f aj ai ao ak;obtain ⟨n1,s1⟩:=uW U O Z he;refine ⟨cS n0 n1,fun T r w Dl fn tmps R hT hr C E=> ?_⟩;cases Dl with
     | nil=>exact C.elim
     | cons x Dl=>
       obtain ⟨⟨a,cap,au,ha,rfl,am⟩,C⟩:=C;refine ⟨CN,.inr ⟨fun h0=>(by cases h0),.func f,cap,f,a.toArray,J,?_,fun _ _=>trivial,yi (L T r w a (cS n1 hT) hr ha) ?_⟩⟩
       · simp only [invoke,am];exact al a.toArray w
       · rintro e av w' ⟨v,rfl,rfl,r',st⟩;exact s1 T r' w' Dl fn tmps R hT st.hr (lN st.le C) fun ap ar aq=>E ap ar<|st.trans aq
   · cases he
def xJ (P:ar) (G:Nat) (X:Xt) (ih:Tk→Rs):Prop := ∀ (rd:Option Nat) (n id:Nat) (ops:List aC) (fr:Tr AV) (D:List AD) (h:Hp),match qR P G X ih n ops fr D h with
 | .cd e E C h'=>de P G rd n (fun rr Q a w=>(CG id ⟨ops⟩ true).wpIn (fe rr) 0 P Q a w) fr D h e E C h'
 | .no=>True
 | _=>False
theorem de.bind {rd:Option Nat} {W W' L:Option Nat→(bo→Act→ah→Prop)→Act→ah→Prop} {fr V Z:Tr AV} {D E I:List AD} {h h1 ab:Hp} {O U:EX} (s1:de P G rd n W fr D h O V E h1) (s2:de P G rd n W' V E h1 U Z I ab)
 (ag:∀ rr Q a w,W rr (fun e a w=>e=iT O∧W' rr Q a w) a w→L rr Q a w):de P G rd n L fr D h U Z I ab:=by
 obtain ⟨n1,s1⟩:=s1;obtain ⟨n2,s2⟩:=s2;refine ⟨cS n1 n2,fun T r w σ Dl rr Q hT hr al ai ac ao=>ag rr Q _ w ?_⟩;exact s1 T r w σ Dl rr _ (cS n2 hT) hr al ai ac fun ap au aw ad C am aj=>⟨J,s2 T ap au aw ad rr Q hT C.hr am aj (AU C.le ac) fun aq av ax ae ar an ak=>ao aq av ax ae (C.trans ar) an ak⟩
theorem de.map {rd:Option Nat} {W W':Option Nat→(bo→Act→ah→Prop)→Act→ah→Prop} {fr L:Tr AV} {D C:List AD} {h h1:Hp} {E I:EX} (s1:de P G rd n W fr D h E L C h1)
 (U:∀ rr Q a w,W rr (fun e a w=>e=iT E∧Q (iT I) a w) a w→W' rr Q a w):de P G rd n W' fr D h I L C h1:=by
 obtain ⟨n1,s1⟩:=s1;exact ⟨n1,fun T r w σ Dl rr Q hT hr ab V ae ad=>U rr Q _ w<|s1 T r w σ Dl rr _ hT hr ab V ae fun ag aj ak O ai ac Z=>⟨J,ad ag aj ak O ai ac Z⟩⟩
theorem IZ (ab:Good P G ih) (ag:fC P) (aj:∀ f args h v h',ih (.df f args h)= .rv v h'→∃ fn c,P.funcs[f]? =some fn∧fn.body=some c) (f:Nat) (args:List AV) (h:Hp):kD P G (.cl f args h) (eB P G X ih<|.cl f args h):=by
 show kD P G (.cl f args h) (match P.funcs[f]? with
  | some fn=>match fn.body with
    | some c=>cond (ba args.length fn.ntmps && aD fn.ntmps bT) (match ih (.cd none fn.ntmps c (gL 0 args .nil) [] h) with
      | .cd (.ext _) _ _ _=> .no
      | .cd _ fr D h=>match jc G ih D h with
        | some h=>match gT P fn.ntmps fr h fn.results.toList with
          | some vs=> .rv (l9 vs) h
          | none=> .no
        | none=> .no
      | _=> .no) .no
    | none=> .no
  | none=> .no)
 split
 · rename_i fn am;split
   · rename_i c ah;cases hc:(ba args.length fn.ntmps && aD fn.ntmps bT)
     · trivial
     · simp only [cond_true];simp only [a9] at hc;have key:∀ (e:EX) (fr:Tr AV) (D:List AD) (h1 C:Hp) (vs:List AV),(e= .bX∨e= .ret)→ih (.cd none fn.ntmps c (gL 0 args .nil) [] h)= .cd e fr D h1→jc G ih D h1=some C→gT P fn.ntmps fr C fn.results.toList=some vs→kD P G (.cl f args h) (.rv (l9 vs) C):=by
        intro e fr D h1 C vs ak U E I;have V:=ab<|.cd none fn.ntmps c (gL 0 args .nil) [] h;rw [U] at V;obtain ⟨n0,V⟩:=V;obtain ⟨n1,s1⟩:=uW ab ag aj E;refine ⟨cS n0 n1,fun T r w L hT hr ac=> ?_⟩;have hlen:=cP ac;refine callsIn_wide.1<|callsIn_of_wp_marks (F:=iD) (n:=0) am ah trivial ?_;rw [nX fn L [] (by rw [hlen]; exact hc.1)];refine V T r w (dh L) [] none _ (cS n1 hT) hr (uv ac hc.1 hc.2) trivial trivial fun ao ae aq O ad al ai=> ?_;have fin:LeavesInM iD 0 P fn (act ⟨fn.ntmps,O,[],none⟩ aq).tmps (fun e w'=> ∃ v,e= .returned v∧∃ r',den r' (l9 vs)=some v∧St P G T r h w r' C w') O .returning ae:=by
         refine s1 T ao ae O fn _ _ hT ad.hr ai fun ap ar Z=> ?_;obtain ⟨u,hu,an⟩:=vy (N:=⟨fn.ntmps,O,[],none⟩) Z.hr (al.le Z.le) I;exact ⟨u,an,u,J,ap,hu,ad.trans Z⟩
        rcases ak with rfl | rfl <;> exact fin
       cases U:ih (.cd none fn.ntmps c (gL 0 args .nil) [] h) with
       | no=>trivial
       | rv v h1=>trivial
       | cd e fr D h1=>
         cases e with
         | ext i=>trivial
         | bX=>
           simp only;cases E:jc G ih D h1 with
           | none=>trivial
           | some C=>
             simp only;cases I:gT P fn.ntmps fr C fn.results.toList with
             | none=>trivial
             | some vs=>exact key .bX fr D h1 C vs (.inl rfl) U E I
         | ret=>
           simp only;cases E:jc G ih D h1 with
           | none=>trivial
           | some C=>
             simp only;cases I:gT P fn.ntmps fr C fn.results.toList with
             | none=>trivial
             | some vs=>exact key .ret fr D h1 C vs (.inr rfl) U E I
   · trivial
 · trivial
end
end Go.Hb
namespace Go.Hb
section
variable {P:ar} {G:Nat} {X:Xt} {ih:Tk→Rs} {n:Nat} {r:Rn} {T:Nat} {h:Hp} {w:ah}
theorem I0 (ac:Good P G ih) (ap:gF P G X) (ao:fC P) (ar:∀ f args h v h',ih (.cl f args h)= .rv v h'→∃ fn c,P.funcs[f]? =some fn∧fn.body=some c) (f:Nat) (args:List AV) (h:Hp):kD P G (.df f args h) (eB P G X ih<|.df f args h):=by
 cases hs:eB P G X ih (.df f args h) with
 | no=>trivial
 | cd e fr D h1=>
   exfalso;simp only [eB] at hs;split at hs;rename_i fn ah;split at hs;rename_i c ad;cases hc:(ba args.length fn.ntmps && aD fn.ntmps bT);rw [hc] at hs; cases hs;rw [hc] at hs;simp only [cond_true] at hs;split at hs;cases hs;split at hs <;> cases hs;cases hs;cases hs;cases hs
 | rv v h'=>
   simp only [eB] at hs;split at hs;rename_i fn ah;split at hs;rename_i c ad;cases hc:(ba args.length fn.ntmps && aD fn.ntmps bT);rw [hc] at hs; cases hs;rw [hc] at hs;simp only [cond_true] at hs;simp only [a9] at hc;split at hs;cases hs;rename_i e aH h1 ai C;split at hs;rename_i vs aj;cases hs;split at C;rename_i id d ty pos af rest y;split at C;rename_i aG ay;split at C;rename_i am Z ax;obtain ⟨n1,s1⟩:=pD ac ap ao ar ax;have s2:=ac<|.cd none fn.ntmps y am [] Z;rw [C] at s2;obtain ⟨n2,s2⟩:=s2;refine ⟨cS n1 n2,fun T r w L hT hr O=> ?_⟩;have hlen:=cP O;refine En (R:=fun w'=> ∃ r',St P G T r h w r' h' w') ah ad J (by rw [hlen]; exact hc.1) ?_;have av:=nS ay (uv O hc.1 hc.2) (show den r .cW=some .nilIface from rfl);refine s1 T r w (bd (dh L) d .nilIface) [] none _ (cS n2 hT) hr av trivial trivial fun aA aB aE al ak aw au=> ?_;refine s2 T aA aB aE al none _ hT ak.hr aw au trivial fun V aC aF I E ag ae=> ?_;have ab:I= []:=by cases I; rfl; exact ae.elim
   subst ab;obtain ⟨u,hu,U⟩:=vy (N:=⟨fn.ntmps,[],[],none⟩) E.hr ag aj;have he:iT e= .normal∨iT e= .ret:=by
    cases e with
    | bX=>exact .inl rfl
    | ret=>exact .inr rfl
    | ext i=>exact (ai i rfl).elim
   exact ⟨he,J,u,U,V,ak.trans E⟩;cases C;cases C;have s2:=ac<|.cd none fn.ntmps c (gL 0 args .nil) [] h;rw [C] at s2;obtain ⟨n2,s2⟩:=s2;refine ⟨n2,fun T r w L hT hr O=> ?_⟩;have hlen:=cP O;have aq:=callsDIn_of_wp (F:=iD) (n:=0) (u:= .returning) (w:=w) (args:=L.toArray) (R:=fun e w'=> ∃ v,e= .returned v∧∃ r',St P G T r h w r' h' w') ah ad trivial (by
    rw [nX fn L [] (by rw [hlen]; exact hc.1)];refine s2 T r w (dh L) [] none _ hT hr (uv O hc.1 hc.2) trivial trivial fun V aC aF I E ag ae=> ?_;have ab:I= []:=by cases I; rfl; exact ae.elim
    subst ab;obtain ⟨u,hu,U⟩:=vy (N:=⟨fn.ntmps,[],[],none⟩) E.hr ag aj;cases e with
    | bX=>exact ⟨rfl,u,U,u,rfl,V,E⟩
    | ret=>exact ⟨rfl,u,U,u,rfl,V,E⟩
    | ext i=>exact (ai i rfl).elim)
   exact yi aq fun e aI w' ⟨h1,v,Z,an⟩=>⟨v,Z,h1,an⟩
   cases hs;cases hs;cases hs;cases hs
theorem wT {c:bF} {rr:Option Nat} {Q:bo→Act→ah→Prop} {a:Act} {w:ah} (ac:c.wpIn (fe rr) 0 P (Exit.then (su P c rr Q) Q) a w):su P c rr Q a w:=by
 intro b k cs O hb hr;obtain ⟨e,I,L,E,C⟩:=ac b (.inLoop c::k) cs O hb hr;cases e with
 | normal=>
   obtain ⟨Z,U,ae,ad,ab⟩:=E b k cs O hb hr;exact ⟨Z,U,ae,ad,.of_steps (StepsIn.trans C<|.one (fenced_calm hb hr J) stepR_inLoop) ab⟩
 | exit id=>exact ⟨.exit id,I,L,E,.pass (x:= .inLoop c) rfl (fun _ _=> .inl<|by simp) C⟩
 | goto l=>exact ⟨.goto l,I,L,E,.pass (x:= .inLoop c) rfl (fun _ _=> .inl<|by simp) C⟩
 | ret=>exact ⟨.ret,I,L,E,.pass (x:= .inLoop c) rfl (fun _ _=> .inl<|by simp) C⟩
 | panic V=>exact ⟨.panic V,I,L,E,.pass (x:= .inLoop c) rfl (fun _ _=> .inl<|by simp) C⟩
 | outgrown=>exact ⟨.outgrown,I,L,E,.pass (x:= .inLoop c) rfl (fun _ _=> .inl<|by simp) C⟩
theorem J7 {c:bF} {rr:Option Nat} {Q:bo→Act→ah→Prop} {a:Act} {w:ah} (h:su P c rr Q a w):(Code.loop c).wpIn (fe rr) 0 P Q a w:=by
 intro b k cs L hb hr;obtain ⟨e,C,w',I,E⟩:=h b k cs L hb hr;exact ⟨e,C,w',I,.of_steps (.one (fenced_calm hb hr J) stepR_loop) E⟩
theorem Good.lL (C:Good P G ih) {rd:Option Nat} {c:bF} {fr:Tr AV} {D:List AD} {h h':Hp} {v:AV} (E:ih (.cd rd n c fr D h)= .rv v h'):False:=by
 have :=C (.cd rd n c fr D h); rw [E] at this; exact this
theorem Good.Af (C:Good P G ih) {rd:Option Nat} {c:bF} {fr:Tr AV} {D:List AD} {h h':Hp} {v:AV} (E:ih (.lp rd n c fr D h)= .rv v h'):False:=by
 have :=C (.lp rd n c fr D h); rw [E] at this; exact this
theorem I2 (C:Good P G ih) (rd:Option Nat) (n:Nat) (c:bF) (fr:Tr AV) (D:List AD) (h:Hp):kD P G (.lp rd n c fr D h) (eB P G X ih<|.lp rd n c fr D h):=by
 simp only [eB];cases hi:ih (.cd rd n c fr D h) with
 | no=>trivial
 | rv v h1=>exact (C.lL hi).elim
 | cd e I E h1=>
   have s1:=C<|.cd rd n c fr D h;rw [hi] at s1;cases e with
   | bX=>
     simp only;have s2:=C<|.lp rd n c I E h1;cases hj:ih (.lp rd n c I E h1) with
     | no=>trivial
     | rv v J=>exact (C.Af hj).elim
     | cd O U L J=>
       rw [hj] at s2;exact de.bind s1 s2 fun rr Q a w hw=>wT (wpIn_mono hw fun e a w he=>by
        obtain ⟨rfl,he⟩:=he; exact he)
   | ret=>exact de.map s1 fun rr Q a w hw=>wT<|wpIn_mono hw fun e a w he=>by obtain ⟨rfl,he⟩:=he; exact he
   | ext i=>exact de.map s1 fun rr Q a w hw=>wT<|wpIn_mono hw fun e a w he=>by obtain ⟨rfl,he⟩:=he; exact he
theorem de.here {rd:Option Nat} {W:Option Nat→(bo→Act→ah→Prop)→Act→ah→Prop} {fr:Tr AV} {D:List AD} {h:Hp} {e:EX} (C:∀ rr Q a w,Q (iT e) a w→W rr Q a w):de P G rd n W fr D h e fr D h:=
 ⟨aZ _,fun T r w σ Dl rr Q hT hr I E L J=>C rr Q _ w<|J r w σ Dl (St.refl hr) I E⟩
theorem rJ {rd:Option Nat} {ops:List aC} :∀ {l:List aC} {fr:Tr AV} {D:List AD} {h:Hp},(∃ E C h',je P G X ih rd n ops l fr D h= .cd .bX E C h')∨je P G X ih rd n ops l fr D h= .no
 | [],fr,D,h=> .inl ⟨fr,D,h,rfl⟩
 | o::l,fr,D,h=>by
   simp only [je];split
   · split
     · split
       · split
         · exact rJ
         · exact .inr J
       · split
         · split
           · exact rJ
           · exact .inr J
         · exact .inr J
       · exact .inr J
     · exact .inr J
   · split
     · exact rJ
     · exact .inr J
   · exact .inr J
theorem HN (I:Good P G ih) {rd:Option Nat} {g:aY} {ps:List Nat} {aR body:bF} {fr:Tr AV} {D:List AD} {h h':Hp} {v:AV} (C:nN ih G rd n g ps aR body fr D h= .rv v h'):False:=by
 have E:∀ {fr:Tr AV} {D:List AD} {l:Nat} {h:Hp},ni G ih rd n fr D l h= .rv v h'→False:=by
  intro fr D l h C;unfold ni at C;split at C
  · split at C
    · cases C
    · rename_i L m J ps aR body d _ _;cases hc:(ba G l && aD l bT)
      · rw [hc] at C; cases C
      · rw [hc] at C;simp only [cond_true] at C;split at C
        · cases C
        · exact I.lL C
  · cases C
 unfold nN at C;split at C
 · split at C
   · split at C
     · split at C
       · split at C
         · exact E C
         · cases C
       · cases C
     · cases C
   · split at C
     · split at C
       · split at C
         · exact E C
         · cases C
       · cases C
     · cases C
 · cases C
theorem IY (C:Good P G ih) (ag:gF P G X) (ab:fC P) (ae:xJ P G X ih) (ac:∀ f args h v h',ih (.cl f args h)= .rv v h'→∃ fn c,P.funcs[f]? =some fn∧fn.body=some c) (rd:Option Nat) (n:Nat) (c:bF) (fr:Tr AV) (D:List AD) (h:Hp):kD P G (.cd rd n c fr D h) (eB P G X ih<|.cd rd n c fr D h):=by
 cases c with
 | skip =>exact de.here fun rr Q a w V=>wpIn_skip V
 | region id ops draw=>
   obtain ⟨ops⟩:=ops;simp only [eB];cases draw with
   | true =>
     simp only [cond_true];have :=ae rd n id ops fr D h;split at this
     · rename_i he; rw [he]; exact this
     · rename_i he; rw [he]; trivial
     · exact this.elim
   | false =>
     simp only [cond_false];rcases rJ (P:=P) (G:=G) (X:=X) (ih:=ih) (n:=n) (rd:=rd) (ops:=ops) (l:=ops) (fr:=fr) (D:=D) (h:=h) with ⟨al,ai,h',he⟩ | he
     · rw [he];obtain ⟨n1,s1⟩:=pD C ag ab ac he;exact ⟨n1,fun T r w σ Dl rr Q hT hr E L U O=>wpIn_region_lit<|s1 T r w σ Dl rr Q hT hr E L U O⟩
     · rw [he]; trivial
 | seq a b=>
   simp only [eB];cases hi:ih (.cd rd n a fr D h) with
   | no=>trivial
   | rv v h1=>exact (C.lL hi).elim
   | cd e J I h1=>
     have s1:=C<|.cd rd n a fr D h;rw [hi] at s1;cases e with
     | bX=>
       simp only;have s2:=C<|.cd rd n b J I h1;cases hj:ih (.cd rd n b J I h1) with
       | no=>trivial
       | rv v ad=>exact (C.lL hj).elim
       | cd ak am aj ad=>
         rw [hj] at s2;exact de.bind s1 s2 fun rr Q a w hw=>wpIn_seq<|wpIn_mono hw fun e a w he=>by obtain ⟨rfl,he⟩:=he; exact he
     | ret=>exact de.map s1 fun rr Q a w hw=>wpIn_seq<|wpIn_mono hw fun e a w he=>by obtain ⟨rfl,he⟩:=he; exact he
     | ext i=>exact de.map s1 fun rr Q a w hw=>wpIn_seq<|wpIn_mono hw fun e a w he=>by obtain ⟨rfl,he⟩:=he; exact he
 | cond x a b=>
   simp only [eB];split
   · rename_i Z;have s1:=C<|.cd rd n a fr D h;cases hi:ih (.cd rd n a fr D h) with
     | no=>trivial
     | rv v h1=>exact (C.lL hi).elim
     | cd e J I h1=>
       rw [hi] at s1;obtain ⟨n1,s1⟩:=s1;exact ⟨n1,fun T r w σ Dl rr Q hT hr E L U O=>wpIn_cond_true (by rw [dk]; exact il<|pB (N:=⟨n,Dl,[],rr⟩) hr.ew E Z)<|s1 T r w σ Dl rr Q hT hr E L U O⟩
   · rename_i Z;have s1:=C<|.cd rd n b fr D h;cases hi:ih (.cd rd n b fr D h) with
     | no=>trivial
     | rv v h1=>exact (C.lL hi).elim
     | cd e J I h1=>
       rw [hi] at s1;obtain ⟨n1,s1⟩:=s1;exact ⟨n1,fun T r w σ Dl rr Q hT hr E L U O=>wpIn_cond_false (by rw [dk]; exact il<|pB (N:=⟨n,Dl,[],rr⟩) hr.ew E Z)<|s1 T r w σ Dl rr Q hT hr E L U O⟩
   · trivial
 | block id c=>
   simp only [eB];cases hi:ih (.cd rd n c fr D h) with
   | no=>trivial
   | rv v h1=>exact (C.lL hi).elim
   | cd e J I h1=>
     have s1:=C<|.cd rd n c fr D h;rw [hi] at s1;cases e with
     | bX=>exact de.map s1 fun rr Q a w hw=>wpIn_block<|wpIn_mono hw fun e a w he=>by obtain ⟨rfl,he⟩:=he; exact he
     | ret=>exact de.map s1 fun rr Q a w hw=>wpIn_block<|wpIn_mono hw fun e a w he=>by obtain ⟨rfl,he⟩:=he; exact he
     | ext j=>
       simp only;cases hj:aN j id
       · have ah:j≠id:=fun e=>by subst e; simp at hj
         exact de.map s1 fun rr Q a w hw=>wpIn_block (wpIn_mono hw fun e a w he=>by
          obtain ⟨rfl,he⟩:=he;simp only [iT,CM,if_neg ah]; exact he)
       · obtain rfl :=bH hj;exact de.map s1 fun rr Q a w hw=>wpIn_block (wpIn_mono hw fun e a w he=>by
          obtain ⟨rfl,he⟩:=he;simp only [iT,CM,if_true]; exact he)
 | loop c=>
   simp only [eB];cases hi:ih (.lp rd n c fr D h) with
   | no=>trivial
   | rv v h1=>exact (C.Af hi).elim
   | cd e J I h1=>
     have s1:=C<|.lp rd n c fr D h;rw [hi] at s1;obtain ⟨n1,s1⟩:=s1;exact ⟨n1,fun T r w σ Dl rr Q hT hr E L U O=>J7<|s1 T r w σ Dl rr Q hT hr E L U O⟩
 | rangeFunc g ps aR body=>
   obtain ⟨ps⟩:=ps;simp only [eB];cases hi:nN ih G rd n g ps aR body fr D h with
   | no=>trivial
   | rv v h1=>exact (HN C hi).elim
   | cd e J I h1=>exact HM C ab ac hi
 | exit id=>exact de.here fun rr Q a w V=>wpIn_exit V
 | ret=>exact de.here fun rr Q a w V=>wpIn_ret V
 | scope c=>trivial
 | label l=>trivial
 | goto l=>trivial
 | refuse s=>trivial
theorem I3 (C:Good P G ih) (l:Nat) (args:List AV) (h:Hp):kD P G (.yl l args h) (eB P G X ih<|.yl l args h):=by
 simp only [eB];cases hi:pY G ih l args h with
 | no=>trivial
 | rv v h1=>exact Kd C hi
 | cd e fr D h1=>
   exfalso;unfold pY at hi;split at hi
   · split at hi
     · split at hi
       · split at hi
         · rename_i O L J U E I d1 _;cases hc:(ba G l && aD l bT)
           · rw [hc] at hi; cases hi
           · rw [hc] at hi;simp only [cond_true] at hi;split at hi
             · split at hi
               · split at hi <;> cases hi
               · cases hi
             · cases hi
         · cases hi
       · cases hi
     · cases hi
   · cases hi
end
end Go.Hb
namespace Go.Hb
mutual
theorem nj:∀ {a b:AV},ee a b=true→a=b
 | .bool a,.bool b,h=>by simp only [ee,beq_iff_eq] at h; rw [h]
 | .int k a,.int k' b,h=>by
   simp only [ee] at h;cases hk:aN (du k) (du k')
   · rw [hk] at h; cases h
   · rw [hk] at h;simp only [cond_true,decide_eq_true_iff] at h;rw [lU hk,h]
 | .str l,.str m,h=>by simp only [ee,nk,decide_eq_true_iff] at h; rw [h]
 | .ptr b o,.ptr b' o',h=>by
   simp only [ee,a9] at h;rw [bH h.1,bH h.2]
 | .fZ,.fZ,_=>rfl
 | .sl b o n c x,.sl b' o' n' c' x',h=>by
   simp only [ee,a9,beq_iff_eq] at h;obtain ⟨⟨h1,C⟩,h3,h4,h5⟩:=h;rw [bH h1,bH C,bH h3,bH h4,h5]
 | .az,.az,_=>rfl
 | .map b,.map b',h=>by simp only [ee] at h; rw [bH h]
 | .jv,.jv,_=>rfl
 | .fn f a c,.fn f' a' c',h=>by
   simp only [ee,a9] at h;rw [bH h.1,lP h.2.1,lP h.2.2]
 | .fM l,.fM l',h=>by simp only [ee] at h; rw [bH h]
 | .gR,.gR,_=>rfl
 | .eL t v,.eL t' v',h=>by
   simp only [ee,a9] at h;rw [bH h.1,nj h.2]
 | .cW,.cW,_=>rfl
 | .agg l,.agg m,h=>by simp only [ee] at h; rw [lP h]
 | .bP l,.bP m,h=>by simp only [ee] at h; rw [lP h]
theorem lP:∀ {a b:List AV},iS a b=true→a=b
 | [],[],_=>rfl
 | a::l,b::m,h=>by
   simp only [iS] at h;cases hk:ee a b
   · rw [hk] at h; cases h
   · rw [hk] at h; rw [nj hk,lP h]
 | [],_::_,h=>by simp [iS] at h
 | _::_,[],h=>by simp [iS] at h
end
theorem tQ {c p:Bool} (h:cond c p false =true):c=true∧p=true :=by
 cases c
 · cases h
 · exact ⟨J,h⟩
theorem u0 {t:Nat} :∀ {l:List Nat},pq t l=true↔t∈l
 | []=>by simp [pq]
 | u::l=>by
   simp only [pq,fQ];cases hb:aN t u
   · have :t≠u:=fun e=>by subst e; simp at hb
     simp only [cond_false,u0,this,false_or]
   · have :=bH hb;simp [this]
theorem yW {i:Nat} :∀ {l:List cq},o3 i l=true→∀ e∈l,dr .any e=true→e.on < i
 | [],_,e,he,_=>by cases he
 | x::l,h,e,he,hb=>by
   simp only [o3] at h;cases hx:(dr .any x && !(aD x.on i))
   · rw [hx] at h;rcases fQ.1 he with rfl | he
     · rw [hb] at hx;simp only [Bool.true_and,Bool.not_eq_false'] at hx;exact cn.1 hx
     · exact yW h e he hb
   · rw [hx] at h; cases h
def mV (ops:List aC) (X:Nat→Prop):Prop := ∀ i o,X i→ops[i]? =some o→∀ e∈o.after.toList,dr .any e=true→X e.on
theorem vg {l:List Nat} {i:Nat} :kW l i=(l[i]?).getD 0:=by
 unfold kW
 induction l generalizing i with
 | nil=>simp [j5]
 | cons a l ih=>
   cases i with
   | zero=>simp [j5]
   | succ i=>simp [j5,ih]
theorem uZ {acc:List Nat} {j:Nat} :∀ {l:List cq},qz (kU acc l) j=true→∃ e∈l,dr .any e=true∧e.on < acc.length∧(j=e.on∨qz (kW acc e.on) j=true)
 | [],h=>by simp [kU] at h
 | e::l,h=>by
   simp only [kU] at h;cases hb:(dr .any e && aD e.on acc.length)
   · rw [hb] at h;obtain ⟨e',h1,C⟩:=uZ h;exact ⟨e',kv _ h1,C⟩
   · rw [hb] at h;simp only [a9] at hb;simp only [cond_true] at h;have h':((2 ^ e.on ||| kW acc e.on) ||| kU acc l).testBit j=true :=h;simp only [Nat.testBit_or,mI,Nat.testBit_two_pow,decide_eq_true_iff] at h';rcases h' with (h' | h') | h'
     · exact ⟨e,ky,hb.1,cn.1 hb.2,.inl h'.symm⟩
     · exact ⟨e,ky,hb.1,cn.1 hb.2,.inr h'⟩
     · obtain ⟨e',h1,C⟩:=uZ h';exact ⟨e',kv _ h1,C⟩
theorem yQ {ops:List aC} {X:Nat→Prop} (C:mV ops X):∀ (l:List aC) (acc:List Nat),(∀ k,l[k]? =ops[acc.length+k]?)→(∀ i j,i < acc.length→qz (kW acc i) j=true→j < i∧(X i→X j))→
 ∀ i j,qz (kW (gu l acc) i) j=true→j < i∧(X i→X j)
 | [],acc,_,ha,i,j,h=>by
   simp only [gu] at h;rcases di i acc.length with hi | hi
   · exact ha i j hi h
   · rw [vg,lr hi] at h; simp at h
 | o::l,acc,hl,ha,i,j,h=>by
   simp only [gu] at h;refine yQ C l (acc++ [kU acc o.after.toList]) (fun k=> ?_) (fun i j hi hb=> ?_) i j h
   · have :=hl<|k+1;simp only [hO] at this;rw [this]; congr 1; simp; omega
   · rw [vg] at hb;rcases di i acc.length with h1 | h1
     · rw [eF h1,← vg] at hb; exact ha i j h1 hb
     · have :i=acc.length:=by simp at hi; omega
       subst this;rw [eQ (aZ _)] at hb;simp only [Nat.sub_self,hZ,ie] at hb;obtain ⟨e,he,J,aP,E⟩:=uZ hb;have L:ops[acc.length]? =some o:=by
        have :=hl 0;simpa using this.symm
       rcases E with rfl | E
       · exact ⟨aP,fun I=>C _ _ I L e he J⟩
       · obtain ⟨V,O⟩:=ha _ _ aP E;exact ⟨U,fun I=>O<|C _ _ I L e he J⟩
theorem oO {ops:List aC} {X:Nat→Prop} (C:mV ops X) {i j:Nat} (h:iL (gu ops []) i j=true):j < i∧(X i→X j):=
 yQ C ops [] (fun k=>by simp) (fun i j hi=>by simp at hi) i j h
structure tq (ops:List aC) (dp:List Nat) (i j:Nat) (oi oj:aC):Prop where
 ne:∀ t,oi.dst=some t→oj.dst≠some t
 ap:iL dp i j=true∨((∀ t,oj.dst=some t→t∉nL ops oi)∧∀ t,oi.dst=some t→t∉nL ops oj)
theorem yp {ops:List aC} {J:List Nat} {i:Nat} {L:aC} :∀ {l:List aC} {b:Nat},qL ops J i L b l=true→∀ k E,l[k]? =some E→b+k < i→tq ops J i (b+k) L E
 | [],b,_,k,E,hk,_=>by simp at hk
 | o::l,b,h,k,E,hk,aP=>by
   simp only [qL] at h;rw [cn.2 (show b < i by omega)] at h;simp only [cond_true,a9,jF,mI] at h;cases k with
   | zero=>
     simp only [hZ,bD] at hk;subst hk;refine ⟨fun t h1 C=> ?_,?_⟩
     · have :=h.1.1;rw [h1,C] at this;simp [zd] at this
     · rcases h.1.2 with h1 | ⟨h1,C⟩
       · exact .inl h1
       · refine .inr ⟨fun t I hm=> ?_,fun t I hm=> ?_⟩
         · rw [I] at h1; simp only [rA] at h1; rw [u0.2 hm] at h1; cases h1
         · rw [I] at C; simp only [rA] at C; rw [u0.2 hm] at C; cases C
   | succ k=>
     simp only [hO] at hk;have :=yp h.2 k E hk U;rwa [show b+1 +k=b+(k+1) from by omega] at this
theorem tL {ops:List aC} {I:List Nat} :∀ {l:List aC} {b:Nat},m8 ops I b l=true→∀ k C,l[k]? =some C→o3 (b+k) C.after.toList=true∧∀ j E,ops[j]? =some E→j < b+k→tq ops I (b+k) j C E
 | [],b,_,k,C,hk=>by simp at hk
 | o::l,b,h,k,C,hk=>by
   simp only [m8,a9] at h;cases k with
   | zero=>
     simp only [hZ,bD] at hk;subst hk;refine ⟨h.1.1,fun j E J aP=> ?_⟩;have :=yp h.1.2 j E J U;rwa [cy] at this
   | succ k=>
     simp only [hO] at hk;have :=tL h.2 k C hk;rwa [show b+1 +k=b+(k+1) from by omega] at this
theorem zf {a:Option AV} {v:AV} (h:ud a v=true):a=some v:=by
 cases a with
 | none=>cases h
 | some a=>rw [nj h]
theorem Ay {P:ar} {C:List Nat} {i:Nat} {o:Op} {xs:List AV} {v:AV} :∀ {l:List Rec} {b:Nat},py P C i o xs v b l=true→∀ k q,l[k]? =some q→
 (q.k= .c→(b+k < i→iL C i (b+k)=true∨iw P o xs q.hb=some v)∧(¬b+k < i→iL C (b+k) i=true∨iw P o xs q.ha=some v))∧(q.k= .a→¬b+k < i)
 | [],b,_,k,q,hk=>by simp at hk
 | x::l,b,h,k,q,hk=>by
   simp only [py] at h;obtain ⟨h1,E⟩:=tQ h;cases k with
   | succ k=>
     simp only [hO] at hk;have :=Ay E k q hk;rwa [show b+1 +k=b+(k+1) from by omega] at this
   | zero=>
     simp only [hZ,bD] at hk;subst hk;rw [jl];refine ⟨fun I=> ?_,fun ha aP=> ?_⟩
     · rw [I] at h1;simp only at h1;refine ⟨fun aP=> ?_,fun aP=> ?_⟩
       · rw [cn.2 aP] at h1;simp only [cond_true,mI] at h1;exact h1.imp id zf
       · have :aD b i=false :=by cases hb:aD b i; rfl; exact absurd (cn.1 hb) aP
         rw [this] at h1;simp only [cond_false,mI] at h1;exact h1.imp id zf
     · rw [ha,cn.2 aP] at h1; cases h1
theorem Ax {E:List Nat} {i:Nat} :∀ {l:List Rec} {b:Nat},px E i b l=true→∀ k q,l[k]? =some q→(q.k= .c∨q.k= .a)→b+k < i→iL E i (b+k)=true
 | [],b,_,k,q,hk,_,_=>by simp at hk
 | x::l,b,h,k,q,hk,C,aP=>by
   simp only [px] at h;obtain ⟨h1,I⟩:=tQ h;cases k with
   | succ k=>
     simp only [hO] at hk;have :=Ax I k q hk C U;rwa [show b+1 +k=b+(k+1) from by omega] at this
   | zero=>
     simp only [hZ,bD] at hk;subst hk;rw [jl] at aP ⊢;rcases C with C | C <;> (rw [C] at h1; simp only at h1; rw [cn.2 aP] at h1; exact h1)
theorem Az {P:ar} {I:List Nat} {rs:List Rec} :∀ {l:List aC} {m:List Rec} {b:Nat},j6 P I rs b l m=true→l.length=m.length∧∀ k o q,l[k]? =some o→m[k]? =some q→(q.k= .l→py P I (b+k) o.op q.xs q.v 0 rs=true)∧(q.k= .c→px I (b+k) 0 rs=true)
 | [],[],b,_=>⟨rfl,fun k o q C=>by simp at C⟩
 | [],_::_,b,h=>by simp [j6] at h
 | _::_,[],b,h=>by simp [j6] at h
 | o::l,q::m,b,h=>by
   simp only [j6] at h;obtain ⟨h1,L⟩:=tQ h;obtain ⟨O,U⟩:=Az L;refine ⟨by simp [O],fun k V q' C E=> ?_⟩;cases k with
   | succ k=>
     simp only [hO] at C E;have :=U k V q' C E;rwa [show b+1 +k=b+(k+1) from by omega] at this
   | zero=>
     simp only [hZ,bD] at C E;subst C; subst E;rw [jl];exact ⟨fun J=>by rw [J] at h1; exact h1,fun J=>by rw [J] at h1; exact h1⟩
end Go.Hb
namespace Go.Hb
section
variable {P:ar} {G:Nat} {X:Xt} {ih:Tk→Rs} {n:Nat}
inductive Cl (P:ar) (G:Nat) (o:Op) (q:Rec):Prop
 | p:q.k= .p→l8 P o q.xs=some q.v→q.ha=q.hb→Cl P G o q
 | l:q.k= .l→iw P o q.xs q.hb=some q.v→q.ha=q.hb→Cl P G o q
 | a (e:aq) (l:List AV):q.k= .a→o= .alloc e→qD P e=some l→cJ q.hb (.cells l e 0 .x)=some q.ha→q.v= .ptr q.hb.nx 0→Cl P G o q
 | c:q.k= .c→jn P G o q.xs q.hb q.v q.ha→Cl P G o q
structure mY (P:ar) (G n:Nat) (ops:List aC) (o:aC) (q:Rec) (fr fr':Tr AV) (h h':Hp):Prop where
 hb:q.hb=h
 ha:q.ha=h'
 set :eY n fr o.dst q.v=some fr'
 run:(iV n ops fr o.guard= .y∧jz G n fr (fu o.op)=some q.xs∧Cl P G o.op q)∨(iV n ops fr o.guard= .n∧q.k= .s∧q.v= .bP []∧q.ha=q.hb)
theorem HH (L:Good P G ih) (O:gF P G X) (J:fC P) (U:∀ f args h v h',ih (.cl f args h)= .rv v h'→∃ fn c,P.funcs[f]? =some fn∧fn.body=some c) {I:Bool} {o:Op} {xs:List AV} {h:Hp} {q:Rec} (C:vt P G X ih I o xs h=some q):q.xs=xs∧q.hb=h∧Cl P G o q:=by
 unfold vt at C;split at C
 · rename_i v hp; cases C; exact ⟨rfl,rfl,.p rfl hp rfl⟩
 · split at C
   · rename_i v E; cases C; exact ⟨rfl,rfl,.l rfl E rfl⟩
   · split at C
     · rename_i e _ _;split at C
       · rename_i l E;split at C
         · rename_i h' hn; cases C; exact ⟨rfl,rfl,.a e l rfl rfl E hn rfl⟩
         · cases C
       · cases C
     · split at C
       · rename_i v h' V; cases C; exact ⟨rfl,rfl,.c rfl (AJ L O J U V)⟩
       · cases C
theorem Cl.nx {o:Op} {q:Rec} (h:Cl P G o q):q.hb.nx≤q.ha.nx:=by
 cases h with
 | p _ _ h=>rw [h]; exact aZ _
 | l _ _ h=>rw [h]; exact aZ _
 | a e l _ _ _ h _=>have :=ju h; omega
 | c _ h=>exact h.1
theorem mY.nx {ops:List aC} {o:aC} {q:Rec} {fr E:Tr AV} {h h':Hp} (C:mY P G n ops o q fr E h h'):h.nx≤h'.nx:=by
 rw [← C.hb,← C.ha];rcases C.run with ⟨_,_,h⟩ | ⟨_,_,_,h⟩
 · exact h.nx
 · rw [h]; exact aZ _
theorem AY (ae:Good P G ih) (ag:gF P G X) (ad:fC P) (ah:∀ f args h v h',ih (.cl f args h)= .rv v h'→∃ fn c,P.funcs[f]? =some fn∧fn.body=some c) {ops:List aC} {ac:List Nat} :∀ {l:List aC} {i:Nat} {last:Option Nat} {fr E:Tr AV} {h I:Hp} {rs:List Rec},ka P G X ih n ops ac i last l fr h=some (rs,E,I)→
 ∃ (F:Nat→Tr AV) (H:Nat→Hp),F 0=fr∧H 0=h∧F l.length=E∧H l.length=I∧rs.length=l.length∧∀ k o q,l[k]? =some o→rs[k]? =some q→mY P G n ops o q (F k) (F<|k+1) (H k) (H<|k+1)
 | [],i,last,fr,E,h,I,rs,hr=>by
   simp only [ka,bD,gk] at hr;obtain ⟨rfl,rfl,rfl⟩:=hr;exact ⟨fun _=>fr,fun _=>h,J,J,J,J,J,fun k o q L=>by simp at L⟩
 | o::l,i,last,fr,E,h,I,rs,hr=>by
   have key:∀ (q:Rec) (C:Tr AV) (j:Nat) (la:Option Nat) (ix:List Rec),mY P G n ops o q fr C h q.ha→ka P G X ih n ops ac j la l C q.ha=some (ix,E,I)→rs=q::ix→
    ∃ (F:Nat→Tr AV) (H:Nat→Hp),F 0=fr∧H 0=h∧F (o::l).length=E∧H (o::l).length=I∧rs.length=(o::l).length∧∀ k V q,(o::l)[k]? =some V→rs[k]? =some q→mY P G n ops V q (F k) (F<|k+1) (H k) (H<|k+1):=by
    intro q C j la ix ar U ai;obtain ⟨F,H,h1,Z,an,ao,ap,aq⟩:=AY ae ag ad ah U;refine ⟨fun k=>match k with | 0=>fr | k+1=>F k,fun k=>match k with | 0=>h | k+1=>H k,J,J,an,ao,by rw [ai]; simp [ap],fun k V q' L O=> ?_⟩;subst ai;cases k with
    | zero=>
      simp only [hZ,bD] at L O;subst L; subst O;simp only [h1,Z]; exact ar
    | succ k=>exact aq k V q' (by simpa using L)<|by simpa using O
   simp only [ka] at hr;split at hr
   · rename_i hg;split at hr
     · rename_i xs au;split at hr
       · rename_i q O;split at hr
         · rename_i C ab;split at hr
           · rename_i ix am Z U;cases hr;obtain ⟨aj,ak,al⟩:=HH ae ag ad ah O;exact key q C _ _ ix ⟨ak,J,ab,.inl ⟨hg,by rw [aj]; exact au,al⟩⟩ U J
           · cases hr
         · cases hr
       · cases hr
     · cases hr
   · rename_i hg;split at hr
     · rename_i C ab;split at hr
       · rename_i ix am Z U;cases hr;exact key ⟨.s,[],.bP [],h,h⟩ C _ _ ix ⟨J,J,ab,.inr ⟨hg,J,J,J⟩⟩ U J
       · cases hr
     · cases hr
   · cases hr
structure Sq (P:ar) (G n:Nat) (ops:List aC) (rs:List Rec) (F:Nat→Tr AV) (H:Nat→Hp):Prop where
 len:rs.length=ops.length
 line:∀ k o q,ops[k]? =some o→rs[k]? =some q→mY P G n ops o q (F k) (F<|k+1) (H k) (H<|k+1)
 pair:∀ i j oi oj,ops[i]? =some oi→ops[j]? =some oj→j < i→tq ops (gu ops []) i j oi oj
 ng:∀ i o,ops[i]? =some o→∀ e∈o.after.toList,dr .any e=true→e.on < i
theorem Bj {fr E:Tr AV} {d:Option Nat} {v:AV} (C:eY n fr d v=some E) (t:Nat):cQ E t=if d=some t then v else cQ fr t:=by
 cases d with
 | none=>simp only [eY,bD] at C; subst C; simp
 | some d=>
   simp only [eY] at C;replace C:=aX C; obtain ⟨I,C⟩:=C;simp only [a9] at I;cases C;simp only [cQ,Tr.jZ _ _ _ _ I.2,bD];by_cases e:t=d
   · subst e; simp
   · rw [if_neg e,if_neg (fun x=>e x.symm)]
variable {ops:List aC} {rs:List Rec} {F:Nat→Tr AV} {H:Nat→Hp}
theorem Sq.get (s:Sq P G n ops rs F H) {i:Nat} {o:aC} (C:ops[i]? =some o):∃ q,rs[i]? =some q:=by
 have :=(cH.1 C).1;exact ⟨rs[i]'(by rw [s.len]; exact this),bG _⟩
theorem Sq.get' (s:Sq P G n ops rs F H) {i:Nat} {q:Rec} (C:rs[i]? =some q):∃ o,ops[i]? =some o:=by
 have :=(cH.1 C).1;exact ⟨ops[i]'(by rw [← s.len]; exact this),bG _⟩
theorem Sq.slot (s:Sq P G n ops rs F H) (t:Nat):∀ k,k≤ops.length→(∃ j o q,j < k∧ops[j]? =some o∧o.dst=some t∧rs[j]? =some q∧cQ (F k) t=q.v)∨((∀ j o,j < k→ops[j]? =some o→o.dst≠some t)∧cQ (F k) t=cQ (F 0) t)
 | 0,_=> .inr ⟨fun j o h=>by omega,rfl⟩
 | k+1,hk=>by
   have C:ops[k]? =some (ops[k]'U):=bG _;generalize ops[k]'U=o at C;obtain ⟨q,O⟩:=s.get C;have ac:=s.line k o q C O;rw [Bj ac.set t];by_cases e:o.dst=some t
   · rw [if_pos e]; exact .inl ⟨k,o,q,lA _,C,e,O,rfl⟩
   · rw [if_neg e];rcases s.slot t k U with ⟨j,L,q',h1,E,V,Z,ab⟩ | ⟨h1,E⟩
     · exact .inl ⟨j,L,q',U,E,V,Z,ab⟩
     · refine .inr ⟨fun j L I J=> ?_,E⟩;rcases Dw.1 I with I | rfl
       · exact h1 j L I J
       · rw [C] at J; cases J; exact e
def lI (ops:List aC) (rs:List Rec) (f0:Tr AV) (Y:Nat→Prop) (fx:Tr AV):Prop := ∀ t,(∃ j o q,Y j∧ops[j]? =some o∧o.dst=some t∧rs[j]? =some q∧cQ fx t=q.v)∨((∀ j o,Y j→ops[j]? =some o→o.dst≠some t)∧cQ fx t=cQ f0 t)
theorem lI.set {f0 fx L:Tr AV} {Y:Nat→Prop} (V:lI ops rs f0 Y fx) {i:Nat} {o:aC} {q:Rec} (O:ops[i]? =some o) (U:rs[i]? =some q) (h:eY n fx o.dst q.v=some L):lI ops rs f0 (fun j=>Y j∨j=i) L:=by
 intro t;rw [Bj h t];by_cases e:o.dst=some t
 · rw [if_pos e]; exact .inl ⟨i,o,q,.inr rfl,O,e,U,rfl⟩
 · rw [if_neg e];rcases V t with ⟨j,J,q',h1,C⟩ | ⟨h1,C⟩
   · exact .inl ⟨j,J,q',.inl h1,C⟩
   · refine .inr ⟨fun j J E I=> ?_,C⟩;rcases E with E | rfl
     · exact h1 j J E I
     · rw [O] at I; cases I; exact e
theorem Ih {fr E:Tr AV} {d:Option Nat} {v:AV} (C:eY n fr d v=some E) (fx:Tr AV):∃ I,eY n fx d v=some I:=by
 cases d with
 | none=>exact ⟨fx,rfl⟩
 | some d=>
   simp only [eY] at C ⊢;replace C:=aX C; obtain ⟨J,C⟩:=C;rw [J]; exact ⟨_,rfl⟩
theorem Sq.DT (s:Sq P G n ops rs F H) {Y:Nat→Prop} (aj:mV ops Y) {i:Nat} {o:aC} (ac:ops[i]? =some o) (hi:¬Y i) (hr:mV ops (fun j=>Y j∨j=i)) {fx:Tr AV} (ae:lI ops rs (F 0) Y fx) {t:Nat} (ag:t∈nL ops o):cQ fx t=cQ (F i) t:=by
 have al:=(cH.1 ac).1;rcases s.slot t i U with ⟨j,Z,am,h1,J,V,ah,ai⟩ | ⟨h1,J⟩
 · have hp:=s.pair i j o Z ac J h1;have ak:Y j:=by
    rcases hp.ap with hb | ⟨hb,_⟩
    · rcases (oO hr hb).2 (.inr rfl) with h | h
      · exact h
      · omega
    · exact absurd ag<|hb t V
   rcases ae t with ⟨E,O,q',I,C,L,ab,ad⟩ | ⟨I,C⟩
   · have :E=j:=by
      rcases qw E j with aP | he | aP
      · exact absurd L<|(s.pair j E Z O J C aP).ne t V
      · exact he
      · exact absurd V<|(s.pair E j O Z C J aP).ne t L
     subst this;rw [ah] at ab; cases ab;rw [ad,ai]
   · exact absurd V<|I j Z ak J
 · rcases ae t with ⟨E,O,q',I,C,L,ab,ad⟩ | ⟨I,C⟩
   · exfalso;rcases qw E i with aP | he | aP
     · exact h1 E O aP C L
     · subst he; exact hi I
     · rcases (s.pair E i O o C ac aP).ap with hb | ⟨_,hb⟩
       · exact hi<|(oO aj hb).2 I
       · exact hb t L ag
   · rw [C,J]
theorem Hr {fr fx:Tr AV} {x:aY} (h:∀ t,x= .tmp t→cQ fx t=cQ fr t):jy G n fx x=jy G n fr x:=by
 cases x with
 | tmp t=>simp only [jy,h t rfl]
 | const v=>rfl
 | func f=>rfl
 | global g=>rfl
theorem AG {fr fx:Tr AV} :∀ {l:List aY},(∀ t∈n4 l,cQ fx t=cQ fr t)→jz G n fx l=jz G n fr l
 | [],_=>rfl
 | x::l,h=>by
   simp only [jz];rw [Hr (fr:=fr) (fx:=fx) fun t e=>h t (by subst e; simp [n4]),AG (fr:=fr) (fx:=fx) (l:=l) fun t C=>h t (by cases x <;> simp [n4,C])]
theorem FU {fr fx:Tr AV} {g:Option (Nat×Bool)} (h:∀ t∈uB ops g,cQ fx t=cQ fr t):iV n ops fx g=iV n ops fr g:=by
 unfold iV;cases g with
 | none=>rfl
 | some p=>
   obtain ⟨j,want⟩:=p;simp only;cases hj:ops[j]? with
   | none=>rfl
   | some q=>
     simp only;cases hd:q.dst with
     | none=>rfl
     | some t=>
       simp only;rw [h t (by simp [uB,hj,hd])]
theorem Sq.done (s:Sq P G n ops rs F H) {Y:Nat→Prop} (ag:∀ j,j < ops.length→Y j) {fx:Tr AV} (ac:lI ops rs (F 0) Y fx) (t:Nat):cQ fx t=cQ (F ops.length) t:=by
 rcases s.slot t ops.length (aZ _) with ⟨j,Z,ah,h1,I,V,ad,ae⟩ | ⟨h1,I⟩
 · rcases ac t with ⟨E,O,q',J,C,L,U,ab⟩ | ⟨J,C⟩
   · have :E=j:=by
      rcases qw E j with aP | he | aP
      · exact absurd L<|(s.pair j E Z O I C aP).ne t V
      · exact he
      · exact absurd V<|(s.pair E j O Z C I aP).ne t L
     subst this;rw [ad] at U; cases U;rw [ab,ae]
   · exact absurd V<|J j Z (ag j h1) I
 · rcases ac t with ⟨E,O,q',J,C,L,U,ab⟩ | ⟨J,C⟩
   · exact absurd L<|h1 E O (cH.1 C).1 C
   · rw [C,I]
theorem Sq.mono (s:Sq P G n ops rs F H) {i:Nat} :∀ {k:Nat},i≤k→k≤ops.length→(H i).nx≤(H k).nx
 | 0,h,_=>by have :i=0:=U
             subst this; exact aZ _
 | k+1,h,hk=>by
   rcases di k i with aP | hle
   · have :i=k+1:=U;subst this; exact aZ _
   · have C:ops[k]? =some (ops[k]'U):=bG _;obtain ⟨q,E⟩:=s.get C;exact cS (s.mono hle U) (s.line k _ q C E).nx
theorem DW {e:aq} {l:List AV} (ha:qD P e=some l):dF l=true∧∃ us:List ag,(∀ r,aI r l=some us)∧∀ (N:Fm) (σ:Nat→ag) (dst:Option Nat) (ty:aq) (pos :String) (af:Array cq) (g:Option (Nat×Bool)) (w:ah),
 (execOp (ev N σ) ⟨dst,.alloc e,ty,pos,af,g⟩).run P w= .ok (.value<|.pointer<|some ⟨w.heap.size,0,none⟩) {w with heap:=w.heap.push<|.cells us.toArray e (0,0)} :=by
 unfold qD at ha;split at ha
 · rename_i L C;split at ha
   · rename_i O I;replace ha:=aX ha; obtain ⟨E,ha⟩:=ha;cases ha;refine ⟨E,L,fun r=>nB (r:=r) (fun v a=>kX 4) I,fun N σ dst ty pos af g w=> ?_⟩;unfold zeroOf at C;simp only [fR] at C;obtain ⟨i,hi,zv,J,rfl⟩:=C;simp [execOp,sG,zeroValue,cU hi,J,newVar,newRow]
   · cases ha
 · cases ha
end
end Go.Hb
namespace Go.Hb
section
variable {P:ar} {G n T:Nat} {ops:List aC} {rs:List Rec} {F:Nat→Tr AV} {H:Nat→Hp} {r0 r:Rn} {w0 w:ah} {h0:Hp} {Y:Nat→Prop} {lo:Nat}
structure HD (P:ar) (G T:Nat) (ops:List aC) (rs:List Rec) (H:Nat→Hp) (r0:Rn) (w0:ah) (h0:Hp) (Y:Nat→Prop) (lo:Nat) (r:Rn) (w:ah):Prop where
 hi:lo≤rs.length
 lc:∀ j q,rs[j]? =some q→q.k= .c→(Y j↔j < lo)
 la:∀ j q,rs[j]? =some q→q.k= .a→j < lo→Y j
 hr:HR P G r 0 (H lo) w
 new:∀ i,(H lo).nx≤i→i < T→r i=none∨∃ j q,Y j∧lo≤j∧rs[j]? =some q∧q.k= .a∧q.hb.nx=i
 j9:∀ j q,Y j→lo≤j→rs[j]? =some q→q.k= .a→∃ k,r q.hb.nx=some ⟨k,0,0⟩∧w0.heap.size≤k∧(∀ i o q',(H lo).t.get i=some o→r i=some q'→q'.an≠k)∧
  ∃ e l us,cJ q.hb (.cells l e 0 .x)=some q.ha∧(∀ r,aI r l=some us)∧dF l=true∧w.heap[k]? =some (.cells us.toArray e (0,0))
 nI:∀ j j' q q' x x',Y j→lo≤j→rs[j]? =some q→q.k= .a→Y j'→lo≤j'→rs[j']? =some q'→q'.k= .a→r q.hb.nx=some x→r q'.hb.nx=some x'→x.an=x'.an→j=j'
 le:r0.le r
 md:Md (Fr G r0 h0) w0 w
 dE:∀ g,g≤G→∀ k,k < w0.heap.size→Fr g r (H lo) k→Fr g r0 h0 k
 out:∀ i,(H ops.length).nx≤i→r i=r0 i
theorem Sq.fresh (s:Sq P G n ops rs F H) {j:Nat} {q:Rec} (I:rs[j]? =some q) (E:q.k= .a):q.hb=H j∧q.ha=H (j+1)∧(H<|j+1).nx=(H j).nx+1:=by
 obtain ⟨o,J⟩:=s.get' I;have C:=s.line j o q J I;refine ⟨C.hb,C.ha,?_⟩;rw [← C.hb,← C.ha];rcases C.run with ⟨_,_,h⟩ | ⟨_,h,_,_⟩
 · cases h with
   | p h _ _=>rw [E] at h; cases h
   | l h _ _=>rw [E] at h; cases h
   | a e l _ _ _ h _=>exact ju h
   | c h _=>rw [E] at h; cases h
 · rw [E] at h; cases h
theorem Sq.alt (s:Sq P G n ops rs F H) {j i:Nat} {q q':Rec} (L:rs[j]? =some q) (I:q.k= .a) (C:rs[i]? =some q') (J:q'.k= .a) (aP:j < i):q.hb.nx < q'.hb.nx:=by
 obtain ⟨h1,Z,ab⟩:=s.fresh L I;obtain ⟨E,O,V⟩:=s.fresh C J;have :=s.mono (i:=j+1) (k:=i) U<|by have :=(cH.1 C).1; have :=s.len; omega
 rw [h1,E]; omega
theorem Sq.DU (s:Sq P G n ops rs F H) {j i:Nat} {q q':Rec} (I:rs[j]? =some q) (C:q.k= .a) (J:rs[i]? =some q') (E:q'.k= .a) (he:q.hb.nx=q'.hb.nx):j=i:=by
 rcases qw j i with h | h | h
 · have :=s.alt I C J E h; omega
 · exact h
 · have :=s.alt J E I C h; omega
theorem HD.wu (C:HD P G T ops rs H r0 w0 h0 Y lo r w) {q:Rec} (ab:rs[lo]? =some q) (he:H (lo+1)=H lo) (ae:q.k≠.c) (ha:q.k≠.a):HD P G T ops rs H r0 w0 h0 Y (lo+1) r w:=by
 have I:∀ j q',rs[j]? =some q'→(q'.k= .c∨q'.k= .a)→j≠lo:=fun j q' I ag e=>by
  subst e; rw [ab] at I; cases I;rcases ag with h | h
  · exact ae h
  · exact ha h
 refine ⟨(cH.1 ab).1,fun j q' h1 E=> ?_,fun j q' h1 E Z=>C.la j q' h1 E (by have :=I j q' h1 (.inr E); omega),by rw [he]; exact C.hr,fun i h1 E=> ?_,fun j q' h1 E Z ad=>by rw [he]; exact C.j9 j q' h1 U Z ad,fun j ah ai aj x ak O ac J L V al=>C.nI j ah ai aj x ak O U J L V U,C.le,C.md,by rw [he]; exact C.dE,C.out⟩
 · rw [C.lc j q' h1 E]; have :=I j q' h1 (.inl E); omega
 · rw [he] at h1;rcases C.new i h1 E with h | ⟨j,q',O,ac,J,L,V⟩
   · exact .inl h
   · exact .inr ⟨j,q',O,by have :=I j q' J (.inr L); omega,J,L,V⟩
theorem HD.Jo (s:Sq P G n ops rs F H) (C:HD P G T ops rs H r0 w0 h0 Y lo r w) {q:Rec} (O:rs[lo]? =some q) (ha:q.k= .a) (ad:Y lo):HD P G T ops rs H r0 w0 h0 Y (lo+1) r w:=by
 obtain ⟨f1,f2,f3⟩:=s.fresh O ha;obtain ⟨k,V,aB,aq,e,l,us,hn,ar,h1,hw⟩:=C.j9 lo q ad (aZ _) O ha;rw [f1] at V;rw [f1,f2] at hn;unfold cJ at hn;replace hn:=aX hn; obtain ⟨ab,hn⟩:=hn;simp only [bD] at hn;have aC:(H<|lo+1).nx=(H lo).nx+1:=f3;refine ⟨(cH.1 O).1,fun j q' h1 I=> ?_,fun j q' h1 I am=> ?_,?_,fun i h1 I=> ?_,fun j q' J ag E L=> ?_,fun j au aw ax x ay J ag E L Z aA=>C.nI j au aw ax x ay J U E L Z U,C.le,C.md,?_,C.out⟩
 · rw [C.lc j q' h1 I];have :j≠lo:=fun e=>by subst e; rw [O] at h1; cases h1; rw [ha] at I; cases I
   omega
 · rcases Dw.1 am with h | rfl
   · exact C.la j q' h1 I h
   · exact ad
 · rw [← hn];exact C.hr.put (r':=r) (w':=w) (q:=⟨k,0,0⟩) (Rn.le_refl r) ab V (by rw [hw]; exact vj (ar r) h1) (fun _ _ _=>rfl) (fun j av q' _ an hr=>aq j av q' an hr) (kA _) fun _ _ ao=>absurd ao<|ta _
 · rcases C.new i U I with h | ⟨j,q',J,ag,E,L,Z⟩
   · exact .inl h
   · refine .inr ⟨j,q',J,?_,E,L,Z⟩;rcases di lo j with h | h
     · exact h
     · have :j=lo:=U;subst this;rw [O] at E; cases E;rw [f1] at Z; omega
 · obtain ⟨ae,ah,aj,ak,al⟩:=C.j9 j q' J U E L;refine ⟨ae,ah,aj,fun i o x hi ac=> ?_,al⟩;rw [← hn] at hi;simp only [Tr.jZ _ _ _ _ ab] at hi;split at hi
   · rename_i e; subst e;intro hb;rw [V] at ac; cases ac;have :=C.nI lo j q q' _ _ ad (aZ _) O ha J U E L (by rw [f1]; exact V) ah hb;omega
   · exact ak i o x hi ac
 · intro g hg ae ap ai;rw [← hn] at ai;rcases Fr.set ab V (Rn.le_refl r) C.hr ai with h | h
   · simp only at h; omega
   · exact C.dE g hg ae ap h
theorem HD.up (s:Sq P G n ops rs F H) (I:HD P G T ops rs H r0 w0 h0 Y lo r w) {q:Rec} (C:rs[lo]? =some q) (E:q.k≠.c) (ha:q.k= .a→Y lo):HD P G T ops rs H r0 w0 h0 Y (lo+1) r w:=by
 obtain ⟨o,L⟩:=s.get' C;have J:=s.line lo o q L C;have same:q.ha=q.hb→H (lo+1)=H lo:=fun h=>by rw [← J.hb,← J.ha,h]
 rcases J.run with ⟨_,_,h⟩ | ⟨_,h,_,h'⟩
 · cases h with
   | p h _ h'=>exact I.wu C (same h') E<|by rw [h]; intro h; cases h
   | l h _ h'=>exact I.wu C (same h') E<|by rw [h]; intro h; cases h
   | a e l h _ _ _ _=>exact I.Jo s C h<|ha h
   | c h _=>exact absurd h E
 · exact I.wu C (same h') E<|by rw [h]; intro h; cases h
theorem HD.wx (s:Sq P G n ops rs F H) (C:HD P G T ops rs H r0 w0 h0 Y lo r w):∀ (i:Nat),lo≤i→i≤rs.length→(∀ j q,lo≤j→j < i→rs[j]? =some q→q.k≠.c∧(q.k= .a→Y j))→HD P G T ops rs H r0 w0 h0 Y i r w
 | 0,h,_,_=>by have :lo=0:=U
               subst this; exact C
 | i+1,h,hi,hall=>by
   rcases di i lo with aP | hle
   · have :lo=i+1:=U;subst this; exact C
   · have h':=HD.wx s C i hle U fun j q a b c=>hall j q a U c;have E:rs[i]? =some (rs[i]'U):=bG _;exact h'.up s E (hall i _ hle (lA _) E).1 (hall i _ hle (lA _) E).2
theorem HD.skip (C:HD P G T ops rs H r0 w0 h0 Y lo r w) {i:Nat} {q:Rec} (ak:rs[i]? =some q) (ai:q.k≠.c) (ha:q.k≠.a):HD P G T ops rs H r0 w0 h0 (fun j=>Y j∨j=i) lo r w:=by
 have E:∀ j q',rs[j]? =some q'→(q'.k= .c∨q'.k= .a)→(Y j∨j=i)→Y j:=fun j q' E aj al=>by
  rcases al with h | rfl
  · exact h
  · rw [ak] at E; cases E;rcases aj with h | h
    · exact absurd h ai
    · exact absurd h ha
 refine ⟨C.hi,fun j q' h1 I=> ?_,fun j q' h1 I ah=> .inl (C.la j q' h1 I ah),C.hr,fun i h1 I=> ?_,fun j q' J L O U=>C.j9 j q' (E j q' O (.inr U) J) L O U,fun j ab ac ad x am J L O U ae ag V Z=>C.nI j ab ac ad x am (E j ac O (.inr U) J) L O U (E ab ad V (.inr Z) ae) ag V Z,C.le,C.md,C.dE,C.out⟩
 · rw [← C.lc j q' h1 I]; exact ⟨E j q' h1 (.inl I),.inl⟩
 · rcases C.new i h1 I with h | ⟨j,q',J,L⟩
   · exact .inl h
   · exact .inr ⟨j,q',.inl J,L⟩
theorem HR.grow {h:Hp} {r':Rn} {w':ah} (hr:HR P G r 0 h w) (hle:r.le r') (hw:∀ k,k < w.heap.size→w'.heap[k]? =w.heap[k]?):HR P G r' 0 h w':=by
 refine ⟨fun i o hi=> ?_,fun i j o L q q' hi J h1 C he=> ?_,fun i _ h=>absurd h (ta _),hr.ew.le hle,hr.base⟩
 · obtain ⟨q,h1,C⟩:=hr.live i o hi;refine ⟨q,hle _ _ h1,?_⟩;rw [hw _ (hr.lt hi h1)];exact C.le hle
 · obtain ⟨x,E,_⟩:=hr.live i o hi;obtain ⟨O,I,_⟩:=hr.live j L J;rw [hle _ _ E] at h1; cases h1;rw [hle _ _ I] at C; cases C;exact hr.inj i j o L _ _ hi J E I he
theorem HD.early (s:Sq P G n ops rs F H) (C:HD P G T ops rs H r0 w0 h0 Y lo r w) (hT:(H ops.length).nx≤T) {i:Nat} {q:Rec} {e:aq} {l:List AV} {us:List ag} (Z:rs[i]? =some q) (ac:q.k= .a) (aG:¬Y i) (hn:cJ q.hb (.cells l e 0 .x)=some q.ha) (aQ:∀ r,aI r l=some us) (h1:dF l=true):
 r.le (r.ext q.hb.nx ⟨w.heap.size,0,0⟩)∧HD P G T ops rs H r0 w0 h0 (fun j=>Y j∨j=i) lo (r.ext q.hb.nx ⟨w.heap.size,0,0⟩) {w with heap:=w.heap.push<|.cells us.toArray e (0,0)} :=by
 obtain ⟨f1,f2,f3⟩:=s.fresh Z ac;have aP:i < ops.length:=by rw [← s.len]; exact (cH.1 Z).1
 have aJ:lo≤i:=by
  rcases di i lo with h | h
  · exact absurd (C.la i q Z ac h) aG
  · exact h
 have m1:=s.mono aJ<|Nat.le_of_lt aP;have aR:=s.mono (i:=i+1) (k:=ops.length) U<|aZ _;have aN:r q.hb.nx=none:=by
  rw [f1];rcases C.new (H i).nx m1 U with h | ⟨j,q',I,ad,L,ae,V⟩
  · exact h
  · have :=s.DU L ae Z ac<|by rw [V,f1]
    subst this; exact absurd I aG
 have hle:=Rn.pk (r:=r) (i:=q.hb.nx) ⟨w.heap.size,0,0⟩ aN;have aH:∀ k,k < w.heap.size→({w with heap:=w.heap.push<|.cells us.toArray e (0,0)} :ah).heap[k]? =w.heap[k]? :=fun k ac=>by
  simp only [sB]; rw [if_neg U]
 have live:∀ j o x,(H lo).t.get j=some o→(r.ext q.hb.nx ⟨w.heap.size,0,0⟩) j=some x→r j=some x:=fun j o x h1 aF=>by
  obtain ⟨ao,E,_⟩:=C.hr.live j o h1;rw [hle _ _ E] at aF; cases aF; exact E
 refine ⟨hle,C.hi,fun j q' E O=> ?_,fun j q' E O ak=> .inl (C.la j q' E O ak),C.hr.grow hle aH,fun am E O=> ?_,fun j q' I ad L ae=> ?_,fun j ay ab aA x ao I ad L ae V ap ai ar au aj av=> ?_,Rn.le_trans C.le hle,Md.trans' C.md (G6 w _ fun _=>False) (fun _ _ h=>h.elim),fun g hg k ac aM=> ?_,fun am aO=> ?_⟩
 · rw [← C.lc j q' E O];refine ⟨fun h=> ?_,.inl⟩;rcases h with h | rfl
   · exact h
   · rw [Z] at E; cases E; rw [ac] at O; cases O
 · by_cases he:am=q.hb.nx
   · exact .inr ⟨i,q,.inr J,aJ,Z,ac,he.symm⟩
   · rw [Rn.iU _ _ he];rcases C.new am E O with h | ⟨j,q',I,ad⟩
     · exact .inl h
     · exact .inr ⟨j,q',.inl I,ad⟩
 · rcases I with I | rfl
   · obtain ⟨k,E,O,ak,e',aK,aL,aC,aD,aE,al⟩:=C.j9 j q' I ad L ae;exact ⟨k,hle _ _ E,O,fun i o x hi ax=>ak i o x hi (live i o x hi ax),e',aK,aL,aC,aD,aE,by rw [aH k (eC.1 al).1]; exact al⟩
   · rw [Z] at L; cases L;refine ⟨w.heap.size,Rn.fW _ _ _,C.md.size,fun i o x hi ax=> ?_,e,l,us,hn,aQ,h1,by simp⟩;have :=C.hr.lt hi<|live i o x hi ax;omega
 · have dE:∀ j ab x,Y j→lo≤j→rs[j]? =some ab→ab.k= .a→(r.ext q.hb.nx ⟨w.heap.size,0,0⟩) ab.hb.nx=some x→r ab.hb.nx=some x∧x.an < w.heap.size:=fun j ab x c1 c2 c3 aw aB=>by
    obtain ⟨k,E,O,ak,e',aK,aL,aC,aD,aE,al⟩:=C.j9 j ab c1 c2 c3 aw;rw [hle _ _ E] at aB; cases aB;exact ⟨E,(eC.1 al).1⟩
   rcases I with I | rfl
   · obtain ⟨c1,c2⟩:=dE j ab x I ad L ae au;rcases V with V | rfl
     · obtain ⟨d1,d2⟩:=dE ay aA ao V ap ai ar aj;exact C.nI j ay ab aA x ao I ad L ae V ap ai ar c1 d1 av
     · rw [Z] at ai; cases ai;rw [Rn.fW] at aj; cases aj;simp only at av; omega
   · rw [Z] at L; cases L;rw [Rn.fW] at au; cases au;rcases V with V | rfl
     · obtain ⟨d1,d2⟩:=dE ay aA ao V ap ai ar aj;simp only at av; omega
     · rfl
 · obtain ⟨j,o,x,c1,c2,c3,aw⟩:=aM;exact C.dE g hg k ac ⟨j,o,x,c1,c2,live j o x c2 c3,aw⟩
 · rw [Rn.iU _ _ (by rw [f1]; omega)]; exact C.out am aO
theorem HD.F7 (s:Sq P G n ops rs F H) (C:HD P G T ops rs H r0 w0 h0 Y lo r w) (hT:(H ops.length).nx≤T) {q:Rec} (J:rs[lo]? =some q) (O:q.k= .c):HR P G r (H<|lo+1).nx (H lo) w:=by
 have ac:lo < ops.length:=by rw [← s.len]; exact (cH.1 J).1
 have ad:=s.mono (i:=lo+1) (k:=ops.length) U<|aZ _;refine ⟨C.hr.live,C.hr.inj,fun i h1 ab=> ?_,C.hr.ew,C.hr.base⟩;rcases C.new i h1 U with h | ⟨j,q',V,Z,E,I,L⟩
 · exact h
 · exfalso;obtain ⟨f1,f2,f3⟩:=s.fresh E I;have :j≠lo:=fun e=>by subst e; rw [J] at E; cases E; rw [O] at I; cases I
   have :=s.mono (i:=lo+1) (k:=j) U<|by have :=(cH.1 E).1; have :=s.len; omega
   rw [f1] at L; omega
theorem HD.Jf (s:Sq P G n ops rs F H) (C:HD P G T ops rs H r0 w0 h0 Y lo r w) {q:Rec} (ap:rs[lo]? =some q) (V:q.k= .c) {r':Rn} {w':ah} (st:St P G (H<|lo+1).nx r (H lo) w r' (H<|lo+1) w'):HD P G T ops rs H r0 w0 h0 (fun j=>Y j∨j=lo) (lo+1) r' w':=by
 have aK:lo < ops.length:=by rw [← s.len]; exact (cH.1 ap).1
 have aG:=s.mono (i:=lo+1) (k:=ops.length) U<|aZ _;have ao:∀ j q',rs[j]? =some q'→q'.k= .a→j≠lo:=fun j q' h1 ae e=>by subst e; rw [ap] at h1; cases h1; rw [V] at ae; cases ae
 have Z:∀ j q',rs[j]? =some q'→q'.k= .a→(Y j∨j=lo)→Y j:=fun j q' h1 ae aC=>aC.resolve_right<|ao j q' h1 ae;refine ⟨(cH.1 ap).1,fun j q' E L=> ?_,fun j q' E L al=> ?_,⟨st.hr.live,st.hr.inj,fun i _ h=>absurd h (ta _),st.hr.ew,st.hr.base⟩,fun i E L=> ?_,fun j q' O aq I J=> ?_,fun j ag ai aj x aM O aq I J ab aJ ac ad ar au ax=> ?_,Rn.le_trans C.le st.le,Md.trans' C.md st.md (fun k V am=>C.dE G (aZ _) k V am),fun g hg k V am=>C.dE g hg k V (st.dE g hg k (lz V C.md.size) am),fun i hi=>(st.out i<|cS aG hi).trans<|C.out i hi⟩
 · rw [C.lc j q' E L]; omega
 · have :=ao j q' E L;exact .inl<|C.la j q' E L U
 · rw [st.out i E];rcases C.new i (cS st.nx E) L with h | ⟨j,q',O,aq,I,J,ab⟩
   · exact .inl h
   · have :=ao j q' I J;exact .inr ⟨j,q',.inl O,U,I,J,ab⟩
 · obtain ⟨k,E,L,al,e',aF,aI,ay,aA,aB,aw⟩:=C.j9 j q' (Z j q' I J O) U I J;have aD:=(eC.1 aw).1;refine ⟨k,st.le _ _ E,L,fun i o x hi aE hb=> ?_,e',aF,aI,ay,aA,aB,st.md.an aw fun ⟨i,o,x,_,c2,c3,ak⟩=>al i o x c2 c3 ak⟩;obtain ⟨i2,aH,x2,_,c2,c3,ak⟩:=st.dE 0 (jM _) k aD ⟨i,o,x,jM _,hi,aE,hb⟩;exact al i2 aH x2 c2 c3 ak
 · obtain ⟨k,E,_⟩:=C.j9 j ai (Z j ai I J O) U I J;obtain ⟨aL,av,_⟩:=C.j9 ag aj (Z ag aj ac ad ab) U ac ad;rw [st.le _ _ E] at ar; cases ar;rw [st.le _ _ av] at au; cases au;exact C.nI j ag ai aj _ _ (Z j ai I J O) U I J (Z ag aj ac ad ab) U ac ad E av ax
theorem HD.done (s:Sq P G n ops rs F H) (I:HD P G T ops rs H r0 w0 (H 0) Y lo r w) (hT:(H ops.length).nx≤T) (J:∀ j,j < ops.length→Y j):St P G T r0 (H 0) w0 r (H ops.length) w:=by
 have C:=I.wx s ops.length (by have :=I.hi; rw [s.len] at this; exact this) (by rw [s.len]; exact aZ _) fun j q h1 E O=>⟨fun U=>by have :=(I.lc j q O U).1 (J j E); omega,fun _=>J j E⟩
 refine ⟨C.le,⟨C.hr.live,C.hr.inj,fun i h1 E=> ?_,C.hr.ew,C.hr.base⟩,s.mono (jM _) (aZ _),C.md,C.dE,C.out⟩;rcases C.new i h1 E with h | ⟨j,q',V,Z,L,ab,ac⟩
 · exact h
 · have :=(cH.1 L).1; have :=s.len; omega
theorem HD.start (s:Sq P G n ops rs F H) (hr:HR P G r0 T (H 0) w0) (C:∀ j,¬Y j):HD P G T ops rs H r0 w0 (H 0) Y 0 r0 w0:=
 ⟨jM _,fun j q _ _=>⟨fun h=>absurd h (C j),fun h=>by omega⟩,fun j q _ _ h=>by omega,⟨hr.live,hr.inj,fun i _ h=>absurd h (ta _),hr.ew,hr.base⟩,fun i h1 E=> .inl (hr.new i h1 E),fun j q h=>absurd h (C j),fun j I q q' x J h=>absurd h (C j),Rn.le_refl _,Md.refl _ _,fun _ _ _ _ h=>h,fun _ _=>rfl⟩
end
end Go.Hb
namespace Go.Hb
section
variable {P:ar} {G n T:Nat} {ops:List aC} {rs:List Rec} {F:Nat→Tr AV} {H:Nat→Hp}
def Yl (listed:Array Bool) (j:Nat):Prop :=listed[j]? =some true
theorem DM {listed:Array Bool} {i:Nat} (hi:i < listed.size):Yl (listed.setIfInBounds i true)=fun j=>Yl listed j∨j=i:=by
 funext j;apply propext;unfold Yl;rw [pZ];by_cases e:i=j
 · subst e; simp [hi]
 · rw [if_neg e];exact ⟨.inl,fun h=>h.resolve_right fun x=>e x.symm⟩
theorem filter_le {p p':Nat→Bool} (h:∀ j,p' j=true→p j=true):∀ l:List Nat,(l.filter p').length≤(l.filter p).length
 | []=>aZ _
 | a::l=>by
   have :=filter_le h l;simp only [Dd];cases hp:p' a
   · cases p a
     · simpa using this
     · simp only [if_true,qe,if_false,dd]; omega
   · rw [h a hp]; simp only [if_true,dd]; omega
theorem filter_lt {p p':Nat→Bool} (h:∀ j,p' j=true→p j=true) {i:Nat} (hp:p i=true) (C:p' i=false):∀ {l:List Nat},i∈l→(l.filter p').length < (l.filter p).length
 | a::l,hm=>by
   simp only [Dd];rcases fQ.1 hm with rfl | hm
   · rw [hp,C];have :=filter_le h l;simp only [if_true,qe,if_false,dd]; omega
   · have :=filter_lt h hp C hm;cases hq:p' a
     · cases p a
       · simpa using this
       · simp only [if_true,qe,if_false,dd]; omega
     · rw [h a hq]; simp only [if_true,dd]; omega
def un (m:Nat) (listed:Array Bool):Nat:=((lu m).filter fun i=> !listed.getD i true).length
theorem Jn {m:Nat} {listed:Array Bool} {i:Nat} (hm:i < m) (hi:listed[i]? =some false):un m (listed.setIfInBounds i true) < un m listed:=by
 have aP:=(eC.1 hi).1;refine filter_lt (i:=i) (fun j C=> ?_) ?_ ?_ (sX.2 hm)
 · simp only [jF] at C ⊢;rw [g9,pZ] at C;rw [g9];by_cases e:i=j
   · subst e; rw [if_pos rfl,if_pos aP] at C; simp at C
   · rw [if_neg e] at C; exact C
 · simp [g9,hi]
 · simp [g9,aP]
theorem HG {listed:Array Bool} {i:Nat} (L:listed.size=ops.length) (h:i∈dG .any ops.toArray listed):∃ o,ops[i]? =some o∧listed[i]? =some false∧∀ e∈o.after.toList,dr .any e=true→Yl listed e.on:=by
 unfold dG at h;rw [Dj] at h;obtain ⟨h1,C⟩:=h;simp only [sX,dY] at h1;simp only [a9,jF,ku] at C;have E:ops[i]? =some ops[i]:=bG _;generalize ops[i]=o at E;rw [E] at C;simp only [eS,ie] at C;have J:listed[i]? =some (listed[i]'U):=mG _;refine ⟨o,E,?_,fun e he hb=> ?_⟩
 · have :=C.1;rw [g9,J] at this;rw [J]; simp at this; rw [this]
 · have I:=C.2;rw [Cj] at I;have :=I e<|by simpa using he
   rw [hb] at this;simp only [Bool.not_true,Bool.false_or] at this;unfold Yl;rw [g9] at this;cases hx:listed[e.on]? with
   | none=>rw [hx] at this; simp at this
   | some b=>rw [hx] at this; simp at this; rw [this]
theorem AX (s:Sq P G n ops rs F H) {listed:Array Bool} (J:listed.size=ops.length) (h:dG .any ops.toArray listed= []):∀ j,j < ops.length→Yl listed j:=by
 intro j
 induction j using Nat.strongRecOn with
 | ind j ih=>
   intro I;have E:listed[j]? =some (listed[j]'U):=mG _;cases hb:listed[j]'U with
   | true =>unfold Yl; rw [E,hb]
   | false =>
     exfalso;have C:ops[j]? =some ops[j]:=bG _;generalize ops[j]=o at C;have :j∈dG .any ops.toArray listed:=by
      unfold dG;rw [Dj];refine ⟨by simpa using I,?_⟩;simp only [a9,jF,ku,C,eS,ie];refine ⟨by rw [g9,E,hb]; rfl,?_⟩;rw [Cj];intro e he;cases hbd:dr .any e
      · simp
      · have aP:=s.ng j o C e (by simpa using he) hbd;have :=ih e.on aP U;unfold Yl at this;rw [g9,this]; simp
     rw [h] at this; cases this
variable {r0:Rn} {w0:ah} {rr:Option Nat} {Dl:List Deferred} {Q:bo→Act→ah→Prop}
theorem Ff (s:Sq P G n ops rs F H) (bo:j6 P (gu ops []) rs 0 ops rs=true) (hT:(H ops.length).nx≤T) (aI:∀ r w σ,St P G T r0 (H 0) w0 r (H ops.length) w→dJ r n (F ops.length) σ→Q .normal (act ⟨n,Dl,[],rr⟩ σ) w):
 ∀ (fuel:Nat) (listed:Array Bool) (lo:Nat) (fx:Tr AV) (σ:Nat→ag) (r:Rn) (w:ah),listed.size=ops.length→un ops.length listed≤fuel→mV ops (Yl listed)→lI ops rs (F 0) (Yl listed) fx→HD P G T ops rs H r0 w0 (H 0) (Yl listed) lo r w→
   (lo=0∨∃ j q,lo=j+1∧rs[j]? =some q∧q.k= .c∧Yl listed j)→dJ r n fx σ→wpAnyIn (fe rr) 0 P .any ops.toArray Q fuel listed (act ⟨n,Dl,[],rr⟩ σ) w:=by
 have fin:∀ (listed:Array Bool) (lo:Nat) (fx:Tr AV) (σ:Nat→ag) (r:Rn) (w:ah),(∀ j,j < ops.length→Yl listed j)→lI ops rs (F 0) (Yl listed) fx→HD P G T ops rs H r0 w0 (H 0) (Yl listed) lo r w→dJ r n fx σ→Q .normal (act ⟨n,Dl,[],rr⟩ σ) w:=by
  intro listed lo fx σ r w aT ai E Z;refine aI r w σ (E.done s hT aT) fun i hi=> ?_;rw [← s.done aT ai i];exact Z i hi
 intro fuel
 induction fuel with
 | zero=>
   intro listed lo fx σ r w ar a5 aA ai E aK Z;have a2:(lu ops.length).filter (fun i=> !listed.getD i true)= []:=List.length_eq_zero_iff.1<|Nat.le_zero.1 a5;have hr:dG .any ops.toArray listed= []:=by
    unfold dG;rw [List.filter_eq_nil_iff] at a2 ⊢;intro a ha;have :=a2 a<|by simpa using ha
    simp only [jF,Bool.not_eq_false,a9,not_and] at this ⊢;intro h; rw [this] at h; cases h
   exact ⟨hr,fin listed lo fx σ r w (AX s ar hr) ai E Z⟩
 | succ fuel ih=>
   intro listed lo fx σ r w ar a5 aA ai E aK Z;refine ⟨fun hr=>fin listed lo fx σ r w (AX s ar hr) ai E Z,fun i hi=> ?_⟩;obtain ⟨o,ad,a1,bf⟩:=HG ar hi;have bi:=(cH.1 ad).1;have aq:¬Yl listed i:=fun h=>by unfold Yl at h; rw [a1] at h; cases h
   obtain ⟨q,O⟩:=s.get ad;have am:=s.line i o q ad O;have aB:mV ops (fun j=>Yl listed j∨j=i):=by
    intro j aw ao ae e he hb;rcases ao with ao | rfl
    · exact .inl<|aA j aw ao ae e he hb
    · rw [ad] at ae; cases ae; exact .inl<|bf e he hb
   have ay:=DM (listed:=listed) (i:=i) U;have bu:(listed.setIfInBounds i true).size=ops.length:=by simpa using ar
   have bv:un ops.length (listed.setIfInBounds i true)≤fuel:=by have :=Jn bi a1; omega
   have aS:∀ t∈nL ops o,cQ fx t=cQ (F i) t:=fun t au=>s.DT aA ad aq aB ai au;obtain ⟨a6,a4⟩:=Ih am.set fx;have bt:=ai.set ad O a4;have next :∀ (av:Nat) (r':Rn) (u:ag) (w':ah),r.le r'→den r' q.v=some u→HD P G T ops rs H r0 w0 (H 0) (fun j=>Yl listed j∨j=i) av r' w'→(av=0∨∃ j q,av=j+1∧rs[j]? =some q∧q.k= .c∧(Yl listed j∨j=i))→
    wpAnyIn (fe rr) 0 P .any ops.toArray Q fuel (listed.setIfInBounds i true) ((act ⟨n,Dl,[],rr⟩ σ).put o.dst u) w':=by
    intro av r' u w' hle hu aH bj;rw [eu];refine ih _ av a6 _ r' w' bu bv ?_ ?_ ?_ ?_ (nS a4 (Z.le hle) hu)
    · rw [ay]; exact aB
    · rw [ay]; exact bt
    · rw [ay]; exact aH
    · rcases bj with h | ⟨j,q,h1,L,ac,al⟩
      · exact .inl h
      · exact .inr ⟨j,q,h1,L,ac,by rw [ay]; exact al⟩
   have aC:lo=0∨∃ j q,lo=j+1∧rs[j]? =some q∧q.k= .c∧(Yl listed j∨j=i):=aK.imp id fun ⟨j,q,h1,L,ac,al⟩=>⟨j,q,h1,L,ac,.inl al⟩
   have aW:=FU (n:=n) (ops:=ops) (g:=o.guard) (fr:=F i) (fx:=fx) fun t au=>aS t<|List.mem_append_left _ au;have bp:=AG (G:=G) (n:=n) (l:=fu o.op) (fr:=F i) (fx:=fx) fun t au=>aS t<|List.mem_append_right _ au;have bq:=Az bo;have aD:=bq.2 i o q ad O;rw [cy] at aD;show wpOpIn (fe rr) 0 P ops.toArray Q i _ _ w;unfold wpOpIn;rw [ku,ad];show if _ then _ else _
   rcases am.run with ⟨hg,bz,V⟩ | ⟨hg,a0,bx,bD⟩
   · rw [if_pos (uA (N:=⟨n,Dl,[],rr⟩) (aW.trans hg) Z)];have aE:=rG (N:=⟨n,Dl,[],rr⟩) E.hr.ew Z<|bp.trans bz;have bg:=am.set;obtain ⟨d,op,ty,pos,af,g⟩:=o;simp only at aE V next aD
     cases V with
     | p I ab aO=>
       have aL:∀ c,op≠.defer c:=fun c e=>by subst e; simp [l8] at ab
       obtain ⟨u,h1,L⟩:=AI (N:=⟨n,Dl,[],rr⟩) (dst:=d) (ty:=ty) (pos :=pos) (af:=af) (g:=g) ab aE;exact ss aL (.inl<|L w)<|next lo r u w (Rn.le_refl r) h1 (E.skip O (by rw [I]; intro h; cases h)<|by rw [I]; intro h; cases h) aC
     | l I ab aO=>
       have aL:∀ c,op≠.defer c:=fun c e=>by subst e; simp [iw] at ab
       have aG:=Ay<|aD.1 I;have bl:iw P op q.xs (H lo)=some q.v:=by
        rcases di i lo with aP | aX
        · rcases aK with h0 | ⟨j,C,h1,L,ac,al⟩
          · omega
          · have ap:=(aG j C L).1 ac;rw [cy] at ap;have aY:¬j < i:=U;have bE:j≠i:=fun e=>by subst e; exact aq al
            rcases ap.2 aY with hb | hb
            · exact absurd ((oO aA hb).2 al) aq
            · obtain ⟨aw,ae⟩:=s.get' L;rw [(s.line j aw C ae L).ha,← h1] at hb;exact hb
        ·
         have aQ:∀ (m:Nat),lo≤m→m≤i→(∀ j C,lo≤j→j < m→rs[j]? =some C→C.k≠.c)→H m=H lo:=by
          intro m
          induction m with
          | zero=>intro h _ _; have :lo=0:=U
                  subst this; rfl
          | succ m aN=>
            intro h1 L ac;rcases di m lo with aP | hle
            · have :lo=m+1:=U;subst this; rfl
            · have hm:=aN hle U fun j C a b c=>ac j C a U c;have a3:ops[m]? =some (ops[m]'U):=bG _;obtain ⟨an,aM⟩:=s.get a3;have aJ:=s.line m _ an a3 aM;have bn:=ac m an hle (lA _) aM;have bm:an.k≠.a:=fun ha=>by
               have :=(aG m an aM).2 ha;omega
              have he:an.ha=an.hb:=by
               rcases aJ.run with ⟨_,_,V⟩ | ⟨_,_,_,V⟩
               · cases V with
                 | p _ _ h=>exact h
                 | l _ _ h=>exact h
                 | a e l h _ _ _ _=>exact absurd h bm
                 | c h _=>exact absurd h bn
               · exact V
              rw [← aJ.ha,he,aJ.hb,hm]
         by_cases hex:∃ j C,lo≤j∧j < i∧rs[j]? =some C∧C.k= .c
         ·
          have first :∀ (m:Nat),lo≤m→m≤i→(∃ j C,lo≤j∧j < m∧rs[j]? =some C∧C.k= .c)→∃ j C,lo≤j∧j < i∧rs[j]? =some C∧C.k= .c∧∀ aj q',lo≤aj→aj < j→rs[aj]? =some q'→q'.k≠.c:=by
           intro m
           induction m with
           | zero=>rintro _ _ ⟨j,_,_,h,_⟩; omega
           | succ m aN=>
             intro h1 L ⟨j,C,aF,aR,ak,ax⟩;by_cases hex:∃ j C,lo≤j∧j < m∧rs[j]? =some C∧C.k= .c
             · obtain ⟨aj,bC,a7,a8,ba,bb⟩:=hex;exact aN U U ⟨aj,bC,a7,a8,ba,bb⟩
             · refine ⟨j,C,aF,U,ak,ax,fun aj q' a b c d=>hex ⟨aj,q',a,U,c,d⟩⟩
          obtain ⟨j,C,aF,aR,ak,ax,bc⟩:=first i aX (aZ _) hex
          have ap:=(aG j C ak).1 ax;rw [cy] at ap;rcases ap.1 aR with hb | hb
          · rcases (oO aB hb).2 (.inr rfl) with h | h
            · have :=(E.lc j C ak ax).1 h; omega
            · omega
          · obtain ⟨aw,ae⟩:=s.get' ak;rw [(s.line j aw C ae ak).hb,aQ j aF U bc] at hb;exact hb
         · have :=aQ i aX (aZ _) fun j C a b c d=>hex ⟨j,C,a,b,c,d⟩;rw [← this,← am.hb]; exact ab
       obtain ⟨u,h1,L⟩:=AH (N:=⟨n,Dl,[],rr⟩) (dst:=d) (ty:=ty) (pos :=pos) (af:=af) (g:=g) E.hr bl aE;exact ss aL (.inl L)<|next lo r u w (Rn.le_refl r) h1 (E.skip O (by rw [I]; intro h; cases h)<|by rw [I]; intro h; cases h) aC
     | a e l I ab aO bA bB=>
       subst ab;obtain ⟨h1,us,bw,br⟩:=DW aO;obtain ⟨hle,aH⟩:=E.early s hT O I aq bA bw h1;refine ss (fun c e=>by cases e) (.inl<|br ⟨n,Dl,[],rr⟩ σ d ty pos af g w)<|next lo _ _ _ hle ?_ aH aC
       rw [bB];simp only [den,Rn.fW,cy]
     | c I ab=>
       have bd:=Ax<|aD.2 I;have aP:lo≤i:=by
        rcases di i lo with h | h
        · exact absurd ((E.lc i q O I).2 h) aq
        · exact h
       have aU:∀ j C,j < i→rs[j]? =some C→(C.k= .c∨C.k= .a)→Yl listed j:=fun j C aY ao aI=>by
        have hb:=bd j C ao aI U;rw [cy] at hb;rcases (oO aB hb).2 (.inr rfl) with h | h
        · exact h
        · omega
       have aV:=E.wx s i aP (by rw [s.len]; omega) fun j C a b c=>⟨fun V=>by have :=(E.lc j C c V).1 (aU j C b c<|.inl V); omega,fun ha=>aU j C b c<|.inr ha⟩
       have bh:=aV.F7 s hT O I;obtain ⟨n1,s1⟩:=ab;rw [am.hb,am.ha] at s1;refine s1 _ r w ⟨n,Dl,[],rr⟩ σ d ty pos af g _ Q (aZ _) bh aE fun r' u w' hu bg=> ?_;exact next (i+1) r' u w' bg.le hu (aV.Jf s O I bg)<|.inr ⟨i,q,J,O,I,.inr J⟩
   · rw [if_neg (by rw [zJ (N:=⟨n,Dl,[],rr⟩) (aW.trans hg) Z]; simp)];refine ⟨fun f _=>kM _ f,next lo r undef w (Rn.le_refl r) (by rw [bx]; exact gH r) (E.skip O (by rw [a0]; intro h; cases h)<|by rw [a0]; intro h; cases h) aC⟩
theorem Fc {X:Xt} {ih:Tk→Rs} (ag:Good P G ih) (ah:gF P G X) (ae:fC P) (ai:∀ f args h v h',ih (.cl f args h)= .rv v h'→∃ fn c,P.funcs[f]? =some fn∧fn.body=some c) (hm:P.follows .mixedOrders=true):xJ P G X ih:=by
 intro rd n id ops fr D h;show match qR P G X ih n ops fr D h with
  | .cd e ad I h'=>de P G rd n (fun rr Q a w=>(CG id ⟨ops⟩ true).wpIn (fe rr) 0 P Q a w) fr D h e ad I h'
  | .no=>True
  | _=>False
 have ak:qR P G X ih n ops fr D h=cond (m8 ops (gu ops []) 0 ops) (match ka P G X ih n ops (gu ops []) 0 none ops fr h with
  | some (rs,fr,h)=>cond (j6 P (gu ops []) rs 0 ops rs) (.cd .bX fr D h) .no
  | none=> .no) .no:=rfl
 rw [ak];cases hc1:m8 ops (gu ops []) 0 ops
 · exact trivial
 · rw [cond_true];cases hrec:ka P G X ih n ops (gu ops []) 0 none ops fr h with
   | none=>exact trivial
   | some x=>
     obtain ⟨rs,ar,au⟩:=x;simp only;cases hok:j6 P (gu ops []) rs 0 ops rs
     · exact trivial
     · rw [cond_true];obtain ⟨F,H,L,O,V,Z,ab,ac⟩:=AY ag ah ae ai hrec;have s:Sq P G n ops rs F H:=⟨ab,ac,fun i j ap aq hi C aP=>by
        have :=(tL hc1 i ap hi).2 j aq C U;rwa [cy] at this,fun i o ao=>by
        have :=yW (tL hc1 i o ao).1;rwa [cy] at this⟩
       subst L; subst O; subst V; subst Z;refine ⟨s.mono (jM _) (aZ _),fun T r w σ Dl rr Q hT hr al aj av an=> ?_⟩;refine wpIn_region_any hm ?_;have E:∀ j,¬Yl (Array.replicate ops.length false) j:=fun j C=>by
        unfold Yl at C;rw [Array.getElem?_replicate] at C;split at C <;> cases C
       refine Ff s hok hT (r0:=r) (w0:=w.drew) (fun r' w' σ' st am=>an r' w' σ' Dl st.drew am<|lN st.le aj) _ _ 0 (F 0) σ r w.drew (by simp) ?_ (fun j o C=>absurd C<|E j) (fun t=> .inr ⟨fun j o C=>absurd C (E j),J⟩) (HD.start s hr.drew E) (.inl J) al;unfold un;exact cS (List.length_filter_le _ _)<|by simp
end
end Go.Hb
namespace Go.Hb
section
variable {P:ar} {G:Nat} {X:Xt} {w:ah}
theorem Kb {f:Nat} (I:∀ v w,(callFunc f #[v]).run P w= .ok (.value v) w) {xs:List AV} {h h':Hp} {v:AV} (he:wW xs h=some (v,h')):h.nx≤h'.nx∧∀ (T:Nat) (r:Rn) (w:ah) (us:List ag),h'.nx≤T→HR P G r T h w→aI r xs=some us→
 ∃ r' u w',den r' v=some u∧(callFunc f us.toArray).run P w= .ok (.value u) w'∧St P G T r h w r' h' w':=by
 unfold wW at he;split at he
 · cases he;refine ⟨aZ _,fun T r w us hT hr E=> ?_⟩;obtain ⟨u,J,rfl,h1,C⟩:=dC E;obtain rfl :=jq C;exact ⟨r,u,w,h1,I u w,St.refl hr⟩
 · cases he
theorem zQ {c:Nat} (E:c < 256):∀ (l:List UInt8) (i:Nat),pb c l i=if l.idxOf (ek c) < l.length then jK (i+l.idxOf (ek c)) else -1
 | [],i=>by simp [pb]
 | b::l,i=>by
   have I:(ek c).toNat=c:=by simp; omega
   simp only [pb,List.idxOf_cons];cases hb:aN b.toNat c
   · have J:(b==ek c)=false :=by
      cases C:(b==ek c)
      · rfl
      · have :=eq_of_beq C;subst this;rw [I] at hb; simp at hb
     rw [J];simp only [cond_false,dd,zQ E l (i+1)];by_cases h1:l.idxOf (ek c) < l.length
     · rw [if_pos h1,if_pos U];congr 1; omega
     · rw [if_neg h1,if_neg U]
   · have :=bH hb;have C:(b==ek c)=true :=by
      rw [← this]; simp
     rw [C];simp
theorem Kc {f:Nat} (V:∀ l c w,(callFunc f #[str l,.int .u8 (DB c)]).run P w= .ok (.value<|.int .i64<|j2 c l) w) {xs:List AV} {h h':Hp} {v:AV} (he:wY xs h=some (v,h')):h.nx≤h'.nx∧∀ (T:Nat) (r:Rn) (w:ah) (us:List ag),h'.nx≤T→HR P G r T h w→aI r xs=some us→
 ∃ r' u w',den r' v=some u∧(callFunc f us.toArray).run P w= .ok (.value u) w'∧St P G T r h w r' h' w':=by
 unfold wY at he;split at he
 · rename_i l c;replace he:=aX he; obtain ⟨C,he⟩:=he;have C:=cn.1 C;split at he
   · rename_i ad hm;cases he;refine ⟨aZ _,fun T r w us hT hr U=> ?_⟩;obtain ⟨u,ab,rfl,h1,I⟩:=dC U;obtain ⟨Z,ac,rfl,J,L⟩:=dC I;obtain rfl :=jq L;obtain rfl :=fU h1;obtain rfl :=cE J;have O:(ek c).toNat=c:=by simp; omega
     have E:=V l (ek c) w;rw [O] at E;refine ⟨r,_,w,?_,E,St.refl hr⟩;rw [zQ C l 0] at hm;simp only [cy] at hm;have :j2 (ek c) l=if l.idxOf (ek c) < l.length then jK (l.idxOf<|ek c) else -1:=rfl
     rw [← this] at hm;rw [eX] at hm;cases hm;simp only [den]
   · cases he
 · cases he
def x2 (a b:Nat):Xt:=fun f=>cond (aN f a) (some wW)<|cond (aN f b) (some wY) none
theorem Ka {a b:Nat} (h1:∀ v w,(callFunc a #[v]).run P w= .ok (.value v) w) (E:∀ l c w,(callFunc b #[str l,.int .u8 (DB c)]).run P w= .ok (.value<|.int .i64<|j2 c l) w):gF P G (x2 a b):=by
 intro f e he xs h v h' C;unfold x2 at he;cases ha:aN f a
 · rw [ha] at he;simp only [cond_false] at he;cases hb:aN f b
   · rw [hb] at he; cases he
   · rw [hb] at he;cases he;have :=bH hb;subst this;exact Kc E C
 · rw [ha] at he;cases he;have :=bH ha;subst this;exact Kb h1 C
theorem EC (h:P.funcs.toList.all (fun fn=> !(fn.name== "runtime.NumGoroutine") || fn.body.isNone)=true):fC P:=by
 intro f fn c C hb;have hm:fn∈P.funcs.toList:=by
  rw [eC] at C;obtain ⟨aP,rfl⟩:=C;simp
 have :=List.all_eq_true.1 h fn hm;rw [hb] at this;simp only [Option.isNone_some,Bool.or_false,jF] at this;exact tJ C this<|by rw [hb]; rfl
def sH (G T:Nat) (E:Nat→Nat):List Nat→Tr AO
 | []=> .nil
 | g::l=>(sH G T E l).set g<|.cells [.eL T (.ptr (G+g) 0)] (E g) 0 .x
theorem pJ {T:Nat} {E:Nat→Nat} :∀ {l:List Nat},(∀ g∈l,aD g bT=true)→∀ {i:Nat} {o:AO},(sH G T E l).get i=some o→i∈l∧o= .cells [.eL T (.ptr (G+i) 0)] (E i) 0 .x
 | [],_,i,o,h=>by simp only [sH] at h; cases h
 | g::l,hl,i,o,h=>by
   simp only [sH] at h;rw [Tr.jZ _ _ _ _ (hl g<|ky)] at h;split at h
   · rename_i e; subst e; cases h; exact ⟨ky,rfl⟩
   · obtain ⟨h1,C⟩:=pJ (fun g hg=>hl g<|kv _ hg) h;exact ⟨kv _ h1,C⟩
def cM (T:Nat) (l:List Nat) (w:ah):Prop := ∀ g,g∈l→∃ (a:Addr) (e:Nat),a.spot=none∧w.heap[g]? =some (.cells #[.iface T (.pointer<|some a)] e (0,0))
theorem cM.mono {T:Nat} {l:List Nat} {w w':ah} {F:Nat→Prop} (h:cM T l w) (hm:Md F w w') (E:∀ g∈l,¬F g):cM T l w':=fun g hg=>by
 obtain ⟨a,e,h1,C⟩:=h g hg;exact ⟨a,e,h1,hm.an C<|E g hg⟩
theorem HR.vF {T:Nat} {l:List Nat} (C:∀ g∈l,g < G) (ag:G≤1000) (h:cM T l w):∃ (E:Nat→Nat) (r:Rn),∀ O,HR P G r O ⟨sH G T E l,G+G⟩ w:=by
 classical
 let A:Nat→Addr:=fun g=>if hg:g∈l then (h g hg).choose else ⟨0,0,none⟩
 let E:Nat→Nat:=fun g=>if hg:g∈l then (h g hg).choose_spec.choose else 0
 have ab:∀ g,g∈l→(A g).spot=none∧w.heap[g]? =some (.cells #[.iface T (.pointer<|some<|A g)] (E g) (0,0)):=fun g hg=>by
  have :=(h g hg).choose_spec.choose_spec;simp only [A,E,dif_pos hg];exact this
 let r:Rn:=fun i=>if i < G then some ⟨i,0,0⟩ else if i < G+G then some ⟨(A<|i - G).block,(A<|i - G).off,0⟩ else none
 have I:∀ i,i < G→r i=some ⟨i,0,0⟩:=fun i hi=>if_pos hi;have ae:∀ g,g < G→r (G+g)=some ⟨(A g).block,(A g).off,0⟩:=fun g hg=>by
  show (if G+g < G then _ else _)=_;rw [if_neg U,if_pos U,show G+g - G=g from by omega]
 have L:∀ g∈l,aD g bT=true :=fun g hg=>cn.2 (by have :=C g hg; have :bT=1048574:=rfl; omega);refine ⟨E,r,fun O=>⟨fun i o hi=> ?_,fun i j o ah q q' hi ac h1 J he=> ?_,fun i h1 J=> ?_,fun g hg=>⟨0,I g hg⟩,Nat.le_add_right _ _⟩⟩
 · obtain ⟨hm,rfl⟩:=pJ L hi;have aP:=C i hm;obtain ⟨V,Z⟩:=ab i hm;refine ⟨⟨i,0,0⟩,I i aP,?_⟩;rw [Z];refine vj (us:= [.iface T (.pointer<|some<|A i)]) ?_ rfl;have e:(⟨(A i).block,(A i).off,none⟩:Addr)=A i:=by
    have :A i=⟨(A i).block,(A i).off,(A i).spot⟩:=rfl;rw [this,V]
   simp only [aI,den,ae i aP,jl,e]
 · obtain ⟨hm,rfl⟩:=pJ L hi;obtain ⟨ad,rfl⟩:=pJ L ac;rw [I i (C i hm)] at h1;rw [I j (C j ad)] at J;cases h1; cases J;exact he
 · show (if i < G then _ else _)=_;simp only at h1;rw [if_neg U,if_neg U]
theorem St.wk {T I:Nat} {E:Nat→Nat} {l:List Nat} {r r':Rn} {h':Hp} {w':ah} (C:∀ g∈l,g < G) (O:G≤1000) (st:St P G I r ⟨sH G T E l,G+G⟩ w r' h' w'):Wk w w':=by
 refine ⟨st.md.os,st.md.output,st.md.size,fun k L _=>st.md.eW k L fun ⟨i,o,q,h1,J,_⟩=> ?_⟩;obtain ⟨hm,_⟩:=pJ (fun g hg=>cn.2 (by have :=C g hg; have :bT=1048574:=rfl; omega)) J;have :=C i hm;omega
end
end Go.Hb
end
