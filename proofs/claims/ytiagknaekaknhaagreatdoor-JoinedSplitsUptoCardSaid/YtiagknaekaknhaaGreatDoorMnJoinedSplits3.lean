/-
  Walks and plain laws that the law rests on, laid together. No conditions but those that each theorem names.
-/
import Derived.Test.YtiagknaekaknhaaGreatDoorMnJoinedSplits2
set_option linter.unusedVariables false
open Array renaming all_eq_true_iff_forall_mem→Dr,foldl_toList→Du,getD_eq_getD_getElem?→iG,getElem?_eq_getElem→nD,getElem?_eq_some_iff→dm,getElem?_modify→Dx,getElem?_push→tK,getElem?_setIfInBounds→qR,getElem?_setIfInBounds_ne→xZ,getElem?_setIfInBounds_self_of_lt→x7,getElem?_toList→o9,length_toList→lk,range→ll,toList_inj→qS,toList_map→iH,toList_modify→DA,toList_push→DB
open BitVec renaming ofInt→ic
open Bool renaming and_eq_true→a0,false_eq_true→nF,noConfusion→dn,not_eq_true'→ki,or_eq_true→nG,or_eq_true_iff→DF
open Go.Builtin renaming append_→jO,clear_→tN,delete_→ya,firstCells→tO,zeroCells→DI
open Go.Calls renaming mono→kj
open Go renaming Code→bL,Edge→bT,Exit→bp,IntKind→bu,Oper→aB,Operand→aW,Program→au,TypeId→av,Value→ag,World→ah
open Go.Code renaming region→DM
open Go.Deferred renaming ofValue→mb
open Go.Exit renaming inBlock→ph
open Go.Fence renaming wide→eN
open Go.FrameMode renaming noConfusion→DR
open Go.Instr renaming alloc→tP,buildSlice→qU,fill→iI,keyThatStays→qV,mapUpdate→ye
open Go.Lib renaming run_unsafeString_none→DZ
open Go.Op renaming equal→mc,equalIn→ie
open Go.Oper renaming semAt_eq→qZ,uponIn→q6
open Go.Region renaming binds→dE,ready→dw,wanted→jP
open Go.Result renaming andThen_ok→gQ
open Go.Sem renaming run→ln,run_bind→ij,run_pure→ko
open Go.World renaming freeze→lr,putObj→D9,putObj_heap_other→lu,putObj_heap_same→tT
open Int renaming natCast_nonneg→fI,natCast_pos→Eb,ofNat→kp,toNat_natCast→po
open List.Sublist renaming map→Ml
open List renaming append_assoc→kq,eq_nil_of_length_eq_zero→lz,ext_getElem?→pq,filter_cons→Ei,flatten_cons→Ek,getD_eq_getElem?_getD→b9,getElem?_append_left→fJ,getElem?_append_right→gk,getElem?_cons_succ→iJ,getElem?_cons_zero→iK,getElem?_drop→ik,getElem?_eq_getElem→bG,getElem?_eq_none→gF,getElem?_eq_some_iff→cK,getElem?_map→fq,getElem?_take→iL,getElem?_toArray→lA,length→jh,length_append→cz,length_cons→dP,length_drop→ji,length_eq_one_iff→rf,length_nil→lB,length_take→dB,mapM_cons→Et,map_append→iM,map_cons→gn,map_map→tX,mem_append→eA,mem_cons→ei,mem_cons_of_mem→gR,mem_cons_self→gS,mem_filter→pC,mem_map→mh,mem_of_getElem?→mi,mem_of_mem_drop→tZ,mem_of_mem_take→ua,mem_range→mj,nodup_cons→ud,range→ml,range'→kr,replicate→cZ,replicate_succ→Ex,size_toArray→eB
open List.cons renaming injEq→lx
open Nat renaming add_assoc→iN,add_comm→uf,add_mul→mo,add_zero→lC,beq→aN,ble→bf,ble_eq→rj,ble_eq_true_of_le→yy,blt→aD,eq_of_beq_eq_true→bO,le_of_ble_eq_true→bP,le_refl→aQ,le_succ→lD,le_trans→cS,lt_of_lt_of_le→mq,lt_or_ge→dF,lt_succ_iff_lt_or_eq→EE,lt_succ_self→mr,lt_trichotomy→rk,mul_le_mul_right→nU,not_lt_zero→uh,pos_of_ne_zero→EH,pow_succ→ui,succ_le_iff→rn,succ_pos→EI,testBit→rp,zero_add→cM,zero_le→fK,zero_mul→uj
open Option renaming getD_none→pG,getD_some→iO,map_eq_some_iff→gG,map_some→fu
open Option.some renaming inj→dq,injEq→bM
open Prod renaming fst→fL,snd→nV
open Prod.mk renaming injEq→gT
open UInt8 renaming lt_iff_toNat_lt→EK,ofNat→eR,toNat→EL,toNat_inj→EM
open Go.Proofs.Tryz
open Go.RowKit

section
namespace Go.Hb
inductive Tr (α:Type) | nil | nd (l:Tr α) (v:Option α) (r:Tr α)
def Tr.get {α:Type} :Tr α→Nat→Option α
 | .nil,_=>none
 | .nd _ v _,0=>v
 | .nd l _ r,n+1=>cond (aN (n % 2) 0) (l.get<|n / 2)<|r.get<|n / 2
def Tr.put {α:Type} (v:Option α):Nat→Tr α→Nat→Tr α
 | 0,t,_=>t
 | _+1,.nil,0=> .nd .nil v .nil
 | _+1,.nd l _ r,0=> .nd l v r
 | k+1,.nil,n+1=>cond (aN (n % 2) 0) (.nd (Tr.put v k .nil<|n / 2) none .nil)<|.nd .nil none<|Tr.put v k .nil<|n / 2
 | k+1,.nd l u r,n+1=>cond (aN (n % 2) 0) (.nd (Tr.put v k l<|n / 2) u r)<|.nd l u<|Tr.put v k r<|n / 2
theorem Tr.get_nil {α:Type} (n:Nat):(Tr.nil:Tr α).get n=none:=by unfold Tr.get; rfl
theorem CZ {n:Nat} {b:Bool} (h:aN (n % 2) 0=b):n % 2=cond b 0 1:=by
 cases b
 · have :n % 2≠0:=fun e=>by rw [e] at h; cases h
   simp only [cond_false]; omega
 · exact bO h
theorem tz {n m:Nat} {b:Bool} (hn:aN (n % 2) 0=b) (hm:aN (m % 2) 0=b) (e:m / 2=n / 2):m+1=n+1:=by
 have :=CZ hn;have :=CZ hm;omega
theorem Tr.oM {α:Type} (v:Option α):∀ (k:Nat) (t:Tr α) (n m:Nat),m≠n→(Tr.put v k t n).get m=t.get m
 | 0,t,n,m,_=>by simp [Tr.put]
 | k+1,.nil,0,m,h=>by
   obtain ⟨m,rfl⟩:∃ j,m=j+1:=⟨m - 1,ab⟩
   simp [Tr.put,Tr.get]
 | k+1,.nd l u r,0,m,h=>by
   obtain ⟨m,rfl⟩:∃ j,m=j+1:=⟨m - 1,ab⟩
   simp [Tr.put,Tr.get]
 | k+1,.nil,n+1,0,h=>by
   simp only [Tr.put];cases aN (n % 2) 0 <;> rfl
 | k+1,.nd l u r,n+1,0,h=>by
   simp only [Tr.put];cases aN (n % 2) 0 <;> rfl
 | k+1,.nil,n+1,m+1,h=>by
   simp only [Tr.put];cases hn:aN (n % 2) 0 <;> cases hm:aN (m % 2) 0 <;> simp only [cond_true,cond_false,Tr.get,hm]
   · rw [Tr.oM v k .nil _ _ (fun e=>h<|tz hn hm e)]; rfl
   · rw [Tr.oM v k .nil _ _ (fun e=>h<|tz hn hm e)]; rfl
 | k+1,.nd l u r,n+1,m+1,h=>by
   simp only [Tr.put];cases hn:aN (n % 2) 0 <;> cases hm:aN (m % 2) 0 <;> simp only [cond_true,cond_false,Tr.get,hm]
   · rw [Tr.oM v k r _ _ (fun e=>h<|tz hn hm e)]
   · rw [Tr.oM v k l _ _ (fun e=>h<|tz hn hm e)]
theorem Tr.put_eq {α:Type} (v:Option α):∀ (k:Nat) (t:Tr α) (n:Nat),n+1 < 2 ^ k→(Tr.put v k t n).get n=v
 | 0,t,n,h=>ab
 | k+1,.nil,0,_=>by simp [Tr.put,Tr.get]
 | k+1,.nd l u r,0,_=>by simp [Tr.put,Tr.get]
 | k+1,.nil,n+1,h=>by
   have A:n / 2 +1 < 2 ^ k:=by rw [ui] at h; omega
   simp only [Tr.put];cases hn:aN (n % 2) 0 <;> simp only [cond_true,cond_false,Tr.get,hn] <;> exact Tr.put_eq v k _ _ A
 | k+1,.nd l u r,n+1,h=>by
   have A:n / 2 +1 < 2 ^ k:=by rw [ui] at h; omega
   simp only [Tr.put];cases hn:aN (n % 2) 0 <;> simp only [cond_true,cond_false,Tr.get,hn] <;> exact Tr.put_eq v k _ _ A
def cm:Nat:=1048574
def Tr.set {α:Type} (t:Tr α) (n:Nat) (v:α):Tr α:=Tr.put (some v) 20 t n
def Tr.del {α:Type} (t:Tr α) (n:Nat):Tr α:=Tr.put none 20 t n
theorem Tr.kE {α:Type} (t:Tr α) (n m:Nat) (v:α) (h:aD n cm=true):(t.set n v).get m=if m=n then some v else t.get m:=by
 have h':n < 1048574:=by simpa [cm,aD,rj,rn] using h
 unfold Tr.set;split
 · rename_i e; subst e; exact Tr.put_eq _ _ _ _ ab
 · rename_i e; exact Tr.oM _ _ _ _ _ e
theorem Tr.ow {α:Type} (t:Tr α) (n m:Nat) (h:aD n cm=true):(t.del n).get m=if m=n then none else t.get m:=by
 have h':n < 1048574:=by simpa [cm,aD,rj,rn] using h
 unfold Tr.del;split
 · rename_i e; subst e; exact Tr.put_eq _ _ _ _ ab
 · rename_i e; exact Tr.oM _ _ _ _ _ e
inductive AV
 | bool (b:Bool) | int (k:bu) (n:Int) | str (l:List UInt8)
 | ptr (b o:Nat) | gJ
 | sl (b o n c:Nat) (x:Bool)
 | an
 | map (b:Nat) | j4
 | fn (f:Nat) (a c:List AV) | gD (l:Nat) | iz
 | fk (t:Nat) (v:AV) | cN
 | agg (l:List AV) | bV (l:List AV)
structure Loc where
 ak:Nat
 sh:Nat
 room:Nat
abbrev Rn:=Nat→Option Loc
def Rn.le (r s:Rn):Prop := ∀ i x,r i=some x→s i=some x
theorem Rn.le_refl (r:Rn):r.le r:=fun _ _ h=>h
theorem Rn.le_trans {r s t:Rn} (h:r.le s) (h':s.le t):r.le t:=fun i x A=>h' i x<|h i x A
mutual
def den (r:Rn):AV→Option ag
 | .bool b=>some<|.bool b
 | .int k n=>some<|.int k n
 | .str l=>some<|Hb.str l
 | .ptr b o=>match r b with
   | some q=>some<|.pointer<|some ⟨q.ak,q.sh+o,none⟩
   | none=>none
 | .gJ=>some<|.pointer none
 | .sl b o n c x=>match r b with
   | some q=>cond x (cond (bf n c) (some<|.slice (some ⟨q.ak,q.sh+o,none⟩) n c) none)<|cond (bf (c+n) q.room) (some<|.slice (some ⟨q.ak,q.sh+o,none⟩) n<|q.room - c) none
   | none=>none
 | .an=>some<|.slice none 0 0
 | .map b=>match r b with
   | some q=>some<|.map<|some q.ak
   | none=>none
 | .j4=>some<|.map none
 | .fn f a c=>match aI r a,aI r c with
   | some a,some c=>some<|.func (.func f) a.toArray c.toArray
   | _,_=>none
 | .gD l=>match r l with
   | some q=>some<|.func (.yield q.ak) #[] #[]
   | none=>none
 | .iz=>some .nilFunc
 | .fk t v=>match den r v with
   | some v=>some<|.iface t v
   | none=>none
 | .cN=>some .nilIface
 | .agg l=>match aI r l with
   | some l=>some<|.agg l.toArray
   | none=>none
 | .bV l=>match aI r l with
   | some l=>some<|.tuple l.toArray
   | none=>none
def aI (r:Rn):List AV→Option (List ag)
 | []=>some []
 | v::l=>match den r v,aI r l with
   | some v,some l=>some (v::l)
   | _,_=>none
end
mutual
theorem kB {r s:Rn} (h:r.le s):∀ {v:AV} {u:ag},den r v=some u→den s v=some u
 | .bool _,_,hu | .int _ _,_,hu | .str _,_,hu | .gJ,_,hu | .an,_,hu | .j4,_,hu | .iz,_,hu | .cN,_,hu=>by
   simp only [den] at hu ⊢; exact hu
 | .ptr b o,u,hu | .sl b o n c x,u,hu | .map b,u,hu | .gD b,u,hu=>by
   simp only [den] at hu ⊢;cases hb:r b with
   | none=>rw [hb] at hu; cases hu
   | some q=>rw [hb] at hu; rw [h b q hb]; exact hu
 | .fn f a c,u,hu=>by
   simp only [den] at hu ⊢;cases ha:aI r a with
   | none=>rw [ha] at hu; cases hu
   | some A=>
     cases hc:aI r c with
     | none=>rw [ha,hc] at hu; cases hu
     | some c'=>rw [ha,hc] at hu; rw [gY h ha,gY h hc]; exact hu
 | .fk t v,u,hu=>by
   simp only [den] at hu ⊢;cases hv:den r v with
   | none=>rw [hv] at hu; cases hu
   | some E=>rw [hv] at hu; rw [kB h hv]; exact hu
 | .agg l,u,hu | .bV l,u,hu=>by
   simp only [den] at hu ⊢;cases hl:aI r l with
   | none=>rw [hl] at hu; cases hu
   | some C=>rw [hl] at hu; rw [gY h hl]; exact hu
theorem gY {r s:Rn} (h:r.le s):∀ {v:List AV} {u:List ag},aI r v=some u→aI s v=some u
 | [],_,hu=>by simp only [aI] at hu ⊢; exact hu
 | v::l,u,hu=>by
   simp only [aI] at hu ⊢;cases hv:den r v with
   | none=>rw [hv] at hu; cases hu
   | some C=>
     cases hl:aI r l with
     | none=>rw [hv,hl] at hu; cases hu
     | some A=>rw [hv,hl] at hu; rw [kB h hv,gY h hl]; exact hu
end
theorem dQ {r:Rn} {v:AV} {l:List AV} {us:List ag} (h:aI r (v::l)=some us):∃ u A,us=u::A∧den r v=some u∧aI r l=some A:=by
 simp only [aI] at h;split at h
 · rename_i u A h1 C; exact ⟨u,A,(dq h).symm,h1,C⟩
 · cases h
theorem jV {r:Rn} {us:List ag} (h:aI r []=some us):us= []:=by simpa [aI] using h.symm
theorem dM {r:Rn} {v:AV} {l:List AV} {u:ag} {us:List ag} (h1:den r v=some u) (A:aI r l=some us):aI r (v::l)=some (u::us):=by simp only [aI,h1,A]
theorem db {r:Rn} :∀ {l:List AV} {us:List ag},aI r l=some us→us.length=l.length
 | [],_,h=>by rw [jV h]; rfl
 | v::l,us,h=>by obtain ⟨u,C,rfl,_,A⟩:=dQ h; simp [db A]
theorem n7 {r:Rn} :∀ {l:List AV} {us:List ag} {i:Nat} {v:AV},aI r l=some us→l[i]? =some v→∃ u,us[i]? =some u∧den r v=some u
 | [],_,i,v,h,hv=>by simp at hv
 | a::l,us,0,v,h,hv=>by
   obtain ⟨u,J,rfl,h1,_⟩:=dQ h;simp only [iK,bM] at hv;subst hv; exact ⟨u,rfl,h1⟩
 | a::l,us,i+1,v,h,hv=>by
   obtain ⟨u,J,rfl,_,A⟩:=dQ h;simp only [iJ] at hv;obtain ⟨I,C,E⟩:=n7 A hv;exact ⟨I,by simpa using C,E⟩
theorem fi {r:Rn} :∀ {l m:List AV} {us vs:List ag},aI r l=some us→aI r m=some vs→aI r (l++m)=some (us++vs)
 | [],m,us,vs,h,h'=>by rw [jV h]; exact h'
 | a::l,m,us,vs,h,h'=>by
   obtain ⟨u,C,rfl,h1,A⟩:=dQ h;exact dM h1<|fi A h'
theorem iS {r:Rn} :∀ {l:List AV} {us:List ag} (n:Nat),aI r l=some us→aI r (l.take n)=some (us.take n)
 | _,_,0,_=>by simp [aI]
 | [],us,n+1,h=>by rw [jV h]; simp [aI]
 | a::l,us,n+1,h=>by
   obtain ⟨u,C,rfl,h1,A⟩:=dQ h;exact dM h1<|iS n A
theorem jt {r:Rn} :∀ {l:List AV} {us:List ag} (n:Nat),aI r l=some us→aI r (l.drop n)=some (us.drop n)
 | _,_,0,h=>h
 | [],us,n+1,h=>by rw [jV h]; simp [aI]
 | a::l,us,n+1,h=>by
   obtain ⟨u,C,rfl,h1,A⟩:=dQ h;exact jt n A
inductive Ck | a | z | x
inductive AO
 | cells (l:List AV) (e:Nat) (fz:Nat) (ex:Ck)
 | map (l:List (AV×AV))
 | loop (st:LoopState) (pe:Option bL) (n:Nat) (fr:Tr AV) (ps:List Nat) (aT body:bL) (D:Nat)
 | kC (b:Bool)
 | xD (l:List UInt8) (p:Nat)
structure Hp where
 t:Tr AO
 nx:Nat
def dd (fr:Tr AV) (i:Nat):AV:=match fr.get i with
 | some v=>v
 | none=> .bV []
def dV (r:Rn) (n:Nat) (fr:Tr AV) (s:Nat→ag):Prop := ∀ i,i < n→den r (dd fr i)=some (s i)
def fZ (r:Rn):List (AV×AV)→List MapEntry→Prop
 | [],[]=>True
 | p::l,m::es=>den r p.1=some m.key∧den r p.2=some m.val∧fZ r l es
 | _,_=>False
def OR (P:au) (r:Rn) (q:Loc):AO→Option Obj→Prop
 | .cells l e fz ex,o=> ∃ c fr us,o=some (.cells c e fr)∧aI r l=some us∧q.sh+l.length≤c.size∧(∀ j u,us[j]? =some u→c[q.sh+j]? =some u)∧fr.2≤q.sh+fz∧
  (∀ u∈us,u.oneCell'=true)∧((ex= .x→q.sh=0∧c.size=l.length∧fr=(0,fz))∧(ex≠.a→q.sh=0))∧∀ s,cC P e=some s→q.sh+q.room*s≤c.size
 | .map l,o=> ∃ es c,o=some (.map es c)∧fZ r l es.toList∧(es.toList.map fun e=>e.key).Nodup
 | .loop st E n fr ps aT body D,o=> ∃ fn A C,o=some (.loop {state:=st,pending:=E,fn:=fn,tmps:=A,params:=ps.toArray,assign:=aT,body:=body,defers:=C})∧(∃ x,r D=some x∧x.ak=C)∧A.size=n∧∀ i,i < n→den r (dd fr i)=A[i]?
 | .kC b,o=>o=some (.deferred<|cond b (some []) none)
 | .xD l p,o=>o=some (.stringIter ⟨⟨l⟩⟩ p)
end Go.Hb
namespace Go.Hb
def j5 (f:ag→Option AV):List ag→Option (List AV)
 | []=>some []
 | v::l=>match f v with
   | some a=>match j5 f l with
     | some b=>some (a::b)
     | none=>none
   | none=>none
def iY:Nat→ag→Option AV
 | 0,_=>none
 | d+1,v=>match v with
   | .bool b=>some<|.bool b
   | .int k n=>some<|.int k n
   | .string ⟨⟨l⟩⟩=>some<|.str l
   | .pointer none=>some .gJ
   | .slice none 0 0=>some .an
   | .map none=>some .j4
   | .nilFunc=>some .iz
   | .nilIface=>some .cN
   | .agg ⟨l⟩=>match j5 (iY d) l with
     | some l=>some<|.agg l
     | none=>none
   | .tuple ⟨l⟩=>match j5 (iY d) l with
     | some l=>some<|.bV l
     | none=>none
   | _=>none
theorem oE {f:ag→Option AV} {r:Rn} (A:∀ v a,f v=some a→den r a=some v):∀ {l:List ag} {m:List AV},j5 f l=some m→aI r m=some l
 | [],m,h=>by simp only [j5,bM] at h; subst h; simp [aI]
 | v::l,m,h=>by
   simp only [j5] at h;split at h
   · rename_i a ha;split at h
     · rename_i b hb;cases h;exact dM (A v a ha)<|oE A hb
     · cases h
   · cases h
theorem l4 {r:Rn} :∀ (d:Nat) {v:ag} {a:AV},iY d v=some a→den r a=some v
 | 0,v,a,h=>by simp [iY] at h
 | d+1,v,a,h=>by
   simp only [iY] at h;split at h <;> first
    | (cases h; simp [den,str]; done)
    | (split at h
       · rename_i C A;cases h;simp only [den,oE (fun v a=>l4 d) A]
       · cases h)
    | cases h
def j7 (G n:Nat) (fr:Tr AV):aW→Option AV
 | .tmp t=>cond (aD t n) (some<|dd fr t) none
 | .const v=>iY 4 v
 | .func f=>some<|.fn f [] []
 | .global g=>cond (aD g G) (some<|.ptr g 0) none
def j8 (G n:Nat) (fr:Tr AV):List aW→Option (List AV)
 | []=>some []
 | x::l=>match j7 G n fr x with
   | some a=>match j8 G n fr l with
     | some b=>some (a::b)
     | none=>none
   | none=>none
def nX (G:Nat) (r:Rn):Prop := ∀ g,g < G→∃ m,r g=some ⟨g,0,m⟩
section
variable {G:Nat} {fr:Tr AV} {r:Rn} {N:Fm} {σ:Nat→ag}
theorem qv (C:nX G r) (A:dV r N.n fr σ) {x:aW} {a:AV} (h:j7 G N.n fr x=some a):den r a=some (ev N σ x):=by
 cases x with
 | tmp t=>
   simp only [j7] at h;cases hb:aD t N.n
   · rw [hb] at h; cases h
   · rw [hb] at h;simp only [cond_true,bM] at h;subst h;simp only [ev,hb,cond_true];exact A t<|by simpa [aD,rj,rn] using hb
 | const v=>exact l4 4 h
 | func f=>simp only [j7,bM] at h; subst h; simp [den,aI,ev]
 | global g=>
   simp only [j7] at h;cases hb:aD g G
   · rw [hb] at h; cases h
   · rw [hb] at h;simp only [cond_true,bM] at h;subst h;obtain ⟨m,hm⟩:=C g<|by simpa [aD,rj,rn] using hb
     simp only [den,hm,ev,lC]
theorem sG (C:nX G r) (A:dV r N.n fr σ):∀ {l:List aW} {m:List AV},j8 G N.n fr l=some m→aI r m=some (l.map<|ev N σ)
 | [],m,h=>by simp only [j8,bM] at h; subst h; simp [aI]
 | x::l,m,h=>by
   simp only [j8] at h;split at h
   · rename_i a ha;split at h
     · rename_i b hb;cases h;exact dM (qv C A ha)<|sG C A hb
     · cases h
   · cases h
end
def gh:Op→List aW
 | .move x | .assign x | .box _ x | .load _ x | .nilCheck x | .unOp _ _ x | .convert _ _ x | .makeInterface _ x | .fieldAddr _ x _ | .field _ x _ | .range _ x | .next x _ | .typeAssert x _ _ _ | .extract x _=> [x]
 | .pick c a b=> [c,a,b]
 | .build _ ⟨ps⟩=>ps.map (·.2)
 | .buildSlice _ _ ⟨ps⟩=>ps.map (·.2)
 | .store _ a v | .binOp _ _ a v _ | .makeSlice _ a v | .indexAddr _ a v | .index _ a v | .lookup _ a v _=> [a,v]
 | .makeFunc _ ⟨a⟩ ⟨c⟩=>a++c
 | .slice _ x l h m=>x::(l.toList++(h.toList++m.toList))
 | .mapUpdate _ m k v | .insert _ m k v=> [m,k,v]
 | .call ⟨.value f,⟨l⟩,_⟩ | .defer ⟨.value f,⟨l⟩,_⟩=>f::l
 | .call ⟨.builtin _,⟨l⟩,_⟩=>l
 | _=> []
theorem eF {r:Rn} {a:AV} {u:ag} (h:aI r [a]=some [u]):den r a=some u:=by
 obtain ⟨A,us,he,h1,_⟩:=dQ h;cases he; exact h1
theorem gX {r:Rn} {a b:AV} {u v:ag} (h:aI r [a,b]=some [u,v]):den r a=some u∧den r b=some v:=by
 obtain ⟨C,us,he,h1,A⟩:=dQ h;cases he; exact ⟨h1,eF A⟩
theorem lM {r:Rn} {a b c:AV} {u v t:ag} (h:aI r [a,b,c]=some [u,v,t]):den r a=some u∧den r b=some v∧den r c=some t:=by
 obtain ⟨C,us,he,h1,A⟩:=dQ h;cases he; exact ⟨h1,gX A⟩
section
variable {r:Rn} {u:ag}
theorem cP {k:bu} {n:Int} (h:den r (.int k n)=some u):u= .int k n:=by simpa [den] using h.symm
theorem iT {b:Bool} (h:den r (.bool b)=some u):u= .bool b:=by simpa [den] using h.symm
theorem gH {l:List UInt8} (h:den r (.str l)=some u):u=str l:=by simpa [den] using h.symm
theorem oa (h:den r .gJ=some u):u= .pointer none:=by simpa [den] using h.symm
theorem hH (h:den r .an=some u):u= .slice none 0 0:=by simpa [den] using h.symm
theorem zL (h:den r .j4=some u):u= .map none:=by simpa [den] using h.symm
theorem pS (h:den r .iz=some u):u= .nilFunc:=by simpa [den] using h.symm
theorem n9 (h:den r .cN=some u):u= .nilIface:=by simpa [den] using h.symm
theorem iu {b o:Nat} (h:den r (.ptr b o)=some u):∃ q,r b=some q∧u= .pointer (some ⟨q.ak,q.sh+o,none⟩):=by
 simp only [den] at h;split at h
 · rename_i q A; exact ⟨q,A,(dq h).symm⟩
 · cases h
theorem mH {b:Nat} (h:den r (.map b)=some u):∃ q,r b=some q∧u= .map (some q.ak):=by
 simp only [den] at h;split at h
 · rename_i q A; exact ⟨q,A,(dq h).symm⟩
 · cases h
theorem uT {b:Nat} (h:den r (.gD b)=some u):∃ q,r b=some q∧u= .func (.yield q.ak) #[] #[]:=by
 simp only [den] at h;split at h
 · rename_i q A; exact ⟨q,A,(dq h).symm⟩
 · cases h
theorem zM {b o n c:Nat} (h:den r (.sl b o n c true)=some u):∃ q,r b=some q∧n≤c∧u= .slice (some ⟨q.ak,q.sh+o,none⟩) n c:=by
 simp only [den] at h;split at h
 · rename_i q A;cases hb:bf n c
   · rw [hb] at h; cases h
   · rw [hb] at h;exact ⟨q,A,bP hb,(dq h).symm⟩
 · cases h
theorem rV {b o n c:Nat} (h:den r (.sl b o n c false)=some u):∃ q,r b=some q∧c+n≤q.room∧u= .slice (some ⟨q.ak,q.sh+o,none⟩) n (q.room - c):=by
 simp only [den] at h;split at h
 · rename_i q A;cases hb:bf (c+n) q.room
   · rw [hb] at h; cases h
   · rw [hb] at h;exact ⟨q,A,bP hb,(dq h).symm⟩
 · cases h
theorem iw {b o n c:Nat} {x:Bool} (h:den r (.sl b o n c x)=some u):∃ q cap,r b=some q∧n≤cap∧u= .slice (some ⟨q.ak,q.sh+o,none⟩) n cap∧(x=true→cap=c)∧(x=false→cap=q.room - c∧c+n≤q.room):=by
 cases x
 · obtain ⟨q,C,A,he⟩:=rV h;exact ⟨q,q.room - c,C,ab,he,(fun e=>by cases e),fun _=>⟨U,A⟩⟩
 · obtain ⟨q,C,A,he⟩:=zM h;exact ⟨q,c,C,A,he,fun _=>rfl,fun e=>by cases e⟩
theorem lO {f:Nat} {a c:List AV} (h:den r (.fn f a c)=some u):∃ A c',aI r a=some A∧aI r c=some c'∧u= .func (.func f) A.toArray c'.toArray:=by
 simp only [den] at h;split at h
 · rename_i A c' ha C; exact ⟨A,c',ha,C,(dq h).symm⟩
 · cases h
theorem rU {t:Nat} {v:AV} (h:den r (.fk t v)=some u):∃ A,den r v=some A∧u= .iface t A:=by
 simp only [den] at h;split at h
 · rename_i A C; exact ⟨A,C,(dq h).symm⟩
 · cases h
theorem pR {l:List AV} (h:den r (.agg l)=some u):∃ us,aI r l=some us∧u= .agg us.toArray:=by
 simp only [den] at h;split at h
 · rename_i C A; exact ⟨C,A,(dq h).symm⟩
 · cases h
theorem zN {l:List AV} (h:den r (.bV l)=some u):∃ us,aI r l=some us∧u= .tuple us.toArray:=by
 simp only [den] at h;split at h
 · rename_i C A; exact ⟨C,A,(dq h).symm⟩
 · cases h
end
def vF (k:bu):Int→Bool
 | .ofNat m=>match k with
   | .i64=>aD m 9223372036854775808
   | .u8=>aD m 256
   | .u64=>aD m 18446744073709551616
   | .i32=>aD m 2147483648
   | .u32=>aD m 4294967296
   | .u16=>aD m 65536
   | _=>false
 | .negSucc m=>match k with
   | .i64=>aD m 9223372036854775808
   | .i32=>aD m 2147483648
   | _=>false
def nC (k:bu) (n:Int):Int:=cond (vF k n) n<|k.wrap n
theorem cB {a b:Nat} :aD a b=true↔a < b:=by simp [aD,rj,rn]
theorem u16_in (n:Int) (h:0≤n∧n≤65535):IntKind.u16.wrap n=n:=by
 unfold IntKind.wrap;simp only [IntKind.bits,IntKind.signed];simp;omega
theorem HB {k:bu} {n:Int} (h:vF k n=true):k.wrap n=n:=by
 cases n with
 | ofNat m=>
   show k.wrap (m:Int)=(m:Int)
   cases k with
   | i64=>have :=cB.1 (show aD m 9223372036854775808=true from h); exact gP ⟨ab,ab⟩
   | u8=>have :=cB.1 (show aD m 256=true from h); exact xU ⟨ab,ab⟩
   | u64=>have :=cB.1 (show aD m 18446744073709551616=true from h); exact gC ⟨ab,ab⟩
   | i32=>have :=cB.1 (show aD m 2147483648=true from h); exact xR ⟨ab,ab⟩
   | u32=>have :=cB.1 (show aD m 4294967296=true from h); exact Dk ⟨ab,ab⟩
   | u16=>have :=cB.1 (show aD m 65536=true from h); exact u16_in _ ⟨ab,ab⟩
   | i8=>exact dn (show false =true from h)
   | i16=>exact dn (show false =true from h)
 | negSucc m=>
   rw [Int.negSucc_eq];cases k with
   | i64=>have :=cB.1 (show aD m 9223372036854775808=true from h); exact gP ⟨ab,ab⟩
   | i32=>have :=cB.1 (show aD m 2147483648=true from h); exact xR ⟨ab,ab⟩
   | _=>exact dn (show false =true from h)
theorem qO (k:bu) (n:Int):nC k n=k.wrap n:=by
 unfold nC;cases h:vF k n
 · rfl
 · exact (HB h).symm
def e7 (k:bu):Int→Option AV
 | .ofNat 0=>some<|.int k 0
 | .ofNat (m+1)=>some<|.int k<|.ofNat<|m+1
 | .negSucc 0=>some<|.int k<|-1
 | .negSucc (m+1)=>some<|.int k<|.negSucc<|m+1
theorem fB (k:bu) (n:Int):e7 k n=some (.int k n):=by
 unfold e7;split <;> rfl
def hJ:List UInt8→List UInt8→Bool
 | [],[]=>true
 | a::l,b::m=>cond (aN a.toNat b.toNat) (hJ l m) false
 | _,_=>false
theorem oh:∀ l m:List UInt8,hJ l m=decide (l=m)
 | [],[]=>by simp [hJ]
 | [],_::_=>by simp [hJ]
 | _::_,[]=>by simp [hJ]
 | a::l,b::m=>by
   have ih:=oh l m;simp only [hJ];cases h:aN a.toNat b.toNat
   · have :a≠b:=fun e=>by subst e; simp at h
     simp [this]
   · have :a=b:=EM.1<|bO h;simp [this,ih]
def mV:List UInt8→List UInt8→Bool
 | _,[]=>false
 | [],_::_=>true
 | a::l,b::m=>cond (aD a.toNat b.toNat) true<|cond (aN a.toNat b.toNat) (mV l m) false
theorem Bc:∀ l m:List UInt8,mV l m=m8 l m
 | [],[]=>rfl
 | _::_,[]=>rfl
 | [],_::_=>rfl
 | a::l,b::m=>by
   have ih:=Bc l m;rw [Kb];simp only [mV];rcases rk a.toNat b.toNat with h | h | h
   · have A:a < b:=EK.2 h;simp [cB.2 h,A]
   · have e:a=b:=EM.1 h;subst e;have A:¬a < a:=UInt8.lt_irrefl a;have C:aD a.toNat a.toNat=false :=by cases hb:aD a.toNat a.toNat; rfl; exact absurd (cB.1 hb)<|Nat.lt_irrefl _
     simp [C,A,ih]
   · have A:¬a < b:=fun h'=>by have :=EK.1 h'; omega
     have C:aD a.toNat b.toNat=false :=by cases hb:aD a.toNat b.toNat; rfl; exact absurd (cB.1 hb) ab
     have E:aN a.toNat b.toNat=false :=by cases hb:aN a.toNat b.toNat; rfl; exact absurd (bO hb) ab
     have I:a≠b:=fun e=>by subst e; omega
     simp [C,E,A,I]
end Go.Hb
namespace Go.Hb
def si (op:BinOp) (k:bu) (a b:Int):Option AV:=match op with
 | .add=>e7 k<|nC k<|Int.add a b
 | .sub=>e7 k<|nC k<|Int.sub a b
 | .mul=>e7 k<|nC k<|Int.mul a b
 | .lss=>some<|.bool<|decide (a < b)
 | .leq=>some<|.bool<|decide (a≤b)
 | .gtr=>some<|.bool<|decide (b < a)
 | .geq=>some<|.bool<|decide (b≤a)
 | .eql=>some<|.bool<|decide (a=b)
 | .neq=>some<|.bool<|decide (a≠b)
 | .quo=>match a,b with
   | .ofNat a,.ofNat (b+1)=>e7 k<|nC k<|.ofNat<|a / (b+1)
   | _,_=>none
 | .rem=>match a,b with
   | .ofNat a,.ofNat (b+1)=>e7 k<|.ofNat<|a % (b+1)
   | _,_=>none
 | .or =>e7 k<|k.wrap (ic k.bits a ||| ic k.bits b).toNat
 | .and =>e7 k<|k.wrap (ic k.bits a &&& ic k.bits b).toNat
 | _=>none
def xl (op:BinOp) (k:bu) (a:Int) (b:Nat):Option AV:=match op with
 | .shr=>e7 k<|a.fdiv<|2 ^ min b k.bits
 | .shl=>e7 k<|k.wrap<|a*2 ^ min b k.bits
 | _=>none
def xC (op:BinOp) (l m:List UInt8):Option AV:=match op with
 | .eql=>some<|.bool<|hJ l m
 | .neq=>some<|.bool<|!hJ l m
 | .lss=>some<|.bool<|mV l m
 | .gtr=>some<|.bool<|!(mV l m || hJ l m)
 | .leq=>some<|.bool (mV l m || hJ l m)
 | .geq=>some<|.bool<|!mV l m
 | .add=>cond (bf (l.length+m.length) 9223372036854775807) (some<|.str<|l++m) none
 | _=>none
def qg (P:au) (t:av):Bool:=match P.underlying t with
 | some (.pointer e)=>(P.info? e).isSome
 | _=>false
def jB (P:au) (t:av):Bool:=match P.underlying t with
 | some (.slice _)=>true
 | _=>false
def sj (P:au) (t:av):Bool:=match P.underlying t with
 | some (.func _ _ _)=>true
 | _=>false
def vH (P:au) (t:av):Bool:=match P.underlying t with
 | some .bool=>true
 | _=>false
def sm (P:au) (t:av):Bool:=match P.underlying t with
 | some (.interface _)=>true
 | _=>false
def isStr (P:au) (t:av):Bool:=match P.underlying t with
 | some .string=>true
 | _=>false
def rY (P:au) (A:Bool) (t:av) (x y:AV):Option Bool:=match x,y with
 | .ptr _ _,.gJ=>cond (qg P t) (some false) none
 | .gJ,.gJ=>cond (qg P t) (some true) none
 | .ptr b o,.ptr b' o'=>cond (qg P t && (aN b b' && aN o o')) (some true) none
 | .sl _ _ _ _ _,.an=>cond (jB P t) (some false) none
 | .an,.an=>cond (jB P t) (some true) none
 | .fn _ _ _,.iz=>cond (sj P t) (some false) none
 | .iz,.iz=>cond (sj P t) (some true) none
 | .bool a,.bool b=>cond (vH P t) (some<|a==b) none
 | .fk _ _,.cN=>cond (sm P t) (some false) none
 | .cN,.cN=>cond (sm P t && A) (some true) none
 | _,_=>none
def uB (P:au) (A:Bool) (op:BinOp) (t:av) (x y:AV):Option AV:=match x,y with
 | .int k a,.int k' b=>match op with
   | .shl | .shr=>match b with
     | .ofNat b=>xl op k a b
     | _=>none
   | _=>cond (aN (dG k)<|dG k') (si op k a b) none
 | .str l,.str m=>xC op l m
 | x,y=>match op with
   | .eql=>match rY P A t x y with
     | some b=>some<|.bool b
     | none=>none
   | .neq=>match rY P A t x y with
     | some b=>some<|.bool<|!b
     | none=>none
   | _=>none
section
variable {P:au} {r:Rn} {N:Fm} {σ:Nat→ag} {dst:Option Nat} {ty:av} {pos :String} {af:Array bT} {g:Option (Nat×Bool)} {x y z:aW}
def YP (P:au) (r:Rn) (N:Fm) (σ:Nat→ag) (o:aB) (v:AV):Prop := ∃ u,den r v=some u∧∀ w,(execOp (ev N σ) o).run P w= .ok (.value u) w
theorem HE {op:BinOp} {k:bu} {a b:Int} {t E:av} {v:AV} (h:si op k a b=some v) (A:ev N σ x= .int k a) (C:ev N σ y= .int k b):YP P r N σ ⟨dst,.binOp op t x y E,ty,pos,af,g⟩ v:=by
 unfold si at h;split at h
 · rw [fB,qO] at h; cases h; exact ⟨_,rfl,fun w=>uw _ A C rfl⟩
 · rw [fB,qO] at h; cases h; exact ⟨_,rfl,fun w=>xd _ A C rfl⟩
 · rw [fB,qO] at h; cases h; exact ⟨_,rfl,fun w=>wg _ A C rfl⟩
 · cases h; exact ⟨_,rfl,fun w=>lt A C⟩
 · cases h; exact ⟨_,rfl,fun w=>le A C⟩
 · cases h; exact ⟨_,rfl,fun w=>gt A C⟩
 · cases h; exact ⟨_,rfl,fun w=>ge A C⟩
 · cases h; exact ⟨_,rfl,fun w=>Ab A C⟩
 · cases h; exact ⟨_,rfl,fun w=>Br A C⟩
 · split at h
   · rename_i a b;rw [fB,qO] at h; cases h;exact ⟨_,U,fun w=>Je _ A C ⟨fI _,Eb.2<|EI _⟩ U⟩
   · cases h
 · split at h
   · rename_i a b;rw [fB] at h; cases h;exact ⟨_,U,fun w=>rm A C ⟨fI _,Eb.2<|EI _⟩⟩
   · cases h
 · rw [fB] at h; cases h; exact ⟨_,rfl,fun w=>yZ A C rfl⟩
 · rw [fB] at h; cases h; exact ⟨_,rfl,fun w=>cT A C rfl⟩
 · cases h
theorem J2 {op:BinOp} {k E:bu} {a:Int} {b:Nat} {t I:av} {v:AV} (h:xl op k a b=some v) (A:ev N σ x= .int k a) (C:ev N σ y= .int E (kp b)):YP P r N σ ⟨dst,.binOp op t x y I,ty,pos,af,g⟩ v:=by
 unfold xl at h;split at h
 · rw [fB] at h; cases h; exact ⟨_,rfl,fun w=>shr A C (fI _) rfl⟩
 · rw [fB] at h; cases h; exact ⟨_,rfl,fun w=>shl A C (fI _) rfl⟩
 · cases h
theorem KO {op:BinOp} {l m:List UInt8} {t E:av} {v:AV} (h:xC op l m=some v) (A:ev N σ x=str l) (C:ev N σ y=str m):YP P r N σ ⟨dst,.binOp op t x y E,ty,pos,af,g⟩ v:=by
 unfold xC at h;simp only [oh,Bc] at h;split at h
 · cases h; exact ⟨_,rfl,fun w=>Ac A C⟩
 · cases h; exact ⟨.bool (decide (l≠m)),by simp [den],fun w=>Bs A C⟩
 · cases h; exact ⟨_,rfl,fun w=>It A C⟩
 · cases h; exact ⟨_,rfl,fun w=>Hs A C⟩
 · cases h; exact ⟨_,rfl,fun w=>Ii A C⟩
 · cases h; exact ⟨_,rfl,fun w=>Hn A C⟩
 · cases hb:bf (l.length+m.length) 9223372036854775807
   · rw [hb] at h; cases h
   · rw [hb] at h; cases h; exact ⟨_,rfl,fun w=>cc A C<|bP hb⟩
 · cases h
def cW:aW→Bool
 | .const _=>true
 | _=>false
def uk (P:au) (t:av) (x y:aW) (u v:ag) (q:Bool):Prop :=
 (∀ w,(binOp .eql t u v).run P w= .ok (.bool q) w)∧(∀ w,(binOp .neq t u v).run P w= .ok (.bool<|!q) w)∧∀ op w,(eqGuard op t x y u v).run P w= .ok () w
theorem uk.of {t:av} {u v:ag} {q:Bool} (h:∀ d w,(ie (d+1) t u v).run P w= .ok q w) (h1:∀ w,(binOp .eql t u v).run P w=((mc t u v).run P w).andThen fun q w=> .ok (.bool q) w)
 (A:∀ w,(binOp .neq t u v).run P w=((mc t u v).run P w).andThen fun q w=> .ok (.bool<|!q) w) (C:∀ op w,(eqGuard op t x y u v).run P w= .ok () w):uk P t x y u v q:=by
 have e:∀ w,(mc t u v).run P w= .ok q w:=h 9999;exact ⟨fun w=>by rw [h1,e]; rfl,fun w=>by rw [A,e]; rfl,C⟩
theorem z8 {Z:Bool} {t:av} {a b:AV} {u v:ag} {q:Bool} (ab:Z=true→(cW x || cW y)=true) (h:rY P Z t a b=some q) (hu:den r a=some u) (E:den r b=some v):uk P t x y u v q:=by
 have J:qg P t=true→∃ e i,P.underlying t=some (.pointer e)∧P.info? e=some i:=by
  intro hp;unfold qg at hp;split at hp
  · rename_i e he;obtain ⟨i,hi⟩:=Option.isSome_iff_exists.1 hp;exact ⟨e,i,he,hi⟩
  · cases hp
 have O:jB P t=true→∃ e,P.underlying t=some (.slice e):=by
  intro hp; unfold jB at hp; split at hp
  · exact ⟨_,by assumption⟩
  · cases hp
 have L:sj P t=true→∃ a b c,P.underlying t=some (.func a b c):=by
  intro hp; unfold sj at hp; split at hp
  · exact ⟨_,_,_,by assumption⟩
  · cases hp
 have M:sm P t=true→∃ m,P.underlying t=some (.interface m):=by
  intro hp; unfold sm at hp; split at hp
  · exact ⟨_,by assumption⟩
  · cases hp
 have B1:vH P t=true→P.underlying t=some .bool:=by
  intro hp; unfold vH at hp; split at hp
  · assumption
  · cases hp
 have I:∀ {c:Bool} {p:Option Bool} {q:Bool},cond c p none=some q→c=true∧p=some q:=by
  intro c p q h; cases c
  · cases h
  · exact ⟨U,h⟩
 unfold rY at h;split at h
 · obtain ⟨y,V,rfl⟩:=iu hu;obtain rfl :=oa E;obtain ⟨A,C⟩:=I h;cases C;obtain ⟨e,i,he,hi⟩:=J A;exact .of (fun d w=>u7 d he) (fun w=>by simp [binOp]) (fun w=>by simp [binOp]) fun op w=>by simp [eqGuard]
 · obtain rfl :=oa hu;obtain rfl :=oa E;obtain ⟨A,C⟩:=I h;cases C;obtain ⟨e,i,he,hi⟩:=J A;exact .of (fun d w=>u7 d he) (fun w=>by simp [binOp]) (fun w=>by simp [binOp]) fun op w=>by simp [eqGuard]
 · rename_i b o ae ai;obtain ⟨A,C⟩:=I h;cases C;simp only [a0] at A;obtain ⟨hp,h1,aa⟩:=A;obtain rfl :=bO h1;obtain rfl :=bO aa;rw [hu] at E; cases E;obtain ⟨y,V,rfl⟩:=iu hu;obtain ⟨e,i,he,hi⟩:=J hp;exact .of (fun d w=>by simp [ie,bt he,sizeOf,de hi,sameAddr]) (fun w=>by simp [binOp]) (fun w=>by simp [binOp]) fun op w=>by simp [eqGuard]
 · obtain ⟨y,cap,V,_,rfl,_⟩:=iw hu;obtain rfl :=hH E;obtain ⟨A,C⟩:=I h;cases C;obtain ⟨e,he⟩:=O A;exact .of (fun d w=>va d he) (fun w=>by simp [binOp]) (fun w=>by simp [binOp]) fun op w=>by simp [eqGuard]
 · obtain rfl :=hH hu;obtain rfl :=hH E;obtain ⟨A,C⟩:=I h;cases C;obtain ⟨e,he⟩:=O A;exact .of (fun d w=>va d he) (fun w=>by simp [binOp]) (fun w=>by simp [binOp]) fun op w=>by simp [eqGuard]
 · obtain ⟨ad,c',ha,_,rfl⟩:=lO hu;obtain rfl :=pS E;obtain ⟨A,C⟩:=I h;cases C;obtain ⟨_,_,_,he⟩:=L A;exact .of (fun d w=>by simp [ie,bt he]) (fun w=>by simp [binOp]) (fun w=>by simp [binOp]) fun op w=>by simp [eqGuard]
 · obtain rfl :=pS hu;obtain rfl :=pS E;obtain ⟨A,C⟩:=I h;cases C;obtain ⟨_,_,_,he⟩:=L A;exact .of (fun d w=>by simp [ie,bt he]) (fun w=>by simp [binOp]) (fun w=>by simp [binOp]) fun op w=>by simp [eqGuard]
 · obtain rfl :=iT hu;obtain rfl :=iT E;obtain ⟨A,C⟩:=I h;cases C;exact .of (fun d w=>Aa d<|B1 A) (fun w=>by simp [binOp]) (fun w=>by simp [binOp]) fun op w=>by simp [eqGuard]
 · obtain ⟨aj,ah,rfl⟩:=rU hu;obtain rfl :=n9 E;obtain ⟨A,C⟩:=I h;cases C;obtain ⟨_,he⟩:=M A;exact .of (fun d w=>by simp [ie,bt he]) (fun w=>by simp [binOp]) (fun w=>by simp [binOp]) fun op w=>by simp [eqGuard]
 · obtain rfl :=n9 hu;obtain rfl :=n9 E;obtain ⟨A,C⟩:=I h;cases C;simp only [a0] at A;obtain ⟨_,he⟩:=M A.1;have ac:=ab A.2;exact .of (fun d w=>by simp [ie,bt he]) (fun w=>by simp [binOp]) (fun w=>by simp [binOp]) (fun op w=>by
    cases x <;> cases y <;> first | (cases ac; done) | simp [eqGuard])
 · cases h
theorem Ff {V:Bool} {op:BinOp} {t Z:av} {a b v:AV} (A:V=true→(cW x || cW y)=true) (h:uB P V op t a b=some v) (E:den r a=some (ev N σ x)) (I:den r b=some (ev N σ y)):YP P r N σ ⟨dst,.binOp op t x y Z,ty,pos,af,g⟩ v:=by
 unfold uB at h;split at h
 · rename_i k a O b;have h1:=cP E;have M:=cP I;have key:(cond (aN (dG k)<|dG O) (si op k a b) none)=some v→YP P r N σ ⟨dst,.binOp op t x y Z,ty,pos,af,g⟩ v:=by
    intro C;cases A:aN (dG k) (dG O)
    · rw [A] at C; cases C
    · rw [A] at C;obtain rfl :=mQ A;exact HE C h1 M
   cases op <;> first
    | exact key h
    | (dsimp only at h
       split at h
       · exact J2 h h1 M
       · cases h)
 · exact KO h (gH E)<|gH I
 · split at h
   · split at h
     · rename_i q L;cases h;obtain ⟨h1,_,J⟩:=z8 A L E I;exact ⟨_,U,fun w=>by simp [execOp,h1,J]⟩
     · cases h
   · split at h
     · rename_i q L;cases h;obtain ⟨_,h1,J⟩:=z8 A L E I;exact ⟨_,U,fun w=>by simp [execOp,h1,J]⟩
     · cases h
   · cases h
end
def xn (e b o n c:Nat) (x:Bool) (i j:Nat):Option AV:=
 cond (bf i j) (cond x (cond (bf j c) (cond (aN c i) (some<|.sl b o (j - i) (c - i) true)<|some<|.sl b (o+i*e) (j - i) (c - i) true) none)
  (cond (bf j n && (aN i 0 || aD i n)) (some<|.sl b (o+i*e) (j - i) (c+i) false) none)) none
def oV (P:au) (t:av) (x:AV) (lo hi:Option Nat):Option AV:=match x with
 | .str l=>cond (isStr P t && (bf (lo.getD 0) (hi.getD l.length) && bf (hi.getD l.length) l.length)) (some<|.str<|(l.take<|hi.getD l.length).drop<|lo.getD 0) none
 | .sl b o n c q=>match cU P t with
   | some e=>xn e b o n c q (lo.getD 0)<|hi.getD n
   | none=>none
 | .an=>match cU P t with
   | some _=>cond (aN (lo.getD 0) 0 && aN (hi.getD 0) 0) (some .an) none
   | none=>none
 | _=>none
def xm (P:au) (t:av) (lo hi mx:Option aW) (xs:List AV):Option AV:=match lo,hi,mx with
 | none,some _,none=>match xs with
   | [x,.int _ (.ofNat j)]=>oV P t x none<|some j
   | _=>none
 | some _,none,none=>match xs with
   | [x,.int _ (.ofNat i)]=>oV P t x (some i) none
   | _=>none
 | some _,some _,none=>match xs with
   | [x,.int _ (.ofNat i),.int _ (.ofNat j)]=>oV P t x (some i)<|some j
   | _=>none
 | none,some _,some _=>match xs with
   | [.sl b o n c q,.int _ (.ofNat j),.int _ (.ofNat m)]=>match cU P t with
     | some e=>cond (aN j m && bf m n) (some<|.sl b o j j true) none
     | none=>none
   | _=>none
 | some _,some _,some _=>match xs with
   | [.sl b o n c q,.int _ (.ofNat i),.int _ (.ofNat j),.int _ (.ofNat m)]=>match cU P t with
     | some e=>cond (bf i j && (bf j m && bf m n)) (cond (aN m i) (some<|.sl b o (j - i) (m - i) true)<|some<|.sl b (o+i*e) (j - i) (m - i) true) none
     | none=>none
   | _=>none
 | _,_,_=>none
section
variable {P:au} {r:Rn} {N:Fm} {σ:Nat→ag} {dst:Option Nat} {ty:av} {pos :String} {af:Array bT} {g:Option (Nat×Bool)} {x y z:aW}
theorem aY {α:Type} {c:Bool} {p:Option α} {q:α} (h:cond c p none=some q):c=true∧p=some q:=by
 cases c
 · cases h
 · exact ⟨U,h⟩
theorem lN {b o n c:Nat} {q:Loc} (A:r b=some q) (h:n≤c):den r (.sl b o n c true)=some (.slice (some ⟨q.ak,q.sh+o,none⟩) n c):=by
 simp only [den,A,cond_true,yy h]
theorem n8 {b o n c:Nat} {q:Loc} (A:r b=some q) (h:c+n≤q.room):den r (.sl b o n c false)=some (.slice (some ⟨q.ak,q.sh+o,none⟩) n<|q.room - c):=by
 simp only [den,A,cond_true,cond_false,yy h]
theorem xo {e b o n c i j:Nat} {q:Bool} {v:AV} {u:ag} (h:xn e b o n c q i j=some v) (hu:den r (.sl b o n c q)=some u):
 ∃ a cap,u= .slice a n cap∧n≤cap∧i≤j∧j≤cap∧den r v=some (.slice (eb a cap i e) (j - i)<|cap - i):=by
 unfold xn at h;replace h:=aY h; obtain ⟨h1,h⟩:=h;have h1:=bP h1;cases q
 · simp only [cond_false] at h;replace h:=aY h; obtain ⟨A,h⟩:=h;simp only [a0,nG] at A;obtain ⟨q,C,E,rfl⟩:=rV hu;have L:=bP A.1;cases h;refine ⟨_,_,U,ab,h1,ab,?_⟩;have J:eb (some ⟨q.ak,q.sh+o,none⟩) (q.room - c) i e=some ⟨q.ak,q.sh+(o+i*e),none⟩:=by
    unfold eb;rcases A.2 with A | A
    · obtain rfl :=bO A;split
      · simp
      · simp [fP]
    · have :=cB.1 A;rw [if_neg ab];simp [fP,iN]
   rw [J,n8 C ab,show q.room - (c+i)=q.room - c - i from by omega]
 · simp only [cond_true] at h;replace h:=aY h; obtain ⟨A,h⟩:=h;have A:=bP A;obtain ⟨q,C,E,rfl⟩:=zM hu;refine ⟨_,_,U,E,h1,A,?_⟩;cases hb:aN c i
   · rw [hb] at h; cases h;have I:c≠i:=fun e=>by subst e; simp at hb
     rw [lN C ab];simp only [eb,if_neg I,fu,fP,iN]
   · rw [hb] at h; cases h;obtain rfl :=bO hb;rw [lN C ab];simp only [eb,if_true]
theorem lQ {t:av} (h:isStr P t=true):P.underlying t=some .string:=by
 unfold isStr at h; split at h
 · assumption
 · cases h
theorem Cx (c i e:Nat):eb none c i e=none:=by unfold eb; split <;> rfl
theorem J6 (a:Option Addr) (c e:Nat):eb a c 0 e=a:=by
 unfold eb; split
 · rfl
 · cases a <;> simp [Addr.add]
theorem Ka {t:av} {lo hi mx:Option aW} {xs:List AV} {v:AV} (h:xm P t lo hi mx xs=some v) (O:aI r xs=some ((x::(lo.toList++(hi.toList++mx.toList))).map<|ev N σ)):
 YP P r N σ ⟨dst,.slice t x lo hi mx,ty,pos,af,g⟩ v:=by
 unfold xm at h;split at h
 · rename_i z;split at h
   · rename_i a k j;obtain ⟨h1,E⟩:=gX (u:=ev N σ x) (v:=ev N σ z) O;have C:=cP E;unfold oV at h;split at h
     · replace h:=aY h; obtain ⟨A,h⟩:=h;simp only [a0,pG,iO] at A;cases h;refine ⟨_,U,fun w=>(xw (lQ A.1) (gH h1) C ⟨fI _,?_⟩).trans ?_⟩
       · have :=bP A.2.2; simp; omega
       · simp
     · split at h
       · rename_i e he;obtain ⟨a,cap,hu,Z,I,J,L⟩:=xo h h1;simp only [pG,iO] at I J L;refine ⟨_,L,fun w=>(CB he hu C ⟨fI _,by simp; omega⟩).trans ?_⟩;simp [J6]
       · cases h
     · split at h
       · rename_i e he;replace h:=aY h; obtain ⟨A,h⟩:=h;simp only [a0,pG,iO] at A;obtain rfl :=bO A.2;cases h;exact ⟨_,U,fun w=>CB he (hH h1) C ⟨fI _,by simp⟩⟩
       · cases h
     · cases h
   · cases h
 · rename_i z;split at h
   · rename_i a k j;obtain ⟨h1,E⟩:=gX (u:=ev N σ x) (v:=ev N σ z) O;have C:=cP E;unfold oV at h;split at h
     · replace h:=aY h; obtain ⟨A,h⟩:=h;simp only [a0,pG,iO] at A;cases h;refine ⟨_,U,fun w=>(Kc (lQ A.1) (gH h1) C ⟨fI _,?_⟩).trans ?_⟩
       · have :=bP A.2.1; simp; omega
       · simp
     · split at h
       · rename_i e he;obtain ⟨a,cap,hu,Z,I,J,L⟩:=xo h h1;simp only [pG,iO] at I J L;exact ⟨_,L,fun w=>xu he hu C ⟨fI _,by simp; omega⟩⟩
       · cases h
     · split at h
       · rename_i e he;replace h:=aY h; obtain ⟨A,h⟩:=h;simp only [a0,pG,iO] at A;obtain rfl :=bO A.1;cases h;exact ⟨_,U,fun w=>(xu he (hH h1) C ⟨fI _,by simp⟩).trans<|by simp [Cx]⟩
       · cases h
     · cases h
   · cases h
 · rename_i y z;split at h
   · rename_i a k i ae j;obtain ⟨h1,E,I⟩:=lM (u:=ev N σ x) (v:=ev N σ y) (t:=ev N σ z) O;have M:=cP E;have C:=cP I;unfold oV at h;split at h
     · replace h:=aY h; obtain ⟨A,h⟩:=h;simp only [a0,iO] at A;cases h;have :=bP A.2.1;have :=bP A.2.2;exact ⟨_,U,fun w=>kX (lQ A.1) (gH h1) M C ⟨fI _,by simp; omega,by simp; omega⟩⟩
     · split at h
       · rename_i e he;obtain ⟨a,cap,hu,Z,J,L,ac⟩:=xo h h1;simp only [iO] at J L ac;exact ⟨_,ac,fun w=>xq he hu M C ⟨fI _,by simp; omega,by simp; omega⟩⟩
       · cases h
     · split at h
       · rename_i e he;replace h:=aY h; obtain ⟨A,h⟩:=h;simp only [a0,iO] at A;obtain rfl :=bO A.1;obtain rfl :=bO A.2;cases h;exact ⟨_,U,fun w=>(xq he (hH h1) M C ⟨fI _,by simp,by simp⟩).trans<|by simp [Cx]⟩
       · cases h
     · cases h
   · cases h
 · rename_i y z;split at h
   · rename_i b o n c q k j ae m;obtain ⟨h1,E,I⟩:=lM (u:=ev N σ x) (v:=ev N σ y) (t:=ev N σ z) O;have M:=cP E;have C:=cP I;split at h
     · rename_i e he;replace h:=aY h; obtain ⟨A,h⟩:=h;simp only [a0] at A;obtain rfl :=bO A.1;have :=bP A.2;cases h;obtain ⟨q,cap,aa,Z,hu,_⟩:=iw h1;exact ⟨_,lN aa (aQ _),fun w=>FT he hu M C ab⟩
     · cases h
   · cases h
 · rename_i y z u;split at h
   · rename_i b o n c q k i ae j ak m;obtain ⟨_,_,V,h1,J⟩:=dQ O;obtain ⟨E,I,J⟩:=lM (u:=ev N σ y) (v:=ev N σ z) (t:=ev N σ u)<|by simp at V; rw [J,← V.2]
     have M:=cP E;have C:=cP I;have hu:=cP J;simp at V;rw [← V.1] at h1;split at h
     · rename_i e he;replace h:=aY h; obtain ⟨A,h⟩:=h;simp only [a0] at A;have ai:=bP A.1;have aj:=bP A.2.1;have al:=bP A.2.2;obtain ⟨q,cap,aa,Z,ah,_⟩:=iw h1;have ad:=fun w=>J9 (dst:=dst) (ty:=ty) (pos :=pos) (af:=af) (g:=g) (w:=w) he ah M C hu ⟨ai,aj,ab⟩;cases hb:aN m i
       · rw [hb] at h; cases h;have ag:m≠i:=fun e=>by subst e; simp at hb
         refine ⟨_,lN aa ab,fun w=>(ad w).trans ?_⟩;simp only [eb,if_neg ag,fu,fP,iN]
       · rw [hb] at h; cases h;obtain rfl :=bO hb;refine ⟨_,lN aa ab,fun w=>(ad w).trans ?_⟩;simp only [eb,if_true]
     · cases h
   · cases h
 · cases h
end
end Go.Hb
namespace Go.Hb
def kv:AV→List AV
 | .agg l=>l
 | v=> [v]
theorem uH {r:Rn} {v:AV} {u:ag} (h:den r v=some u):aI r (kv v)=some u.cells.toList:=by
 cases v with
 | agg l=>
   obtain ⟨us,C,rfl⟩:=pR h;simpa [kv,Value.cells] using C
 | bool b=>have :=iT h; subst this; exact dM h<|by simp [aI]
 | int k n=>have :=cP h; subst this; exact dM h<|by simp [aI]
 | str l=>have :=gH h; subst this; exact dM h<|by simp [aI]
 | ptr b o=>obtain ⟨q,A,rfl⟩:=iu h; exact dM h<|by simp [aI]
 | gJ=>have :=oa h; subst this; exact dM h<|by simp [aI]
 | sl b o n c x=>obtain ⟨q,cap,A,_,rfl,_⟩:=iw h; exact dM h<|by simp [aI]
 | an=>have :=hH h; subst this; exact dM h<|by simp [aI]
 | map b=>obtain ⟨q,A,rfl⟩:=mH h; exact dM h<|by simp [aI]
 | j4=>have :=zL h; subst this; exact dM h<|by simp [aI]
 | fn f a c=>obtain ⟨_,_,_,_,rfl⟩:=lO h; exact dM h<|by simp [aI]
 | gD l=>obtain ⟨q,A,rfl⟩:=uT h; exact dM h<|by simp [aI]
 | iz=>have :=pS h; subst this; exact dM h<|by simp [aI]
 | fk t v=>obtain ⟨_,_,rfl⟩:=rU h; exact dM h<|by simp [aI]
 | cN=>have :=n9 h; subst this; exact dM h<|by simp [aI]
 | bV l=>obtain ⟨_,_,rfl⟩:=zN h; exact dM h<|by simp [aI]
def sF:AV→Bool
 | .agg _ | .bV _=>false
 | _=>true
theorem I2 {r:Rn} {v:AV} {u:ag} (h:den r v=some u) (h1:sF v=true):u.oneCell'=true :=by
 cases v with
 | agg l=>cases h1
 | bool b=>have :=iT h; subst this; rfl
 | int k n=>have :=cP h; subst this; rfl
 | str l=>have :=gH h; subst this; rfl
 | ptr b o=>obtain ⟨q,A,rfl⟩:=iu h; rfl
 | gJ=>have :=oa h; subst this; rfl
 | sl b o n c x=>obtain ⟨q,cap,A,_,rfl,_⟩:=iw h; rfl
 | an=>have :=hH h; subst this; rfl
 | map b=>obtain ⟨q,A,rfl⟩:=mH h; rfl
 | j4=>have :=zL h; subst this; rfl
 | fn f a c=>obtain ⟨_,_,_,_,rfl⟩:=lO h; rfl
 | gD l=>obtain ⟨q,A,rfl⟩:=uT h; rfl
 | iz=>have :=pS h; subst this; rfl
 | fk t v=>obtain ⟨_,_,rfl⟩:=rU h; rfl
 | cN=>have :=n9 h; subst this; rfl
 | bV l=>cases h1
def dS:List AV→Bool
 | []=>true
 | v::l=>cond (sF v) (dS l) false
theorem oG {r:Rn} :∀ {l:List AV} {us:List ag},aI r l=some us→dS l=true→∀ u∈us,u.oneCell'=true
 | [],us,h,_,u,hu=>by rw [jV h] at hu; cases hu
 | v::l,us,h,h1,u,hu=>by
   obtain ⟨E,I,rfl,A,C⟩:=dQ h;simp only [dS] at h1;cases hv:sF v
   · rw [hv] at h1; cases h1
   · rw [hv] at h1;rcases ei.1 hu with rfl | hu
     · exact I2 A hv
     · exact oG C h1 u hu
def mN (pl:Nat→Option (Nat×Nat)):List AV→List (Nat×AV)→Option (List AV)
 | A,[]=>some A
 | A,(i,v)::ps=>match pl i with
   | some (off,s)=>cond (aN (kv v).length s && bf (off+s) A.length) (mN pl (A.take off++(kv v++A.drop (off+s))) ps) none
   | none=>none
theorem Ai:∀ (l:List ag) (m off :Nat) (cs:Array ag),off+m+l.length≤cs.size→
 (l.zipIdx m).foldl (fun (cs:Array ag) (c,j)=>cs.setIfInBounds (off+j) c) cs=(cs.toList.take (off+m)++(l++cs.toList.drop (off+m+l.length))).toArray
 | [],m,off,cs,h=>by simp
 | c::l,m,off,cs,h=>by
   simp only [List.zipIdx_cons,List.foldl_cons,dP] at h ⊢;rw [Ai l (m+1) off _ (by simp; omega)];apply qS.1;have A:off+m < cs.toList.length:=by rw [lk]; omega
   simp only [Array.toList_setIfInBounds];rw [show off+(m+1)=off+m+1 from by omega,JY A,JW ab,show off+m+1 +l.length=off+m+(l.length+1) from by omega];simp
theorem vk {r:Rn} {pl:Nat→Option (Nat×Nat)} :∀ {ps:List (Nat×AV)} {E L:List AV} {Z:List ag} {vs:List (Nat×ag)},mN pl E ps=some L→aI r E=some Z→
 vs.map fL=ps.map fL→aI r (ps.map nV)=some (vs.map nV)→∃ C,aI r L=some C∧iI pl Z.toArray vs=some C.toArray
 | [],E,L,Z,vs,h,hz,h1,A=>by
   simp only [mN,bM] at h;subst h;obtain rfl :vs= []:=by simpa using h1
   exact ⟨Z,hz,U⟩
 | (i,v)::ps,E,L,Z,vs,h,hz,h1,A=>by
   cases vs with
   | nil=>simp at h1
   | cons p vs=>
     obtain ⟨j,u⟩:=p;simp only [gn,lx] at h1;obtain ⟨rfl,h1⟩:=h1;simp only [gn] at A;obtain ⟨ak,al,he,ae,A⟩:=dQ A;simp only [lx] at he;obtain ⟨rfl,rfl⟩:=he;simp only [mN] at h;split at h
     · rename_i off s ad;replace h:=aY h; obtain ⟨I,h⟩:=h;simp only [a0] at I;have O:=bO I.1;have ai:=bP I.2;have J:=uH ae;have ac:=db J;have aj:=db hz;have ah:=fi (iS off hz)<|fi J<|jt (off+s) hz;obtain ⟨C,V,aa⟩:=vk h ah h1 A;refine ⟨C,V,?_⟩;have M:u.cells.size=s:=by rw [← lk,ac,O]
       simp only [iI,ad,M];rw [if_neg (by simp; omega),← aa];congr 1;have ab:=Ai u.cells.toList 0 off Z.toArray<|by simp; omega
       rw [show u.cells.zipIdx.foldl (fun (cs:Array ag) (c,j)=>cs.setIfInBounds (off+j) c) Z.toArray=((u.cells.toList.zipIdx 0).foldl (fun (cs:Array ag) (c,j)=>cs.setIfInBounds (off+j) c) Z.toArray) from by
        rw [← Du]; simp [Array.toList_zipIdx],ab]
       simp [M]
     · cases h
def lj:List (Nat×aW)→List AV→List (Nat×AV)
 | p::ps,v::vs=>(p.1,v)::lj ps vs
 | _,_=> []
theorem xX {r:Rn} {f:aW→ag} :∀ {ps:List (Nat×aW)} {xs:List AV},aI r xs=some ((ps.map (·.2)).map f)→
 (ps.map fun p=>(p.1,f p.2)).map fL=(lj ps xs).map fL∧aI r ((lj ps xs).map nV)=some ((ps.map fun p=>(p.1,f p.2)).map nV)
 | [],xs,h=>by
   have :=db h;obtain rfl :xs= []:=lz<|by simpa using this.symm
   simp [lj,aI]
 | p::ps,[],h=>by have :=db h; simp at this
 | p::ps,v::xs,h=>by
   simp only [gn] at h;obtain ⟨u,us,he,h1,A⟩:=dQ h;simp only [lx] at he;obtain ⟨rfl,rfl⟩:=he;obtain ⟨C,E⟩:=xX (f:=f) A;refine ⟨?_,?_⟩
   · simp only [gn,lj,lx,true_and]; exact C
   · simp only [gn,lj]; exact dM h1 E
def zl (P:au) (t u:av) (n:Int):Option AV:=match P.underlying u with
 | some (.int k)=>cond (P.underlying t).isSome (e7 k<|nC k n) none
 | _=>none
def uC (P:au) (b:Builtin) (A:Array av) (xs:List AV):Option AV:=match b with
 | .len=>match xs,A with
   | [.str l],⟨[t]⟩=>cond (isStr P t) (e7 .i64 l.length) none
   | [.sl _ _ n _ _],⟨[t]⟩=>cond (jB P t) (e7 .i64 n) none
   | [.an],⟨[t]⟩=>cond (jB P t) (e7 .i64 0) none
   | _,_=>none
 | .min =>match xs with
   | [.int k a,.int k' b]=>cond (aN (dG k)<|dG k') (e7 k<|min a b) none
   | _=>none
 | .max =>match xs with
   | [.int k a,.int k' b]=>cond (aN (dG k)<|dG k') (e7 k<|max a b) none
   | _=>none
 | _=>none
def yV (P:au) (t:av):Option (Nat×Nat):=match P.underlying t with
 | some (.array n e)=>match P.info? e with
   | some i=>match da P e with
     | some none=>some (n,i.size)
     | _=>none
   | none=>none
 | _=>none
def mX (P:au) (o:Op) (xs:List AV):Option AV:=match o with
 | .move _=>match xs with
   | [x]=>some x
   | _=>none
 | .assign _=>match xs with
   | [x]=>some x
   | _=>none
 | .pick _ _ _=>match xs with
   | [.bool true,a,_]=>some a
   | [.bool false,_,b]=>some b
   | _=>none
 | .nilCheck _=>match xs with
   | [.ptr b o]=>some<|.ptr b o
   | _=>none
 | .extract _ i=>match xs with
   | [.bV l]=>l[i]?
   | _=>none
 | .fieldAddr s _ f=>match xs with
   | [.ptr b o]=>match mM P s f with
     | some n=>some<|.ptr b<|o+n
     | none=>none
   | _=>none
 | .field s _ f=>match xs with
   | [.agg l]=>match vi P s f with
     | some n=>l[n]?
     | none=>match vj P s f with
       | some (C,off)=>match da P C with
         | some (some n)=>some<|.agg<|(l.drop off).take n
         | _=>none
       | none=>none
   | _=>none
 | .indexAddr s _ _=>match xs with
   | [.sl b o n _ _,.int _ (.ofNat i)]=>match cU P s with
     | some e=>cond (aD i n) (some<|.ptr b<|o+i*e) none
     | none=>none
   | [.ptr b o,.int _ (.ofNat i)]=>match ku P s with
     | some (n,e)=>cond (aD i n) (some<|.ptr b<|o+i*e) none
     | none=>none
   | _=>none
 | .index t _ _=>match xs with
   | [.str l,.int _ (.ofNat i)]=>cond (isStr P t) (match l[i]? with
     | some c=>e7 .u8 c.toNat
     | none=>none) none
   | [.agg l,.int _ (.ofNat i)]=>match yV P t with
     | some (n,s)=>cond (aD i n) l[i*s]? none
     | none=>none
   | _=>none
 | .binOp op t x y _=>match xs with
   | [a,b]=>uB P (cW x || cW y) op t a b
   | _=>none
 | .unOp .not _ _=>match xs with
   | [.bool b]=>some<|.bool<|!b
   | _=>none
 | .convert t u _=>match xs with
   | [.int _ n]=>zl P t u n
   | _=>none
 | .slice t _ lo hi mx=>xm P t lo hi mx xs
 | .makeInterface t _=>match xs with
   | [x]=>cond (j2 P t) (some<|.fk t x) none
   | _=>none
 | .typeAssert _ _ a true =>match xs with
   | [.cN]=>cond (j2 P a) (match zeroV P a with
     | some z=>match iY 4 z with
       | some z=>some<|.bV [z,.bool false]
       | none=>none
     | none=>none) none
   | [.fk t v]=>cond (j2 P a && aN t a) (some<|.bV [v,.bool true]) none
   | _=>none
 | .makeFunc (.func f) ⟨a⟩ _=>some<|.fn f (xs.take a.length)<|xs.drop a.length
 | .build t ⟨ps⟩=>match ew P t with
   | some (pl,A)=>match j5 (iY 4) A with
     | some A=>match mN (fun i=>pl.toArray[i]?) A (lj ps xs) with
       | some l=>some<|.agg l
       | none=>none
     | none=>none
   | none=>none
 | .call ⟨.builtin b,_,ts⟩=>uC P b ts xs
 | _=>none
section
variable {P:au} {r:Rn} {N:Fm} {σ:Nat→ag} {dst:Option Nat} {ty:av} {pos :String} {af:Array bT} {g:Option (Nat×Bool)} {x y z:aW}
theorem qh {t:av} (h:jB P t=true):∃ e,P.underlying t=some (.slice e):=by
 unfold jB at h; split at h
 · exact ⟨_,by assumption⟩
 · cases h
theorem Fi {b:Builtin} {l:List aW} {J:Array av} {xs:List AV} {v:AV} (h:uC P b J xs=some v) (E:aI r xs=some (l.map<|ev N σ)):YP P r N σ ⟨dst,.call ⟨.builtin b,⟨l⟩,J⟩,ty,pos,af,g⟩ v:=by
 unfold uC at h;have one:∀ {a:AV},aI r [a]=some (l.map<|ev N σ)→∃ x,l= [x]∧den r a=some (ev N σ x):=by
  intro a h;have :=db h;simp at this;obtain ⟨x,rfl⟩:=rf.1 this;exact ⟨x,U,eF h⟩
 have two:∀ {a b:AV},aI r [a,b]=some (l.map<|ev N σ)→∃ x y,l= [x,y]∧den r a=some (ev N σ x)∧den r b=some (ev N σ y):=by
  intro a b h;have :=db h;simp at this;obtain ⟨x,y,rfl⟩:∃ x y,l= [x,y]:=by
   match l,this with
   | [x,y],_=>exact ⟨x,y,rfl⟩
  exact ⟨x,y,U,gX h⟩
 split at h
 · split at h
   · obtain ⟨x,rfl,C⟩:=one E;replace h:=aY h; obtain ⟨A,h⟩:=h;rw [fB] at h; cases h;exact ⟨_,U,fun w=>A7 (lQ A) U<|gH C⟩
   · obtain ⟨x,rfl,C⟩:=one E;replace h:=aY h; obtain ⟨A,h⟩:=h;rw [fB] at h; cases h;obtain ⟨e,he⟩:=qh A;obtain ⟨q,cap,M,_,hu,_⟩:=iw C;exact ⟨_,U,fun w=>vU he U hu⟩
   · obtain ⟨x,rfl,C⟩:=one E;replace h:=aY h; obtain ⟨A,h⟩:=h;rw [fB] at h; cases h;obtain ⟨e,he⟩:=qh A;exact ⟨_,U,fun w=>vU he U<|hH C⟩
   · cases h
 · split at h
   · rename_i k a L b;obtain ⟨x,y,rfl,C,I⟩:=two E;replace h:=aY h; obtain ⟨A,h⟩:=h;obtain rfl :=mQ A;rw [fB] at h; cases h;exact ⟨_,U,fun w=>mn (cP C)<|cP I⟩
   · cases h
 · split at h
   · rename_i k a L b;obtain ⟨x,y,rfl,C,I⟩:=two E;replace h:=aY h; obtain ⟨A,h⟩:=h;obtain rfl :=mQ A;rw [fB] at h; cases h;exact ⟨_,U,fun w=>mx (cP C)<|cP I⟩
   · cases h
 · cases h
theorem Fg {t:av} {parts:Array (Nat×aW)} {pl:List (Nat×Nat)} {C L:List ag} (h:ew P t=some (pl,C)) (A:iI (pl.toArray[·]?) C.toArray (parts.toList.map fun p=>(p.1,ev N σ p.2))=some L.toArray) (w:ah):
 (execOp (ev N σ) ⟨dst,.build t parts,ty,pos,af,g⟩).run P w= .ok (.value<|.agg L.toArray) w:=by
 unfold ew at h;split at h
 · rename_i it fields hi hu;split at h
   · rename_i z I E hm;simp only [bM,gT] at h;obtain ⟨rfl,rfl⟩:=h;have hb:P.built t (parts.map fun p=>(p.1,ev N σ p.2)).toList=some L.toArray:=by
      simp only [Array.toArray_toList] at A;simp only [Program.built,hi,hu,E,hm,iH]; exact A
     simp [execOp,run_build w t _ _ hb]
   · cases h
 · cases h
theorem BG {o:Op} {xs:List AV} {v:AV} (h:mX P o xs=some v) (A:aI r xs=some ((gh o).map<|ev N σ)):YP P r N σ ⟨dst,o,ty,pos,af,g⟩ v:=by
 unfold mX at h;split at h
 · split at h
   · cases h; exact ⟨_,eF A,fun w=>mv⟩
   · cases h
 · split at h
   · cases h; exact ⟨_,eF A,fun w=>aT⟩
   · cases h
 · split at h
   · cases h;obtain ⟨h1,E,Z⟩:=lM A;exact ⟨_,E,fun w=>mZ<|iT h1⟩
   · cases h;obtain ⟨h1,E,Z⟩:=lM A;exact ⟨_,Z,fun w=>mY<|iT h1⟩
   · cases h
 · split at h
   · cases h;have h1:=eF A;obtain ⟨q,M,hu⟩:=iu h1;exact ⟨_,h1.trans (by rw [hu]),fun w=>nc hu⟩
   · cases h
 · split at h
   · obtain ⟨us,J,hu⟩:=zN<|eF A;obtain ⟨u,O,V⟩:=n7 J h;exact ⟨u,V,fun w=>xt hu<|by simpa using O⟩
   · cases h
 · split at h
   · split at h
     · rename_i n hn;cases h;obtain ⟨q,M,hu⟩:=iu<|eF A;exact ⟨_,by simp only [den,M]; rfl,fun w=>(fa hn hu).trans<|by rw [iN]⟩
     · cases h
   · cases h
 · split at h
   · split at h
     · rename_i n hn;obtain ⟨us,J,hu⟩:=pR<|eF A;obtain ⟨u,O,V⟩:=n7 J h;exact ⟨u,V,fun w=>G8 hn hu<|by simpa using O⟩
     · split at h
       · rename_i ao off ai;split at h
         · rename_i n ha;cases h;obtain ⟨us,J,hu⟩:=pR<|eF A;have h1:=iS n<|jt off J;exact ⟨_,by simp only [den,h1],fun w=>Hi ai ha hu U⟩
         · cases h
       · cases h
   · cases h
 · split at h
   · split at h
     · rename_i e he;replace h:=aY h; obtain ⟨I,h⟩:=h;cases h;obtain ⟨h1,E⟩:=gX A;obtain ⟨q,cap,M,J,hu,_⟩:=iw h1;have :=cB.1 I;refine ⟨_,by simp only [den,M]; rfl,fun w=>(ia he hu (cP E) ⟨fI _,by simp; omega⟩).trans ?_⟩;simp [iN]
     · cases h
   · split at h
     · rename_i n e he;replace h:=aY h; obtain ⟨I,h⟩:=h;cases h;obtain ⟨h1,E⟩:=gX A;obtain ⟨q,M,hu⟩:=iu h1;have :=cB.1 I;refine ⟨_,by simp only [den,M]; rfl,fun w=>(iW he hu (cP E) ⟨fI _,by simp; omega⟩).trans ?_⟩;simp [iN]
     · cases h
   · cases h
 · split at h
   · rename_i t _ _ l k i;replace h:=aY h; obtain ⟨I,h⟩:=h;obtain ⟨h1,E⟩:=gX A;split at h
     · rename_i c J;rw [fB] at h; cases h;obtain ⟨al,ad⟩:=cK.1 J;refine ⟨_,U,fun w=>(fy (lQ I) (gH h1) (cP E) al).trans ?_⟩;simp [b9,J]
     · cases h
   · rename_i l k i;split at h
     · rename_i n s L;replace h:=aY h; obtain ⟨I,h⟩:=h;have I:=cB.1 I;obtain ⟨h1,E⟩:=gX A;obtain ⟨us,J,hu⟩:=pR h1;obtain ⟨u,O,V⟩:=n7 J h;have am:=cP E;unfold yV at L;split at L
       · rename_i ap e hn;split at L
         · rename_i j aj;split at L
           · rename_i ha;cases L;refine ⟨u,V,fun w=> ?_⟩;have ad:us.toArray[i*j.size]? =some u:=by simpa using O
             have h0:(0:Int)≤kp i∧kp i < (n:Int):=⟨fI _,by simp; omega⟩
             simp only [execOp,Instr.index,hu,am,asIntOf,ij,ko,gQ,bt hn,Sem.run_ite,h0,and_self,if_true,sizeOf,de aj,part,Cb ha];simp [ad]
           · cases L
         · cases L
       · cases L
     · cases h
   · cases h
 · split at h
   · obtain ⟨h1,E⟩:=gX A;exact Ff (fun h=>h) h h1 E
   · cases h
 · split at h
   · cases h; exact ⟨_,rfl,fun w=>no<|iT<|eF A⟩
   · cases h
 · split at h
   · unfold zl at h;split at h
     · rename_i k ak;replace h:=aY h; obtain ⟨I,h⟩:=h;rw [fB,qO] at h; cases h;exact ⟨_,U,fun w=>Gf ak I (cP<|eF A) U⟩
     · cases h
   · cases h
 · exact Ka h A
 · split at h
   · replace h:=aY h; obtain ⟨I,h⟩:=h;cases h;have h1:=eF A;exact ⟨_,by simp only [den,h1],fun w=>wc I U⟩
   · cases h
 · split at h
   · replace h:=aY h; obtain ⟨I,h⟩:=h;split at h
     · rename_i z aa;split at h
       · rename_i au ab;cases h;have Z:=l4 (r:=r) 4 ab;exact ⟨_,by simp [den,aI,Z],fun w=>CR I aa<|n9<|eF A⟩
       · cases h
     · cases h
   · replace h:=aY h; obtain ⟨I,h⟩:=h;simp only [a0] at I;obtain rfl :=bO I.2;cases h;obtain ⟨ar,h1,E⟩:=rU<|eF A;exact ⟨_,by simp [den,aI,h1],fun w=>CQ I.1 E⟩
   · cases h
 · rename_i f a c;cases h;simp only [gh,iM] at A;obtain ⟨c⟩:=c;simp only at A;have h1:=iS a.length A;have E:=jt a.length A;rw [List.take_left' (by simp)] at h1;rw [List.drop_left' (by simp)] at E;exact ⟨_,by simp only [den,h1,E],fun w=>Bo⟩
 · rename_i t ps;split at h
   · rename_i pl av L;split at h
     · rename_i aw aa;split at h
       · rename_i l ag;cases h;have ab:=oE (r:=r) (fun v a=>l4 4) aa;obtain ⟨h1,E⟩:=xX (f:=ev N σ) A;obtain ⟨C,ae,ah⟩:=vk ag ab h1 E;exact ⟨.agg C.toArray,by simp only [den,ae],fun w=>Fg L ah w⟩
       · cases h
     · cases h
   · cases h
 · rename_i b ac aq;obtain ⟨ac⟩:=ac;exact Fi h A
 · cases h
end
end Go.Hb
namespace Go.Hb
theorem Bg {r s:Rn} (h:r.le s):∀ {l:List (AV×AV)} {es:List MapEntry},fZ r l es→fZ s l es
 | [],[],_=>trivial
 | p::l,m::es,hm=>⟨kB h hm.1,kB h hm.2.1,Bg h hm.2.2⟩
 | [],_::_,hm=>hm.elim
 | _::_,[],hm=>hm.elim
theorem OR.le {P:au} {r s:Rn} (h:r.le s) {q:Loc} {o:AO} {ob:Option Obj} (E:OR P r q o ob):OR P s q o ob:=by
 cases o with
 | cells l e fz ex=>obtain ⟨c,fr,us,h1,A,C⟩:=E; exact ⟨c,fr,us,h1,gY h A,C⟩
 | map l=>obtain ⟨es,c,h1,A,C⟩:=E; exact ⟨es,c,h1,Bg h A,C⟩
 | loop st O n fr ps aT body D=>
   obtain ⟨fn,J,M,h1,⟨x,A,C⟩,h4,h5⟩:=E;refine ⟨fn,J,M,h1,⟨x,h _ _ A,C⟩,h4,fun i hi=> ?_⟩;have I:=h5 i hi;have L:i < J.size:=ab;rw [nD L] at I ⊢;exact kB h I
 | kC b=>exact E
 | xD l p=>exact E
structure HR (P:au) (G:Nat) (r:Rn) (T:Nat) (h:Hp) (w:ah):Prop where
 live:∀ i o,h.t.get i=some o→∃ q,r i=some q∧OR P r q o w.heap[q.ak]?
 inj:∀ i j o o' q q',h.t.get i=some o→h.t.get j=some o'→r i=some q→r j=some q'→q.ak=q'.ak→i=j
 new:∀ i,h.nx≤i→i < T→r i=none
 eX:nX G r
 base:G≤h.nx
def Fr (G:Nat) (r:Rn) (h:Hp) (k:Nat):Prop := ∃ i o q,G≤i∧h.t.get i=some o∧r i=some q∧q.ak=k
structure St (P:au) (G T:Nat) (r:Rn) (h:Hp) (w:ah) (r':Rn) (h':Hp) (w':ah):Prop where
 le:r.le r'
 hr:HR P G r' T h' w'
 nx:h.nx≤h'.nx
 md:Md (Fr G r h) w w'
 dR:∀ g,g≤G→∀ k,k < w.heap.size→Fr g r' h' k→Fr g r h k
 out:∀ i,h'.nx≤i→r' i=r i
theorem St.trans {P:au} {G T:Nat} {r r' J:Rn} {h h' E:Hp} {w w' w'':ah} (a:St P G T r h w r' h' w') (b:St P G T r' h' w' J E w''):St P G T r h w J E w'':=
 ⟨Rn.le_trans a.le b.le,b.hr,cS a.nx b.nx,Md.trans' a.md b.md (fun k A C=>a.dR G (aQ _) k A C),fun g I k A C=>a.dR g I k A (b.dR g I k (mq A a.md.size) C),fun i hi=>(b.out i hi).trans<|a.out i<|cS b.nx hi⟩
theorem St.refl {P:au} {G T:Nat} {r:Rn} {h:Hp} {w:ah} (hr:HR P G r T h w):St P G T r h w r h w:=⟨Rn.le_refl r,hr,aQ _,Md.refl _ _,fun _ _ _ _ h=>h,fun _ _=>rfl⟩
theorem St.drew {P:au} {G T:Nat} {r r':Rn} {h h':Hp} {w w':ah} (a:St P G T r h w.drew r' h' w'):St P G T r h w r' h' w':=⟨a.le,a.hr,a.nx,⟨a.md.os,a.md.output,a.md.size,a.md.dH⟩,a.dR,a.out⟩
section
variable {P:au} {G:Nat} {r:Rn} {T:Nat} {h:Hp} {w:ah}
theorem HR.drew (hr:HR P G r T h w):HR P G r T h w.drew:=⟨hr.live,hr.inj,hr.new,hr.eX,hr.base⟩
theorem HR.cells (hr:HR P G r T h w) {b:Nat} {l:List AV} {e fz:Nat} {ex:Ck} (hb:h.t.get b=some (.cells l e fz ex)):
 ∃ q us,r b=some q∧aI r l=some us∧(∀ j u,us[j]? =some u→ay w.heap q.ak (q.sh+j)=some u)∧∃ c fr,w.heap[q.ak]? =some (.cells c e fr):=by
 obtain ⟨q,I,c,fr,us,h1,A,J,C,_⟩:=hr.live b _ hb;exact ⟨q,us,I,A,fun j u E=>by rw [bh h1]; exact C j u E,c,fr,h1⟩
def YL (P:au) (r:Rn) (N:Fm) (σ:Nat→ag) (o:aB) (w:ah) (v:AV):Prop := ∃ u,den r v=some u∧(execOp (ev N σ) o).run P w= .ok (.value u) w
end
def na:List AV→Option (List UInt8)
 | []=>some []
 | .int .u8 (.ofNat n)::l=>match na l with
   | some m=>cond (aD n 256) (some (eR n::m)) none
   | none=>none
 | _=>none
theorem xI {r:Rn} :∀ {l:List AV} {m:List UInt8} {us:List ag},na l=some m→aI r l=some us→us=U8 m
 | [],m,us,h,hd=>by simp only [na,bM] at h; subst h; rw [jV hd]; rfl
 | a::l,m,us,h,hd=>by
   unfold na at h;split at h
   · rename_i h0; cases h0
   · rename_i n E h0;cases h0;split at h
     · rename_i I hm;replace h:=aY h; obtain ⟨C,h⟩:=h;cases h;obtain ⟨u,J,rfl,h1,A⟩:=dQ hd;obtain rfl :=cP h1;obtain rfl :=xI hm A;have :=cB.1 C;simp only [U8,gn,lx,and_true];congr 1;exact (K2 n this).symm
     · cases h
   · cases h
inductive KK | s | i (k:bu) | bs
def mT (P:au) (k:av) (a:AV):Option KK:=match a with
 | .str _=>cond (isStr P k) (some .s) none
 | .int q _=>match P.underlying k with
   | some (.int _)=>some<|.i q
   | _=>none
 | .agg _=>cond (mC P k) (some .bs) none
 | _=>none
def dD (A:KK) (a:AV):Bool:=match A,a with
 | .s,.str _=>true
 | .i k,.int k' _=>aN (dG k)<|dG k'
 | .bs,.agg [.bool _,.str _]=>true
 | _,_=>false
def eZ (A:KK):List (AV×AV)→Bool
 | []=>true
 | p::l=>cond (dD A p.1) (eZ A l) false
def oA:KK→ag→Prop
 | .s=>HH
 | .i k=>AG k
 | .bs=>vI
where HH (v:ag):Prop := ∃ s:List UInt8,v=str s
def fX (a b:AV):Bool:=match a,b with
 | .str l,.str m=>hJ l m
 | .int _ a,.int _ b=>decide (a=b)
 | .agg [.bool a,.str l],.agg [.bool b,.str m]=>cond (a==b) (hJ l m) false
 | _,_=>false
def lT (x:AV):List (AV×AV)→Option AV
 | []=>none
 | p::l=>cond (fX p.1 x) (some p.2)<|lT x l
section
variable {P:au} {r:Rn}
theorem sr {C:KK} {a:AV} {u:ag} (h:dD C a=true) (A:den r a=some u):oA C u:=by
 unfold dD at h;split at h
 · exact ⟨_,gH A⟩
 · rename_i k M n;obtain rfl :=mQ h;exact ⟨_,cP A⟩
 · obtain ⟨us,h1,rfl⟩:=pR A;obtain ⟨O,Z,rfl,E,I⟩:=dQ h1;obtain ⟨V,aa,rfl,J,L⟩:=dQ I;obtain rfl :=jV L;obtain rfl :=iT E;obtain rfl :=gH J;exact ⟨_,_,U⟩
 · cases h
theorem AY {a:AV} (h:dD .s a=true):∃ l,a= .str l:=by
 cases a with
 | str l=>exact ⟨l,rfl⟩
 | _=>exact dn (show false =true from h)
theorem AX {k:bu} {a:AV} (h:dD (.i k) a=true):∃ n,a= .int k n:=by
 cases a with
 | int A n=>exact ⟨n,by rw [mQ (show aN (dG k) (dG A)=true from h)]⟩
 | _=>exact dn (show false =true from h)
theorem AW {a:AV} (h:dD .bs a=true):∃ f l,a= .agg [.bool f,.str l]:=by
 unfold dD at h;split at h <;> first
  | exact ⟨_,_,rfl⟩
  | contradiction
  | (exfalso; cases h; done)
  | (rename_i A; cases A; done)
  | (rename_i A _; cases A; done)
theorem zK {f:Bool} {l:List UInt8} {u:ag} (h:den r (.agg [.bool f,.str l])=some u):u= .agg #[.bool f,str l]:=by simpa [den,aI] using h.symm
theorem str_inj {l m:List UInt8} (h:str l=str m):l=m:=by unfold str at h; cases h; rfl
theorem kK {E:KK} {a b:AV} {u v:ag} (h1:dD E a=true) (A:dD E b=true) (hu:den r a=some u) (C:den r b=some v):fX a b=true↔u=v:=by
 cases E with
 | s=>
   obtain ⟨l,rfl⟩:=AY h1;obtain ⟨m,rfl⟩:=AY A;rw [gH hu,gH C];simp only [fX,oh,decide_eq_true_iff];exact ⟨fun h=>by rw [h],str_inj⟩
 | i k=>
   obtain ⟨l,rfl⟩:=AX h1;obtain ⟨m,rfl⟩:=AX A;rw [cP hu,cP C];simp only [fX,decide_eq_true_iff];exact ⟨fun h=>by rw [h],fun h=>by cases h; rfl⟩
 | bs=>
   obtain ⟨f,l,rfl⟩:=AW h1;obtain ⟨g,m,rfl⟩:=AW A;rw [zK hu,zK C];simp only [fX,oh];cases hab:(f==g)
   · have :f≠g:=by simpa using hab
     exact ⟨fun h=>dn h,fun h=>by simp at h; exact absurd h.1 this⟩
   · obtain rfl :f=g:=by simpa using hab
     simp only [cond_true,decide_eq_true_iff];exact ⟨fun h=>by rw [h],fun h=>by simp at h; exact str_inj h⟩
theorem vO {k:av} {a:AV} {C:KK} (h:mT P k a=some C):nY P k (oA C):=by
 unfold mT at h;split at h
 · replace h:=aY h; obtain ⟨A,h⟩:=h;cases h;exact (AT<|lQ A).key
 · split at h
   · cases h; exact (AS<|by assumption).key
   · cases h
 · replace h:=aY h; obtain ⟨A,h⟩:=h;cases h;exact H5 A
 · cases h
theorem sA {A:KK} :∀ {l:List (AV×AV)} {es:List MapEntry},fZ r l es→eZ A l=true→∀ p∈es.map (fun e=>(e.key,e.val)),oA A p.1
 | [],[],_,_,p,hp=>by simp at hp
 | q::l,m::es,hm,hk,p,hp=>by
   simp only [eZ] at hk;cases h1:dD A q.1
   · rw [h1] at hk; cases hk
   · rw [h1] at hk;rcases ei.1 hp with rfl | hp
     · exact sr h1 hm.1
     · exact sA hm.2.2 hk p hp
 | [],_::_,hm,_,_,_=>hm.elim
 | _::_,[],hm,_,_,_=>hm.elim
theorem AR {E:KK} {x v:AV} {kx:ag} (C:dD E x=true) (A:den r x=some kx):∀ {l:List (AV×AV)} {es:List MapEntry},fZ r l es→eZ E l=true→lT x l=some v→∃ u,den r v=some u∧(kx,u)∈es.map (fun e=>(e.key,e.val))
 | [],_,_,_,h=>by cases h
 | q::l,[],hm,_,_=>hm.elim
 | q::l,m::es,hm,hk,h=>by
   simp only [eZ] at hk;cases h1:dD E q.1
   · rw [h1] at hk; cases hk
   · rw [h1] at hk;simp only [lT] at h;cases he:fX q.1 x
     case true =>
      have he:=(kK h1 C hm.1 A).1 he;rw [(kK h1 C hm.1 A).2 he] at h;cases h;exact ⟨m.val,hm.2.1,by rw [← he]; exact gS⟩
     case false =>
      rw [he] at h;obtain ⟨u,I,J⟩:=AR C A hm.2.2 hk h;exact ⟨u,I,gR _ J⟩
theorem vN {C:KK} {x:AV} {kx:ag} (I:dD C x=true) (E:den r x=some kx):∀ {l:List (AV×AV)} {es:List MapEntry},fZ r l es→eZ C l=true→lT x l=none→∀ v,(kx,v)∉es.map (fun e=>(e.key,e.val))
 | [],[],_,_,_,v=>by simp
 | [],_::_,hm,_,_,_=>hm.elim
 | q::l,[],hm,_,_,_=>hm.elim
 | q::l,m::es,hm,hk,h,v=>by
   simp only [eZ] at hk;cases h1:dD C q.1
   · rw [h1] at hk; cases hk
   · rw [h1] at hk;simp only [lT] at h;cases he:fX q.1 x
     case true =>rw [he] at h; cases h
     case false =>
      rw [he] at h;intro J;rcases ei.1 J with A | A
      · cases A; have :=(kK h1 I hm.1 E).2 rfl; rw [he] at this; cases this
      · exact vN I E hm.2.2 hk h v A
end
end Go.Hb
namespace Go.Hb
def zm (P:au) (t u:av) (x:AV) (h:Hp):Option AV:=match x with
 | .sl _ _ 0 _ _=>match P.underlying t with
   | some (.slice e)=>cond (mD P t e u) (some<|.str []) none
   | _=>none
 | .sl b o n _ _=>match h.t.get b with
   | some (.cells l e _ _)=>cond (mD P t e u && bf (o+n) l.length) (match na ((l.drop o).take n) with
     | some m=>some<|.str m
     | none=>none) none
   | _=>none
 | .an=>match P.underlying t with
   | some (.slice e)=>cond (mD P t e u) (some<|.str []) none
   | _=>none
 | .ptr b 0=>match h.t.get b with
   | some (.cells l e 0 .x)=>cond (nb P t u e l.length || nb P u t e l.length) (some<|.ptr b 0) none
   | _=>none
 | _=>none
def ss (P:au) (t:av) (x:AV) (h:Hp):Option AV:=match x with
 | .ptr b o=>match h.t.get b with
   | some (.cells l _ _ _)=>match da P t with
     | some none=>l[o]?
     | some (some n)=>cond (bf (o+n) l.length) (some<|.agg<|(l.drop o).take n) none
     | none=>none
   | _=>none
 | _=>none
def iZ (P:au) (o:Op) (xs:List AV) (h:Hp):Option AV:=match o with
 | .load t _=>match xs with
   | [x]=>ss P t x h
   | _=>none
 | .lookup t _ _ ok=>match xs with
   | [.map b,k]=>match h.t.get b with
     | some (.map l)=>match P.underlying t with
       | some (.map C e)=>match mT P C k with
         | some A=>cond (dD A k && eZ A l) (match lT k l with
           | some v=>some<|cond ok (.bV [v,.bool true]) v
           | none=>match zeroV P e with
             | some z=>match iY 4 z with
               | some z=>some<|cond ok (.bV [z,.bool false]) z
               | none=>none
             | none=>none) none
         | none=>none
       | _=>none
     | _=>none
   | _=>none
 | .convert t u _=>match xs with
   | [x]=>zm P t u x h
   | _=>none
 | .slice t _ none none none=>match xs with
   | [.ptr b 0]=>match h.t.get b with
     | some (.cells _ _ _ .x)=>match ku P t with
       | some (n,_)=>some<|.sl b 0 n n true
       | none=>none
     | _=>none
   | _=>none
 | .call ⟨.builtin .len,_,⟨[t]⟩⟩=>match xs with
   | [.map b]=>match h.t.get b with
     | some (.map l)=>match P.underlying t with
       | some (.map _ _)=>e7 .i64 l.length
       | _=>none
     | _=>none
   | _=>none
 | _=>none
section
variable {P:au} {G:Nat} {r:Rn} {T:Nat} {h:Hp} {w:ah} {N:Fm} {σ:Nat→ag} {dst:Option Nat} {ty:av} {pos :String} {af:Array bT} {g:Option (Nat×Bool)} {x y z:aW}
theorem Bh:∀ {l:List (AV×AV)} {es:List MapEntry},fZ r l es→es.length=l.length
 | [],[],_=>rfl
 | p::l,m::es,hm=>by simp [Bh hm.2.2]
 | [],_::_,hm=>hm.elim
 | _::_,[],hm=>hm.elim
theorem HR.map (hr:HR P G r T h w) {b:Nat} {l:List (AV×AV)} (hb:h.t.get b=some (.map l)):∃ q es c,r b=some q∧w.heap[q.ak]? =some (.map es c)∧fZ r l es.toList∧(es.toList.map fun e=>e.key).Nodup:=by
 obtain ⟨q,E,es,c,h1,A,C⟩:=hr.live b _ hb;exact ⟨q,es,c,E,h1,A,C⟩
theorem A3 (hr:HR P G r T h w) {t:av} {a v:AV} {v0:ag} (A:ss P t a h=some v) (O:den r a=some v0):∃ b off u,v0= .pointer (some ⟨b,off,none⟩)∧den r v=some u∧
 ((da P t=some none∧ay w.heap b off =some u)∨∃ (n:Nat) (cs:List ag),da P t=some (some n)∧u= .agg cs.toArray∧cs.length=n∧∀ j,j < n→ay w.heap b (off+j)=cs[j]?):=by
 unfold ss at A;split at A
 · rename_i b o;split at A
   · rename_i l _ _ _ hb;obtain ⟨q,us,Z,C,E,_⟩:=hr.cells hb;obtain ⟨q',J,rfl⟩:=iu O;rw [Z] at J; cases J;split at A
     · rename_i ha;obtain ⟨u,h1,L⟩:=n7 C A;exact ⟨_,_,u,U,L,.inl ⟨ha,E _ _ h1⟩⟩
     · rename_i n ha;replace A:=aY A; obtain ⟨M,A⟩:=A;have hle:=bP M;cases A;have h1:=iS n<|jt o C;have hlen:=db C;refine ⟨_,_,.agg ((us.drop o).take n).toArray,U,by simp only [den,h1],.inr ⟨n,_,ha,U,by simp; omega,fun j V=> ?_⟩⟩;rw [iL,if_pos V,ik];have I:o+j < us.length:=ab;rw [iN,bG I];exact E _ _<|bG I
     · cases A
   · cases A
 · cases A
theorem BE (hr:HR P G r T h w) {o:Op} {xs:List AV} {v:AV} (A:iZ P o xs h=some v) (V:aI r xs=some ((gh o).map<|ev N σ)):YL P r N σ ⟨dst,o,ty,pos,af,g⟩ w v:=by
 unfold iZ at A;split at A
 · split at A
   · obtain ⟨b,off,u,M,hu,h1⟩:=A3 hr A<|eF V;rcases h1 with ⟨ha,E⟩ | ⟨n,cs,ha,rfl,Z,E⟩
     · exact ⟨u,hu,ld ha M E⟩
     · exact ⟨_,hu,eI ha M Z E⟩
   · cases A
 · rename_i t a b ok;split at A
   · rename_i b k;split at A
     · rename_i l hb;obtain ⟨q,es,c,J,hw,hm,hn⟩:=hr.map hb;obtain ⟨h1,L⟩:=gX V;obtain ⟨q',C,hu⟩:=mH h1;rw [J] at C; cases C;split at A
       · rename_i aA e ad;split at A
         · rename_i az au;replace A:=aY A; obtain ⟨E,A⟩:=A;simp only [a0] at E;have ai:=vO au;have al:um w.heap q.ak (es.toList.map fun e=>(e.key,e.val)):=⟨es,c,hw,rfl⟩
           have aj:=sA hm E.2;have hi:=sr E.1 L;split at A
           · rename_i aB ah;cases A;obtain ⟨u,O,aa⟩:=AR E.1 L hm E.2 ah;refine ⟨if ok then .tuple #[u,.bool true] else u,?_,Io ad ai al aj hu U hi (by rw [tX]; exact hn) aa⟩;cases ok
             · exact O
             · simp [den,aI,O]
           · rename_i ah;have aa:=vN E.1 L hm E.2 ah;split at A
             · rename_i z aw;split at A
               · rename_i aC ax;cases A;have O:=l4 (r:=r) 4 ax;refine ⟨if ok then .tuple #[z,.bool false] else z,?_,Ip ad aw ai al aj hu U hi aa⟩;cases ok
                 · exact O
                 · simp [den,aI,O]
               · cases A
             · cases A
         · cases A
       · cases A
     · cases A
   · cases A
 · rename_i t u a;split at A
   · rename_i x;have M:=eF V;unfold zm at A;split at A
     · split at A
       · rename_i e he;replace A:=aY A; obtain ⟨I,A⟩:=A;cases A;obtain ⟨q',cap,C,hn,hu,_⟩:=iw M;exact ⟨_,U,rO I hu (aX.nil _ _) U⟩
       · cases A
     · rename_i b o n c q _;split at A
       · rename_i l e _ _ hb;obtain ⟨q,us,J,Z,E,_⟩:=hr.cells hb;obtain ⟨q',cap,C,hn,hu,_⟩:=iw M;rw [J] at C; cases C;replace A:=aY A; obtain ⟨I,A⟩:=A;simp only [a0] at I;have hle:=bP I.2;split at A
         · rename_i m hm;cases A;have h1:=iS n<|jt o Z;have L:=xI hm h1;have hlen:=db Z;have av:m.length=n:=by
            have :=congrArg jh L;simp [rA] at this;omega
           refine ⟨_,U,rO I.1 hu ⟨fun _=>rfl,fun j u ab=> ?_⟩ av⟩;rw [← L,iL] at ab;split at ab
           · rw [ik] at ab;show ay w.heap q.ak (q.sh+o+j)=some u;rw [iN]; exact E _ _ ab
           · cases ab
         · cases A
       · cases A
     · split at A
       · rename_i e he;replace A:=aY A; obtain ⟨I,A⟩:=A;cases A;exact ⟨_,U,rO I (hH M) (aX.nil _ _) U⟩
       · cases A
     · rename_i b;split at A
       · rename_i l e hb;replace A:=aY A; obtain ⟨I,A⟩:=A;cases A;obtain ⟨q,J,c,fr,us,h1,L,O,aa,ao,ap,ag,aq⟩:=hr.live b _ hb;obtain ⟨ac,am,rfl⟩:=ag.1 rfl;obtain ⟨q',C,hu⟩:=iu M;rw [J] at C; cases C;rw [ac] at hu;have ar:c=c.toList.toArray:=by simp
         rw [ar] at h1;refine ⟨_,M.trans (congrArg some hu),?_⟩;rcases DF.1 I with I | I
         · exact CY I hu h1<|by simpa using am
         · exact Av I hu h1<|by simpa using am
       · cases A
     · cases A
   · cases A
 · split at A
   · rename_i b;split at A
     · rename_i hb;split at A
       · rename_i n _ hn;cases A;obtain ⟨q,J,c,fr,us,h1,L,O,aa,ao,ap,ag,aq⟩:=hr.live b _ hb;obtain ⟨ac,_,_⟩:=ag.1 rfl;obtain ⟨q',C,hu⟩:=iu<|eF V;rw [J] at C; cases C;rw [ac] at hu;exact ⟨_,by rw [lN J (aQ _),ac],Fb hn hu⟩
       · cases A
     · cases A
   · cases A
 · rename_i ae t;split at A
   · rename_i b;split at A
     · rename_i l hb;obtain ⟨q,es,c,J,hw,hm,hn⟩:=hr.map hb;split at A
       · rename_i ad;rw [fB] at A; cases A;obtain ⟨ae⟩:=ae;have Z:=db V;obtain ⟨x,rfl⟩:∃ x,ae= [x]:=rf.1<|by simpa [gh] using Z
         obtain ⟨q',C,hu⟩:=mH<|eF V;rw [J] at C; cases C;refine ⟨_,U,?_⟩;have :=Iq (dst:=dst) (ty:=ty) (pos :=pos) (af:=af) (g:=g) (P:=P) ad rfl hu hw;rw [this];have :=Bh hm;rw [lk] at this;rw [this]
       · cases A
     · cases A
   · cases A
 · cases A
end
end Go.Hb
namespace Go.Hb
def Rn.ext (r:Rn) (i:Nat) (q:Loc):Rn:=fun k=>if k=i then some q else r k
theorem Rn.gI (r:Rn) (i:Nat) (q:Loc):r.ext i q i=some q:=if_pos rfl
theorem Rn.jy (r:Rn) {i k:Nat} (q:Loc) (h:k≠i):r.ext i q k=r k:=if_neg h
theorem Rn.qk {r:Rn} {i:Nat} (q:Loc) (h:r i=none):r.le (r.ext i q):=fun k x A=>by
 by_cases e:k=i
 · subst e; rw [h] at A; cases A
 · rw [Rn.jy r q e]; exact A
theorem OR.obj {P:au} {r:Rn} {q:Loc} {o:AO} {ob:Option Obj} (h:OR P r q o ob):∃ b,ob=some b:=by
 cases o with
 | cells l e fz ex=>obtain ⟨c,fr,us,h1,_⟩:=h; exact ⟨_,h1⟩
 | map l=>obtain ⟨es,c,h1,_⟩:=h; exact ⟨_,h1⟩
 | loop st A n fr ps aT body D=>obtain ⟨_,_,_,h1,_⟩:=h; exact ⟨_,h1⟩
 | kC b=>exact ⟨_,h⟩
 | xD l p=>exact ⟨_,h⟩
section
variable {P:au} {G:Nat} {r:Rn} {T:Nat} {h:Hp} {w:ah}
theorem nX.le {r s:Rn} (A:nX G r) (h:r.le s):nX G s:=fun g C=>let ⟨m,hm⟩:=A g C; ⟨m,h _ _ hm⟩
theorem HR.lt (hr:HR P G r T h w) {i:Nat} {o:AO} {q:Loc} (hi:h.t.get i=some o) (E:r i=some q):q.ak < w.heap.size:=by
 obtain ⟨q',A,C⟩:=hr.live i o hi;rw [E] at A; cases A;obtain ⟨b,hb⟩:=C.obj;exact (dm.1 hb).1
theorem HR.put (hr:HR P G r T h w) {i V:Nat} {o:AO} {q:Loc} {r':Rn} {w':ah} (hle:r.le r') (hi:aD i cm=true) (U:r' i=some q) (ac:OR P r' q o w'.heap[q.ak]?)
 (hw:∀ k,k≠q.ak→k < w.heap.size→w'.heap[k]? =w.heap[k]?) (O:∀ j J q',j≠i→h.t.get j=some J→r j=some q'→q'.ak≠q.ak)
 (ab:h.nx≤V) (aa:∀ k,V≤k→k < T→r' k=none):HR P G r' T ⟨h.t.set i o,V⟩ w':=by
 refine ⟨fun j J A=> ?_,fun j k L M ae ag A E h1 I he=> ?_,aa,hr.eX.le hle,cS hr.base ab⟩
 · rw [Tr.kE _ _ _ _ hi] at A;split at A
   · rename_i e; subst e; cases A; exact ⟨q,U,ac⟩
   · rename_i e;obtain ⟨q',h1,C⟩:=hr.live j J A;refine ⟨q',hle _ _ h1,?_⟩;rw [hw _ (O j J q' e A h1) (hr.lt A h1)];exact C.le hle
 · simp only [Tr.kE _ _ _ _ hi] at A E;split at A
   · rename_i e;split at E
     · rename_i e'; rw [e,e']
     · rename_i e';exfalso;subst e;rw [U] at h1; cases h1;obtain ⟨q',C,_⟩:=hr.live k M E;rw [hle _ _ C] at I; cases I;exact O k M _ e' E C he.symm
   · rename_i e;split at E
     · rename_i e';exfalso;subst e';rw [U] at I; cases I;obtain ⟨q',C,_⟩:=hr.live j L A;rw [hle _ _ C] at h1; cases h1;exact O j L _ e A C he
     · obtain ⟨q',C,_⟩:=hr.live j L A;obtain ⟨ad,Z,_⟩:=hr.live k M E;rw [hle _ _ C] at h1; cases h1;rw [hle _ _ Z] at I; cases I;exact hr.inj j k L M _ _ A E C Z he
theorem HR.del (hr:HR P G r T h w) {i:Nat} (hi:aD i cm=true):HR P G r T ⟨h.t.del i,h.nx⟩ w:=by
 refine ⟨fun j o A=> ?_,fun j k E I J L A C=> ?_,hr.new,hr.eX,hr.base⟩
 · rw [Tr.ow _ _ _ hi] at A;split at A
   · cases A
   · exact hr.live j o A
 · simp only [Tr.ow _ _ _ hi] at A C;split at A
   · cases A
   · split at C
     · cases C
     · exact hr.inj j k E I J L A C
theorem Fr.set {g:Nat} {r':Rn} {i O:Nat} {o:AO} {q:Loc} (hi:aD i cm=true) (M:r' i=some q) (hle:r.le r') (hr:HR P G r T h w) {k:Nat} (L:Fr g r' ⟨h.t.set i o,O⟩ k):k=q.ak∨Fr g r h k:=by
 obtain ⟨j,I,q',J,A,C,rfl⟩:=L;rw [Tr.kE _ _ _ _ hi] at A;split at A
 · rename_i e; subst e; rw [M] at C; cases C; exact .inl rfl
 · obtain ⟨V,E,_⟩:=hr.live j I A;have :=hle _ _ E;rw [C] at this; cases this;exact .inr ⟨j,I,_,J,A,E,U⟩
def YM (P:au) (G:Nat) (r:Rn) (T:Nat) (N:Fm) (σ:Nat→ag) (o:aB) (h:Hp) (w:ah) (v:AV) (h':Hp):Prop :=
 ∃ r' u w',den r' v=some u∧((execOp (ev N σ) o).run P w= .ok (.value u) w'∨(execOp (ev N σ) o).run P w= .ok .skip w'∧u=undef)∧St P G T r h w r' h' w'
def cV (h:Hp) (o:AO):Option Hp:=cond (aD h.nx cm) (some ⟨h.t.set h.nx o,h.nx+1⟩) none
theorem IE (w:ah) (ob:Obj) (F:Nat→Prop):Md F w {w with heap:=w.heap.push ob} :=
 ⟨rfl,rfl,by simp,fun k A _=>by simp only [tK]; rw [if_neg ab]⟩
theorem HR.cV (hr:HR P G r T h w) {o:AO} {h':Hp} (hn:cV h o=some h') (hT:h'.nx≤T) (room:Nat) {w':ah} {ob:Obj} (C:w'.heap=w.heap.push ob) (V:w'.os=w.os) (Z:w'.output=w.output) (U:∀ r',r.le r'→r' h.nx=some ⟨w.heap.size,0,room⟩→OR P r' ⟨w.heap.size,0,room⟩ o (some ob)):
 ∃ r',r' h.nx=some ⟨w.heap.size,0,room⟩∧St P G T r h w r' h' w':=by
 unfold Hb.cV at hn;replace hn:=aY hn; obtain ⟨E,hn⟩:=hn;cases hn;simp only at hT;have hle:=Rn.qk (i:=h.nx) ⟨w.heap.size,0,room⟩<|hr.new h.nx (aQ _) ab;have I:∀ k,k < w.heap.size→w'.heap[k]? =w.heap[k]? :=fun k A=>by rw [C,tK,if_neg ab]
 refine ⟨r.ext h.nx ⟨w.heap.size,0,room⟩,Rn.gI _ _ _,hle,hr.put hle E (Rn.gI _ _ _) ?_ (fun k _ O=>I k O) (fun j ad q' ac L aa=> ?_) (lD _) (fun k A M=> ?_),lD _,⟨V,Z,by rw [C]; simp,fun k A _=>I k A⟩,fun g _ k A J=> ?_,fun k A=>Rn.jy _ _<|by simp only at A; omega⟩
 · rw [C]; simp only [tK,if_true]; exact U _ hle<|Rn.gI _ _ _
 · have :=hr.lt L aa; simp only; omega
 · rw [Rn.jy _ _ ab]; exact hr.new k ab M
 · rcases Fr.set E (Rn.gI _ _ _) hle hr J with h1 | h1
   · simp only at h1; omega
   · exact h1
theorem wz {r':Rn} {l:List AV} {us:List ag} {e b:Nat} (A:aI r' l=some us) (h1:dS l=true):OR P r' ⟨b,0,0⟩ (.cells l e 0 .x) (some<|.cells us.toArray e (0,0)):=
 ⟨us.toArray,(0,0),us,rfl,A,by simp [db A],fun j u C=>by simpa using C,aQ _,oG A h1,⟨fun _=>⟨rfl,by simp [db A],rfl⟩,fun _=>rfl⟩,fun s _=>by simp⟩
variable {N:Fm} {σ:Nat→ag} {dst:Option Nat} {ty:av} {pos :String} {af:Array bT} {g:Option (Nat×Bool)} {x y z:aW}
theorem YM.new (hr:HR P G r T h w) {o:aB} {l:List AV} {us:List ag} {e:Nat} {h':Hp} {v:AV} {f:Nat→ag} (hn:Hb.cV h (.cells l e 0 .x)=some h') (hT:h'.nx≤T) (A:aI r l=some us) (h1:dS l=true)
 (I:(execOp (ev N σ) o).run P w= .ok (.value<|f w.heap.size) {w with heap:=w.heap.push<|.cells us.toArray e (0,0)}) (J:∀ r':Rn,r' h.nx=some ⟨w.heap.size,0,0⟩→den r' v=some (f w.heap.size)):YM P G r T N σ o h w v h':=by
 obtain ⟨r',C,E⟩:=hr.cV hn hT 0 (w':= {w with heap:=w.heap.push<|.cells us.toArray e (0,0)}) rfl rfl rfl fun r' hle _=>wz (gY hle A) h1;exact ⟨r',_,_,J r' C,.inl I,E⟩
theorem HR.kQ (hr:HR P G r T h w) {i:Nat} {o J:AO} {q:Loc} {w':ah} (hi:h.t.get i=some J) (hb:aD i cm=true) (C:r i=some q) (L:G≤i) (V:OR P r q o w'.heap[q.ak]?) (hm:Md (fun k=>k=q.ak) w w'):
 St P G T r h w r ⟨h.t.set i o,h.nx⟩ w':=by
 have I:∀ g,g≤G→Fr g r h q.ak:=fun g A=>⟨i,J,q,cS A L,hi,C,rfl⟩
 refine ⟨Rn.le_refl r,hr.put (Rn.le_refl r) hb C V (fun k E U=>hm.dH k U E) (fun j Z aa O A h1 he=>O<|hr.inj j i _ _ _ _ A hi h1 C he) (aQ _) hr.new,aQ _,hm.mono fun k _ E=>by rw [E]; exact I G (aQ _),fun g A k _ M=> ?_,fun _ _=>rfl⟩;rcases Fr.set hb C (Rn.le_refl r) hr M with h1 | h1
 · rw [h1]; exact I g A
 · exact h1
end
end Go.Hb
namespace Go.Hb
def mS (x v:AV):List (AV×AV)→List (AV×AV)
 | []=> [(x,v)]
 | p::l=>cond (fX p.1 x) ((p.1,v)::l) (p::mS x v l)
def AZ:KK→Bool
 | .bs=>false
 | _=>true
def oL (P:au) (t:av) (b:Nat) (k v:AV) (h:Hp):Option Hp:=match h.t.get b with
 | some (.map l)=>match P.underlying t with
   | some (.map C e)=>match mT P C k with
     | some A=>cond (aD b cm && (bf h.nx b==false) && (dD A k && eZ A l) && (AZ A || (lT k l).isNone)) (some ⟨h.t.set b (.map<|mS k v l),h.nx⟩) none
     | none=>none
   | _=>none
 | _=>none
section
variable {P:au} {G:Nat} {r:Rn} {T:Nat} {h:Hp} {w:ah}
theorem Bi {x v:AV} {kx u:ag} {C:KK} (J:dD C x=true) (A:den r x=some kx) (I:den r v=some u) {m:MapEntry} (kF:m.key=kx) (E:m.val=u):∀ {l:List (AV×AV)} {es:List MapEntry},fZ r l es→eZ C l=true→(∀ e∈es,e.key≠kx)→fZ r (mS x v l) (es++ [m])
 | [],[],_,_,_=>⟨by rw [kF]; exact A,by rw [E]; exact I,trivial⟩
 | [],_::_,hm,_,_=>hm.elim
 | _::_,[],hm,_,_=>hm.elim
 | q::l,e::es,hm,hk,hn=>by
   simp only [eZ] at hk;cases h1:dD C q.1
   · rw [h1] at hk; cases hk
   · rw [h1] at hk;have he:fX q.1 x=false :=by
      cases hq:fX q.1 x
      · rfl
      · exact absurd ((kK h1 J hm.1 A).1 hq)<|hn e gS
     simp only [mS,he,cond_false];exact ⟨hm.1,hm.2.1,Bi J A I kF E hm.2.2 hk fun e he=>hn e<|gR _ he⟩
theorem Bj {x v:AV} {kx u:ag} {A:KK} (E:dD A x=true) (C:den r x=some kx) (J:den r v=some u) {f:MapEntry→MapEntry} (I:∀ e,e.key=kx→(f e).key=kx∧(f e).val=u):∀ {l:List (AV×AV)} {es:List MapEntry} {j:Nat} {e':MapEntry},fZ r l es→eZ A l=true→
 es[j]? =some e'→e'.key=kx→(es.map fun e=>e.key).Nodup→fZ r (mS x v l) (es.modify j f)
 | [],[],j,e',_,_,hj,_,_=>by simp at hj
 | [],_::_,_,_,hm,_,_,_,_=>hm.elim
 | _::_,[],_,_,hm,_,_,_,_=>hm.elim
 | q::l,e::es,0,e',hm,hk,hj,hk',_=>by
   simp only [eZ] at hk;cases h1:dD A q.1
   · rw [h1] at hk; cases hk
   · simp only [iK,bM] at hj;subst hj;simp only [mS,(kK h1 E hm.1 C).2 hk',cond_true];obtain ⟨L,M⟩:=I e hk';exact ⟨by show den r q.1=some (f e).key; rw [hm.1,L,hk'],by show den r v=some (f e).val; rw [M]; exact J,hm.2.2⟩
 | q::l,e::es,j+1,e',hm,hk,hj,hk',hn=>by
   simp only [eZ] at hk;cases h1:dD A q.1
   · rw [h1] at hk; cases hk
   · rw [h1] at hk;simp only [iJ] at hj;simp only [gn,ud] at hn;have he:fX q.1 x=false :=by
      cases hq:fX q.1 x
      · rfl
      · have :=(kK h1 E hm.1 C).1 hq;exact absurd (mh.2 ⟨e',mi hj,hk'.trans this.symm⟩) hn.1
     simp only [mS,he,cond_false];exact ⟨hm.1,hm.2.1,Bj E C J I hm.2.2 hk hj hk' hn.2⟩
theorem H6 {k:av} {a:AV} {A:KK} (h:mT P k a=some A) (E:AZ A=true):∀ w v,oA A v→(qV v v).run P w= .ok v w:=by
 unfold mT at h;split at h
 · replace h:=aY h; obtain ⟨C,h⟩:=h;cases h;exact (AT<|lQ C).stays
 · split at h
   · cases h; exact (AS<|by assumption).stays
   · cases h
 · replace h:=aY h; obtain ⟨C,h⟩:=h;cases h;cases E
 · cases h
theorem BQ (hr:HR P G r T h w) {t:av} {b:Nat} {k v:AV} {h':Hp} {q:Loc} {kx u:ag} (O:G≤b) (hp:oL P t b k v h=some h') (M:r b=some q) (E:den r k=some kx) (aj:den r v=some u):
 ∃ w',(ye t (.map<|some q.ak) kx u).run P w= .ok () w'∧St P G T r h w r h' w':=by
 unfold oL at hp;split at hp
 · rename_i l hb;split at hp
   · rename_i aw e ai;split at hp
     · rename_i ar ac;replace hp:=aY hp; obtain ⟨aa,hp⟩:=hp;simp only [a0] at aa;obtain ⟨⟨⟨Z,_⟩,hka,hkl⟩,hstay⟩:=aa;cases hp;obtain ⟨q',es,c,ah,hw,hm,hn⟩:=hr.map hb;rw [M] at ah; cases ah;have J:=vO ac;have hi:=sr hka E;have am:∀ e∈es.toList,oA ar e.key:=r5 rfl (sA hm hkl);have ad:=(dm.1 hw).1;rcases J.find w kx es.toList hi am with ⟨h1,ae⟩ | ⟨j,e',h1,C,A⟩
       · refine ⟨{w with heap:=w.heap.setIfInBounds q.ak<|.map (es.push {key:=kx,val:=u,born:=c})<|c+1},by simp [ye,bt ai,run_getObj_map hw,J.check _ w kx hi,h1,setObj,ln,hw],?_⟩;refine hr.kQ hb Z M O ?_ ⟨U,U,by simp,fun i _ L=>by simp only; rw [xZ (fun e=>L e.symm)]⟩;refine ⟨_,_,by simp only; rw [x7 ad],?_,?_⟩
         · simp only [DB];exact Bi hka E aj U U hm hkl ae
         · simp only [DB,iM,gn,List.map_nil];rw [List.nodup_append];refine ⟨hn,by simp,?_⟩;intro a ha au V al;simp at V;subst al V;obtain ⟨p,hp,aq⟩:=mh.1 ha;exact ae p hp aq
       · have ap:(qV kx kx).run P w= .ok kx w:=by
          rcases DF.1 hstay with I | I
          · exact H6 ac I w kx hi
          · exfalso;cases hg:lT k l with
            | none=>exact vN hka E hm hkl hg e'.val<|by rw [← A]; exact mh.2 ⟨e',mi C,rfl⟩
            | some v=>rw [hg] at I; cases I
         have ao:es[j]? =some e':=by simpa using C
         refine ⟨{w with heap:=w.heap.setIfInBounds q.ak<|.map (es.modify j fun e=> {e with key:=kx,val:=u}) c},?_,?_⟩
         · simp [ye,bt ai,run_getObj_map hw,J.check _ w kx hi,h1,ao,A,ap,setObj,ln,hw]
         · refine hr.kQ hb Z M O ?_ ⟨U,U,by simp,fun i _ L=>by simp only; rw [xZ (fun e=>L e.symm)]⟩;refine ⟨_,_,by simp only; rw [x7 ad],?_,?_⟩
           · rw [DA];exact Bj hka E aj (fun e _=>⟨U,U⟩) hm hkl C A hn
           · rw [DA];have :(es.toList.modify j fun e=> {e with key:=kx,val:=u}).map (fun e=>e.key)=es.toList.map fun e=>e.key:=by
              apply pq;intro i;simp only [fq,List.getElem?_modify];by_cases ab:j=i
              · subst ab; rw [C]; simp [A]
              · simp [ab]
             rw [this]; exact hn
     · cases hp
   · cases hp
 · cases hp
end
def ka (A:List AV):Nat→List AV
 | 0=> []
 | n+1=>A++ka A n
def qH (P:au) (G:Nat) (t:av) (b o:Nat) (v:AV) (h:Hp):Option Hp:=match h.t.get b with
 | some (.cells l e fz ex)=>match cC P t with
   | some n=>cond ((aN (kv v).length n && bf (o+n) l.length) && (bf fz o && (dS (kv v) && (bf G b && aD b cm)))) (some ⟨h.t.set b (.cells (l.take o++(kv v++l.drop (o+n))) e fz ex),h.nx⟩) none
   | none=>none
 | _=>none
def oX (P:au) (t:av):Option (Nat×Nat×Nat×List AV):=match P.underlying t with
 | some (.slice e)=>match P.info? e with
   | some i=>match i.zero with
     | some z=>match j5 (iY 4) z.cells.toList with
       | some A=>cond (aN A.length i.size && (aD 0 i.size && dS A)) (some (e,i.size,i.bytes,A)) none
       | none=>none
     | none=>none
   | none=>none
 | _=>none
def oI (P:au) (G:Nat) (o:Op) (xs:List AV) (h:Hp):Option (AV×Hp):=match o with
 | .alloc e=>match zeroOf P e with
   | some (some A)=>match j5 (iY 4) A with
     | some l=>cond (dS l) (match cV h (.cells l e 0 .x) with
       | some h'=>some (.ptr h.nx 0,h')
       | none=>none) none
     | none=>none
   | _=>none
 | .box e _=>match xs with
   | [x]=>cond (dS<|kv x) (match cV h (.cells (kv x) e 0 .x) with
     | some h'=>some (.ptr h.nx 0,h')
     | none=>none) none
   | _=>none
 | .makeMap _ none=>match cV h (.map []) with
   | some h'=>some (.map h.nx,h')
   | none=>none
 | .buildSlice t n ⟨ps⟩=>match oX P t with
   | some (e,s,_,A)=>cond (bf (n*s) 16777216) (match mN (fun i=>some (i*s,s)) (ka A n) (lj ps xs) with
     | some l=>cond (dS l) (match cV h (.cells l e 0 .x) with
       | some h'=>some (.sl h.nx 0 n n true,h')
       | none=>none) none
     | none=>none) none
   | none=>none
 | .makeSlice t _ _=>match xs with
   | [.int .i64 (.ofNat n),.int .i64 (.ofNat c)]=>match oX P t with
     | some (e,s,by_,A)=>cond (bf n c && (bf (by_*c) 281474976710656 && aD c 9223372036854775808)) (match cV h (.cells (ka A c) e 0 .x) with
       | some h'=>some (.sl h.nx 0 n c true,h')
       | none=>none) none
     | none=>none
   | _=>none
 | .store t _ _=>match xs with
   | [.ptr b o,v]=>match qH P G t b o v h with
     | some h'=>some (.bV [],h')
     | none=>none
   | _=>none
 | .mapUpdate t _ _ _=>match xs with
   | [.map b,k,v]=>cond (bf G b) (match oL P t b k v h with
     | some h'=>some (.bV [],h')
     | none=>none) none
   | _=>none
 | .insert t _ _ _=>match xs with
   | [.map b,k,v]=>cond (bf G b) (match oL P t b k v h with
     | some h'=>some (.bV [],h')
     | none=>none) none
   | _=>none
 | _=>none
section
variable {P:au} {G:Nat} {r:Rn} {T:Nat} {h:Hp} {w:ah} {N:Fm} {σ:Nat→ag} {dst:Option Nat} {ty:av} {pos :String} {af:Array bT} {g:Option (Nat×Bool)} {x y z:aW}
theorem ir (r:Rn):den r (.bV [])=some undef:=by simp [den,aI]; rfl
theorem sQ {r:Rn} {A:List AV} {Z:List ag} (h:aI r A=some Z):∀ n,aI r (ka A n)=some ((cZ n Z).flatten)
 | 0=>by simp [ka,aI]
 | n+1=>by simp only [ka,Ex,Ek]; exact fi h<|sQ h n
theorem BC:∀ {l m:List AV},dS l=true→dS m=true→dS (l++m)=true
 | [],m,_,h=>h
 | a::l,m,h,h'=>by
   simp only [dS,List.cons_append] at h ⊢;cases ha:sF a
   · rw [ha] at h; cases h
   · rw [ha] at h; exact BC h h'
theorem wQ {A:List AV} (h:dS A=true):∀ n,dS (ka A n)=true
 | 0=>rfl
 | n+1=>BC h<|wQ h n
theorem wN (Z:Array ag) (A:0 < Z.size):∀ n,(ll<|n*Z.size).map (Z[· % Z.size]!)=((cZ n Z.toList).flatten).toArray:=by
 intro n;apply qS.1;simp only [iH,Array.toList_range]
 induction n with
 | zero=>simp
 | succ n ih=>
   rw [Nat.succ_mul,uf,List.range_add,iM,Ex,Ek,tX];congr 1
   · apply pq;intro i;simp only [fq];by_cases hi:i < Z.size
     · rw [List.getElem?_range hi,fu,Nat.mod_eq_of_lt hi];rw [getElem!_pos Z i hi];simp [hi]
     · rw [gF (by simp; omega),gF (by simp; omega)]; rfl
   · rw [← ih];apply List.map_congr_left;intro i _;simp
theorem tl {r:Rn} {t e s E:Nat} {C:List AV} (h:oX P t=some (e,s,E,C)):∃ i z,P.underlying t=some (.slice e)∧P.info? e=some i∧i.zero=some z∧i.size=s∧i.bytes=E∧z.cells.size=s∧0 < s∧aI r C=some z.cells.toList∧dS C=true∧C.length=s:=by
 unfold oX at h;split at h
 · rename_i e' hu;split at h
   · rename_i i hi;split at h
     · rename_i z L;split at h
       · rename_i O M;replace h:=aY h; obtain ⟨A,h⟩:=h;simp only [a0] at A;cases h;have I:=oE (r:=r) (fun v a=>l4 4) M;have J:=bO A.1;have :=db I;exact ⟨i,z,hu,hi,L,U,U,by rw [← lk]; omega,cB.1 A.2.1,I,A.2.2,J⟩
       · cases h
     · cases h
   · cases h
 · cases h
theorem KB (hr:HR P G r T h w) {t b o:Nat} {v:AV} {h':Hp} {u:ag} (A:qH P G t b o v h=some h') (ax:den r v=some u) (ay:den r (.ptr b o)=some (ev N σ x)) (az:ev N σ y=u):YM P G r T N σ ⟨dst,.store t x y,ty,pos,af,g⟩ h w (.bV []) h':=by
 unfold qH at A;split at A
 · rename_i l e fz ex hb;split at A
   · rename_i n hn;replace A:=aY A; obtain ⟨ae,A⟩:=A;simp only [a0] at ae;obtain ⟨⟨I,c2⟩,c3,c4,J,c6⟩:=ae;have I:=bO I;have c2:=bP c2;have c3:=bP c3;have J:=bP J;cases A;obtain ⟨q,ai,c,fr,us,h1,M,aB,aa,ap,ac,ad,aq⟩:=hr.live b _ hb;obtain ⟨q',aj,hu⟩:=iu ay;rw [ai] at aj; cases aj;have V:=uH ax;have av:=db V;have aD:=db M;have ah:=oG V c4;have hlen:u.cells.toList.length=n:=by rw [av,I]
     have bo:=run_storeCells_atF P q.ak (q.sh+o) e fr u.cells.toList 0 c w h1 ab ab ah;unfold cC at hn;simp only [gG] at hn;obtain ⟨i,hi,A⟩:=hn;have aw:u.cells.size=n:=by rw [← lk,hlen]
     obtain ⟨L,O⟩:∃ L,c.toList.take (q.sh+o+0)++u.cells.toList++c.toList.drop (q.sh+o+0 +u.cells.toList.length)=L:=⟨_,rfl⟩
     rw [O] at bo;have aC:L.length=c.size:=by rw [← O]; simp; omega
     have ar:∀ k,L[k]? =if k < q.sh+o then c[k]? else if k < q.sh+o+n then u.cells.toList[k - (q.sh+o)]? else c[k]? :=by
      intro k;rw [← O,lC];by_cases E:k < q.sh+o
      · rw [if_pos E,kq,fJ (by simp; omega),iL,if_pos E]; simp
      · rw [if_neg E];by_cases Z:k < q.sh+o+n
        · rw [if_pos Z,fJ (by simp; omega),gk (by simp; omega)];congr 1; simp; omega
        · rw [if_neg Z,gk (by simp; omega),ik];simp only [cz,dB,lk,o9];congr 1; omega
     refine ⟨r,undef,w.setRow q.ak L.toArray,ir r,.inr ⟨?_,U⟩,?_⟩
     · simp [execOp,Instr.storeAt,hu,az,Instr.sureAddr,storeVar,sizeOf,de hi,A,aw,bo]
     · refine hr.kQ hb c6 ai J ?_ ⟨U,U,by simp,fun k _ au=>setRow_other w q.ak k _ au⟩;rw [setRow_heap w q.ak _ _ e _ h1];refine ⟨L.toArray,fr,us.take o++(u.cells.toList++us.drop (o+n)),U,fi (iS o M) (fi V<|jt (o+n) M),?_,fun j a C=> ?_,ap,?_,⟨fun hex=> ?_,ad.2⟩,fun s A=> ?_⟩
       · simp only [cz,dB,ji,eB]; omega
       · rw [lA,ar];by_cases E:j < o
         · rw [fJ (by simp; omega),iL,if_pos E] at C;rw [if_pos ab]; exact aa _ _ C
         · rw [gk (by simp; omega)] at C;rw [if_neg ab];have al:(us.take o).length=o:=by simp; omega
           rw [al] at C;by_cases Z:j < o+n
           · rw [fJ ab] at C;rw [if_pos ab,show q.sh+j - (q.sh+o)=j - o from by omega]; exact C
           · rw [gk ab,ik,hlen] at C;rw [if_neg ab];refine aa j a ?_;rw [← C]; congr 1; omega
       · intro a ha;rcases eA.1 ha with ha | ha
         · exact ac a<|ua ha
         · rcases eA.1 ha with ha | ha
           · exact ah a ha
           · exact ac a<|tZ ha
       · obtain ⟨am,aA,ao⟩:=ad.1 hex;refine ⟨am,?_,ao⟩;simp only [cz,dB,ji,eB]; omega
       · have :=aq s A;simp only [eB]; omega
   · cases A
 · cases A
end
end Go.Hb
namespace Go.Hb
section
variable {P:au} {G:Nat} {r:Rn} {T:Nat} {h:Hp} {w:ah} {N:Fm} {σ:Nat→ag} {dst:Option Nat} {ty:av} {pos :String} {af:Array bT} {g:Option (Nat×Bool)} {x y z:aW}
theorem zI {r':Rn} {i b room n c:Nat} (hi:r' i=some ⟨b,0,room⟩) (hn:n≤c):den r' (.sl i 0 n c true)=some (.slice (some ⟨b,0,none⟩) n c):=by
 rw [lN hi hn]
theorem He {t e s n:Nat} {A L:List AV} {Z:ag} {ps:List (Nat×aW)} {xs:List AV} (aa:0 < s) (V:Z.cells.size=s) (U:aI r A=some Z.cells.toList) (M:mN (fun i=>some (i*s,s)) (ka A n) (lj ps xs)=some L) (J:aI r xs=some ((ps.map (·.2)).map<|ev N σ)):
 ∃ C,aI r L=some C∧iI (fun i=>some (i*s,s)) ((ll<|n*s).map (Z.cells[· % Z.cells.size]!)) (ps.map fun p=>(p.1,ev N σ p.2))=some C.toArray:=by
 obtain ⟨h1,E⟩:=xX (f:=ev N σ) J;obtain ⟨C,I,O⟩:=vk M (sQ U n) h1 E;refine ⟨C,I,?_⟩;rw [← O];congr 1;have :=wN Z.cells ab n;rw [V] at this ⊢;exact this
theorem I5 (hr:HR P G r T h w) {o:Op} {xs:List AV} {v:AV} {h':Hp} (A:oI P G o xs h=some (v,h')) (hT:h'.nx≤T) (O:aI r xs=some ((gh o).map<|ev N σ)):YM P G r T N σ ⟨dst,o,ty,pos,af,g⟩ h w v h':=by
 unfold oI at A;split at A
 · rename_i e;split at A
   · rename_i ao M;split at A
     · rename_i l ax;replace A:=aY A; obtain ⟨E,A⟩:=A;split at A
       · rename_i J hn;cases A;have av:=oE (r:=r) (fun v a=>l4 4) ax;unfold zeroOf at M;simp only [gG] at M;obtain ⟨i,hi,zv,aE,rfl⟩:=M;refine YM.new hr (f:=fun b=> .pointer<|some ⟨b,0,none⟩) hn hT av E ?_ fun r' I=>by simp only [den,I]
         simp [execOp,tP,zeroValue,de hi,aE,newVar,newRow]
       · cases A
     · cases A
   · cases A
 · rename_i e _;split at A
   · rename_i x;replace A:=aY A; obtain ⟨E,A⟩:=A;split at A
     · rename_i J hn;cases A;have h1:=eF O;refine YM.new hr (f:=fun b=> .pointer<|some ⟨b,0,none⟩) hn hT (uH h1) E ?_ fun r' I=>by simp only [den,I]
       simp [execOp,Instr.box,newVar,newRow]
     · cases A
   · cases A
 · split at A
   · rename_i J hn;cases A;obtain ⟨r',az,I⟩:=hr.cV hn hT 0 (w':= {w with heap:=w.heap.push<|.map #[] 0}) rfl rfl rfl fun r' hle _=>⟨#[],0,rfl,trivial,by simp⟩
     refine ⟨r',.map (some w.heap.size),_,by simp only [den,az],.inl ?_,I⟩;simp [execOp,Instr.makeMap]
   · cases A
 · rename_i t n ps;split at A
   · rename_i e s ap ao M;replace A:=aY A; obtain ⟨E,A⟩:=A;have E:=bP E;split at A
     · rename_i l aw;replace A:=aY A; obtain ⟨h1,A⟩:=A;split at A
       · rename_i J hn;cases A;obtain ⟨i,zv,hu,hi,ae,rfl,rfl,V,ak,ah,am,aD⟩:=tl (r:=r) M;obtain ⟨C,au,aa⟩:=He (N:=N) (σ:=σ) (t:=t) (e:=e) ak V ah aw O;refine YM.new hr (f:=fun b=> .slice (some ⟨b,0,none⟩) n n) hn hT au h1 ?_ fun r' I=>zI I<|aQ _;have aF:(ps.toArray.map fun p=>(p.1,ev N σ p.2)).toList=ps.map fun p=>(p.1,ev N σ p.2):=by simp
         by_cases aj:n*i.size=0
         · have ay:n=0:=by rcases Nat.mul_eq_zero.1 aj with h | h; exact h; omega
           subst ay;have ai:∀ f:Nat→ag,Array.map f (ll 0)= #[]:=fun f=>Array.eq_empty_of_size_eq_zero<|by simp
           rw [uj,ai] at aa;simp [execOp,qU,bt hu,sizeOf,de hi,ai,aa,newRow]
         · simp only [execOp,qU,ij,bt hu,gQ,sizeOf,de hi,ko,Sem.run_ite,zeroValue,ae,iH,aa];rw [if_neg (by rw [show (2:Nat) ^ 24=16777216 from rfl]; omega),if_neg aj];simp [newRow]
       · cases A
     · cases A
   · cases A
 · rename_i t _ _;split at A
   · rename_i n c;split at A
     · rename_i e s ap ao M;replace A:=aY A; obtain ⟨E,A⟩:=A;simp only [a0] at E;have aq:=bP E.1;have c2:=bP E.2.1;have c3:=cB.1 E.2.2;split at A
       · rename_i J hn;cases A;obtain ⟨i,zv,hu,hi,ae,rfl,rfl,V,ak,ah,am,aD⟩:=tl (r:=r) M;have al:=run_make (P:=P) w t e i zv hu hi ae .i64 .i64 n c ab ab (by rw [← Int.natCast_mul]; omega) ab;have ar:madeCells zv.cells (c*i.size)=((cZ c zv.cells.toList).flatten).toArray:=by
          have :=wN zv.cells ab c;rw [V] at this;rw [← this]; unfold madeCells; rw [V]
         rw [po,po,ar] at al;refine YM.new hr (f:=fun b=> .slice (some ⟨b,0,none⟩) n c) hn hT (sQ ah c) (wQ am c) ?_ fun r' I=>zI I aq;obtain ⟨h1,L⟩:=gX O;have aB:=cP h1;have aC:=cP L;simp [execOp,aB,aC,al]
       · cases A
     · cases A
   · cases A
 · split at A
   · split at A
     · rename_i J aA;cases A;obtain ⟨h1,L⟩:=gX O;exact KB hr aA L h1 U
     · cases A
   · cases A
 · split at A
   · replace A:=aY A; obtain ⟨E,A⟩:=A;split at A
     · rename_i J hp;cases A;obtain ⟨h1,L,Z⟩:=lM O;obtain ⟨q,ac,hu⟩:=mH h1;obtain ⟨w',ad,I⟩:=BQ hr (bP E) hp ac L Z;exact ⟨r,undef,w',ir r,.inr ⟨by simp [execOp,hu,ad],U⟩,I⟩
     · cases A
   · cases A
 · split at A
   · replace A:=aY A; obtain ⟨E,A⟩:=A;split at A
     · rename_i J hp;cases A;obtain ⟨h1,L,Z⟩:=lM O;obtain ⟨q,ac,hu⟩:=mH h1;obtain ⟨w',ad,I⟩:=BQ hr (bP E) hp ac L Z;exact ⟨r,undef,w',ir r,.inr ⟨by simp [execOp,hu,ad],U⟩,I⟩
     · cases A
   · cases A
 · cases A
end
end Go.Hb
namespace Go.Hb
def tA:List UInt8→List AV
 | []=> []
 | c::l=> .int .u8 (kp c.toNat)::tA l
def pP (o:Nat):Ck→Ck
 | .a=> .a
 | _=>match o with
   | 0=> .z
   | _=> .a
theorem zh {o:Nat} {e:Ck} :pP o e≠.x:=by
 cases e <;> simp only [pP] <;> first | (intro h; cases h; done) | (split <;> intro h <;> cases h)
theorem FQ {o:Nat} {e:Ck} (h:pP o e≠.a):e≠.a∧o=0:=by
 cases e with
 | a=>exact absurd rfl h
 | _=>
   refine ⟨fun h=>(by cases h),?_⟩;simp only [pP] at h;split at h
   · rfl
   · exact absurd U h
def xA (P:au) (s:Nat) (A:av) (x:AV) (h:Hp):Option (Nat×List AV):=match x with
 | .sl b o n _ _=>match h.t.get b with
   | some (.cells l _ _ _)=>cond (jB P A && bf (o+n*s) l.length) (some (n,(l.drop o).take (n*s))) none
   | _=>none
 | .an=>cond (jB P A) (some (0,[])) none
 | .str l=>cond (isStr P A && aN s 1) (some (l.length,tA l)) none
 | _=>none
def uz (P:au) (G:Nat) (t C:av) (A E:AV) (h:Hp):Option (AV×Hp):=match oX P t with
 | some (e,s,by_,_)=>match xA P s C E h with
   | some (m,news)=>cond (dS news) (match A with
     | .an=>match m with
       | 0=>some (.an,h)
       | _=>cond (bf (m*by_) 140737488355328 && bf m 1000000000) (match cV h (.cells news e 0 .z) with
         | some h'=>some (.sl h.nx 0 m 0 false,h')
         | none=>none) none
     | .sl b o n c x=>match m with
       | 0=>some (.sl b o n c x,h)
       | _=>match h.t.get b with
         | some (.cells l e' fz ex)=>cond ((aN e e' && (bf ((n+m)*by_) 140737488355328 && bf (n+m) 1000000000)) && (bf (o+n*s) l.length && (bf G b && aD b cm)))
           (cond x (cond (bf (n+m) c)
            (cond (bf (o+(n+m)*s) l.length && bf fz (o+n*s)) (some (.sl b o (n+m) c true,⟨h.t.set b (.cells (l.take (o+n*s)++(news++l.drop (o+(n+m)*s))) e fz ex),h.nx⟩)) none)
            (match cV h (.cells ((l.drop o).take (n*s)++news) e 0 .z) with
             | some h'=>some (.sl h.nx 0 (n+m) 0 false,h')
             | none=>none))
            (cond (aN o (c*s) && bf fz (o+n*s)) (match cV ⟨h.t.del b,h.nx⟩ (.cells ((l.drop o).take (n*s)++news) e (fz - o)<|pP o ex) with
             | some h'=>some (.sl h.nx 0 (n+m) 0 false,h')
             | none=>none) none)) none
         | _=>none
     | _=>none) none
   | none=>none
 | none=>none
section
variable {P:au} {G:Nat} {r:Rn} {T:Nat} {h:Hp} {w:ah} {N:Fm} {σ:Nat→ag} {dst:Option Nat} {ty:av} {pos :String} {af:Array bT} {g:Option (Nat×Bool)} {x y z:aW}
theorem C3:∀ l:List UInt8,aI r (tA l)=some (U8 l)
 | []=>by simp [tA,aI,U8]
 | c::l=>dM rfl (C3 l)
theorem Km (hr:HR P G r T h w) {s m:Nat} {M:av} {x:AV} {news:List AV} {u:ag} (he:xA P s M x h=some (m,news)) (h1:dS news=true) (hu:den r x=some u):∃ N,aI r news=some N∧Src P s M u m N w:=by
 unfold xA at he;split at he
 · rename_i b o n V Z;split at he
   · rename_i l _ _ _ hb;replace he:=aY he; obtain ⟨A,he⟩:=he;simp only [a0] at A;cases he;obtain ⟨q,us,U,J,O,_⟩:=hr.cells hb;obtain ⟨q',cap,L,hn,rfl,_⟩:=iw hu;rw [U] at L; cases L;obtain ⟨e',E⟩:=qh A.1;have hle:=bP A.2;have hlen:=db J;have I:=iS (m*s)<|jt o J;refine ⟨_,I,Src.ofSlice w E _ _ _ _ (by simp; omega) (fun j u C=> ?_)<|oG I h1⟩;rw [fP,js,iN];rw [iL] at C;split at C
     · rw [ik] at C; exact O _ _ C
     · cases C
   · cases he
 · replace he:=aY he; obtain ⟨A,he⟩:=he;cases he;obtain rfl :=hH hu;obtain ⟨e',E⟩:=qh A;exact ⟨[],by simp [aI],Src.ofNil w E 0⟩
 · replace he:=aY he; obtain ⟨A,he⟩:=he;simp only [a0] at A;cases he;obtain rfl :=gH hu;obtain rfl :=bO A.2;exact ⟨_,C3 _,Src.ofString w (lQ A.1) ⟨⟨_⟩⟩⟩
 · cases he
theorem yR {t J ty e:av} {i:TypeInfo} (I:P.underlying t=some (.slice e)) (hi:P.info? e=some i) {x:ag} {news:List ag} (A:Src P i.size J x 0 news w) {base:Option Addr} {n c:Nat} (hn:n≤c):
 (jO #[t,J] ty #[.slice base n c,x]).run P w= .ok (.slice base n c) w:=by
 have L:news= []:=lz<|by rw [A.newsLen]; simp
 subst L;have E:=A.cells;cases base with
 | none=>rcases A.kind with ⟨e',C⟩ | C <;> simp [jO,run_underlying I,run_underlying C,sizeOf,typeInfo,hi,A.len,hn,E]
 | some a=>rcases A.kind with ⟨e',C⟩ | C <;> simp [jO,run_underlying I,run_underlying C,sizeOf,typeInfo,hi,A.len,hn,E,storeCells]
theorem yS {t E ty e:av} {i:TypeInfo} (I:P.underlying t=some (.slice e)) (hi:P.info? e=some i) {x:ag} {m:Nat} {news:List ag} (A:Src P i.size E x m news w) {b off n c:Nat} {cur:Array ag} {fz:Nat×Nat} (hn:n+m≤c)
 (hb:w.heap[b]? =some (.cells cur e fz)) (J:fz.2≤off+n*i.size) (L:off+n*i.size+news.length≤cur.size):
 (jO #[t,E] ty #[.slice (some ⟨b,off,none⟩) n c,x]).run P w= .ok (.slice (some ⟨b,off,none⟩) (n+m) c) (w.setRow b (cur.toList.take (off+n*i.size)++news++cur.toList.drop (off+n*i.size+news.length)).toArray):=by
 have bo:=run_storeCells_atF P b (off+n*i.size) e fz news 0 cur w hb ab ab A.one;simp only [lC] at bo;rcases A.kind with ⟨e',C⟩ | C <;> simp [jO,run_underlying I,run_underlying C,sizeOf,typeInfo,hi,A.len,hn,A.cells,Addr.add_lit,bo]
theorem xe (L X:List ag) (a:Nat) (h:a+X.length≤L.length) (k:Nat):(L.take a++X++L.drop (a+X.length))[k]? =if k < a then L[k]? else if k < a+X.length then X[k - a]? else L[k]? :=by
 by_cases A:k < a
 · rw [if_pos A,kq,fJ (by simp; omega),iL,if_pos A]
 · rw [if_neg A];by_cases C:k < a+X.length
   · rw [if_pos C,fJ (by simp; omega),gk (by simp; omega)];congr 1; simp; omega
   · rw [if_neg C,gk (by simp; omega),ik];simp only [cz,dB];congr 1; omega
theorem yQ {t A ty e:av} {i:TypeInfo} {z:ag} (L:P.underlying t=some (.slice e)) (hi:P.info? e=some i) (M:i.zero=some z) (O:z.cells.size=i.size) (Z:0 < i.size) {x:ag} {m:Nat} {olds news:List ag} (I:Src P i.size A x m news w) {base:Option Addr} {n c:Nat}
 (J:olds.length=n*i.size) (hold:(tO i.size n<|.slice base n c).run P w.drew= .ok olds.toArray w.drew) (V:∀ u∈olds,u.oneCell'=true) (C:c < n+m) (U:n+m≤1000000000) (hb:(n+m)*i.bytes≤140737488355328):
 ∃ (cap:Nat) (cs:Array ag),n+m≤cap∧cap*i.size=cs.size∧(∀ (j:Nat) (u:ag),(olds++news)[j]? =some u→cs[j]? =some u)∧(jO #[t,A] ty #[.slice base n c,x]).run P w= .ok (.slice (some ⟨w.heap.size,0,none⟩) (n+m) cap) {w.drew with heap:=w.heap.push<|.cells cs e (0,0)} :=by
 have hr:=run_append_grow_src (P:=P) w t A ty e i z L hi M base n c olds hold x m news I C ab<|growslice_fits C hb;refine ⟨_,_,grownCap_ge w (n+m) c e,?_,?_,hr⟩
 · have :=grownCap_ge w (n+m) c e;simp only [Array.size_append,eB,size_zeroCells,O,cz,J,I.newsLen,← mo];congr 1; omega
 · intro j u E;rw [Array.getElem?_append_left (by have :=(cK.1 E).1; simpa using this)];simpa using E
theorem Hf (hr:HR P G r T h w) {b o n c s:Nat} {x:Bool} {l:List AV} {e fz:Nat} {ex:Ck} {us:List ag} {q:Loc} (hb:h.t.get b=some (.cells l e fz ex)) (L:r b=some q) (C:aI r l=some us) (hle:o+n*s≤l.length) (cap:Nat):
 (tO s n<|.slice (some ⟨q.ak,q.sh+o,none⟩) n cap).run P w.drew= .ok ((us.drop o).take<|n*s).toArray w.drew:=by
 obtain ⟨q',M,I,E,J,_⟩:=hr.cells hb;rw [L] at I; cases I;rw [C] at E; cases E;have hlen:=db C;refine run_firstCells_some (P:=P) w.drew s n _ n cap _ (by simp; omega) fun j u A=> ?_;rw [fP,js,iN];rw [iL] at A;split at A
 · rw [ik] at A; exact J _ _ A
 · cases A
theorem Fa (hr:HR P G r T h w) {t aq:av} {a3 a5 v:AV} {h':Hp} (ha:uz P G t aq a3 a5 h=some (v,h')) (hT:h'.nx≤T) (aA:den r a3=some (ev N σ x)) (bv:den r a5=some (ev N σ y)):YM P G r T N σ ⟨dst,.call ⟨.builtin .append,#[x,y],#[t,aq]⟩,ty,pos,af,g⟩ h w v h':=by
 have ai:∀ {u:ag} {w':ah},(jO #[t,aq] ty #[ev N σ x,ev N σ y]).run P w= .ok u w'→(execOp (ev N σ) ⟨dst,.call ⟨.builtin .append,#[x,y],#[t,aq]⟩,ty,pos,af,g⟩).run P w= .ok (.value u) w':=by
  intro u w' h;simp [execOp,resolve,invoke,builtin,h]
 unfold uz at ha;split at ha
 · rename_i e s bB bL bx;obtain ⟨i,zv,hu,hi,aZ,rfl,rfl,a1,aW,bH,bJ,bI⟩:=tl (r:=r) bx;split at ha
   · rename_i m news bt;replace ha:=aY ha; obtain ⟨aU,ha⟩:=ha;obtain ⟨Nw,ao,O⟩:=Km hr bt aU bv;have bd:=db ao;have aL:=oG ao aU;split at ha
     · have aa:=hH aA;split at ha
       · cases ha;exact ⟨r,_,w,aA,.inl (ai<|by rw [aa]; exact yR hu hi O<|aQ _),St.refl hr⟩
       · rename_i aJ;replace ha:=aY ha; obtain ⟨C,ha⟩:=ha;simp only [a0] at C;have aB:=bP C.1;have c2:=bP C.2;have hm:0 < m:=EH fun e=>aJ<|by rw [e]
         split at ha
         · rename_i V hn;cases ha;obtain ⟨cap,cs,ac,aj,au,aw⟩:=yQ (w:=w) (ty:=ty) (base:=none) (n:=0) (c:=0) (olds:= []) hu hi aZ a1 aW O (by simp) (run_firstCells_none (P:=P) w.drew i.size 0 0 0) (by simp) ab ab<|by rw [cM]; exact aB
           rw [cM] at ac aw;rw [List.nil_append] at au;obtain ⟨r',ay,bo⟩:=hr.cV hn hT cap (w':= {w.drew with heap:=w.heap.push<|.cells cs e (0,0)}) rfl rfl rfl fun r' hle _=>by
            refine ⟨cs,(0,0),Nw,U,gY hle ao,?_,fun j u A=>by rw [cM]; exact au j u A,by simp,aL,⟨(fun h=>by cases h),fun _=>rfl⟩,fun s E=> ?_⟩
            · rw [cM,← bd,O.newsLen,← aj]; exact nU _ ac
            · have :s=i.size:=by unfold cC at E; rw [hi] at E; simpa using E.symm
              rw [this,cM,aj]; exact aQ _
           refine ⟨r',_,_,?_,.inl (ai<|by rw [aa]; exact aw),bo⟩;rw [n8 ay (by simpa using ac)]; simp
         · cases ha
     · rename_i b o n c a4;obtain ⟨q,cap,ad,bp,aa,bi,bh⟩:=iw aA;split at ha
       · cases ha;exact ⟨r,_,w,aA,.inl (ai<|by rw [aa]; exact yR hu hi O bp),St.refl hr⟩
       · rename_i aJ;have hm:0 < m:=EH fun e=>aJ<|by rw [e]
         split at ha
         · rename_i l e' fz ex hb;replace ha:=aY ha; obtain ⟨C,ha⟩:=ha;simp only [a0] at C;obtain ⟨⟨aB,c2,c3⟩,aC,ar,c6⟩:=C;obtain rfl :=bO aB;have c2:=bP c2;have c3:=bP c3;have aC:=bP aC;have ar:=bP ar;obtain ⟨q',ae,cc,fr,us,h1,Z,bD,aD,ba,aE,aF,aO⟩:=hr.live b _ hb;rw [ad] at ae; cases ae;have bG:=db Z;have bl:=Hf (s:=i.size) (x:=a4) (c:=c) hr hb ad Z aC;have holds:=iS (n*i.size)<|jt o Z;have aK:((us.drop o).take<|n*i.size).length=n*i.size:=by simp; omega
           have aV:∀ u∈(us.drop o).take (n*i.size),u.oneCell'=true :=fun u hu=>aE u<|tZ<|ua hu;have ax:=fi holds ao;have aR:∀ u∈(us.drop o).take (n*i.size)++Nw,u.oneCell'=true :=fun u hu=>(eA.1 hu).elim (aV u)<|aL u;have aS:∀ s,cC P e=some s→s=i.size:=fun s E=>by unfold cC at E; rw [hi] at E; simpa using E.symm
           have aT:((us.drop o).take (n*i.size)++Nw).length=(n+m)*i.size:=by rw [cz,aK,O.newsLen,mo]
           have grow:∀ {h0 V:Hp} {aN:Nat} {ck:Ck},ck≠.x→HR P G r T h0 w→St P G T r h w r h0 w→h0.nx=h.nx→cap < n+m→Hb.cV h0 (.cells ((l.drop o).take (n*i.size)++news) e aN ck)=some V→V.nx≤T→
            YM P G r T N σ ⟨dst,.call ⟨.builtin .append,#[x,y],#[t,aq]⟩,ty,pos,af,g⟩ h w (.sl h.nx 0 (n+m) 0 false) V:=by
            intro h0 V aN ck bg br bu bq J hn hT;obtain ⟨a6,cs,ac,aj,au,aw⟩:=yQ (w:=w) (ty:=ty) (base:=some ⟨q.ak,q.sh+o,none⟩) (n:=n) (c:=cap) hu hi aZ a1 aW O aK (bl cap) aV J c3 c2;obtain ⟨r',ay,bo⟩:=br.cV hn hT a6 (w':= {w.drew with heap:=w.heap.push<|.cells cs e (0,0)}) rfl rfl rfl fun r' hle _=>by
             refine ⟨cs,(0,0),_,U,gY hle ax,?_,fun j u A=>by rw [cM]; exact au j u A,by simp,aR,⟨fun h=>absurd h bg,fun _=>rfl⟩,fun s E=> ?_⟩
             · rw [cM,← db ax,aT,← aj]; exact nU _ ac
             · rw [aS s E,cM,aj]; exact aQ _
            rw [bq] at ay;refine ⟨r',_,_,?_,.inl (ai<|by rw [aa]; exact aw),St.trans bu bo⟩;rw [n8 ay (by simpa using ac)]; simp
           cases a4
           · obtain ⟨rfl,bF⟩:=bh rfl;simp only [cond_false] at ha;replace ha:=aY ha; obtain ⟨C,ha⟩:=ha;simp only [a0] at C;have d1:=bO C.1;have d2:=bP C.2;split at ha
             · rename_i V hn;cases ha;have az:=hr.del c6;have aX:St P G T r h w r ⟨h.t.del b,h.nx⟩ w:=⟨Rn.le_refl r,az,aQ _,Md.refl _ _,fun g _ k _ aH=>by
                obtain ⟨j,a2,q',bb,A,ae,rfl⟩:=aH;rw [Tr.ow _ _ _ c6] at A;split at A
                · cases A
                · exact ⟨j,a2,q',bb,A,ae,U⟩,fun _ _=>rfl⟩
               by_cases M:n+m≤q.room - c
               ·
                have bE:=aO i.size<|by unfold cC; rw [hi]; rfl
                have bC:q.sh+o+(n+m)*i.size≤cc.size:=by
                 have :(c+(n+m))*i.size≤q.room*i.size:=nU _ ab;rw [mo] at this;omega
                have a7:Nw.length=m*i.size:=O.newsLen;have a8:(n+m)*i.size=n*i.size+m*i.size:=mo _ _ _;have ap:=yS (w:=w) (ty:=ty) (off :=q.sh+o) hu hi O M h1 ab ab;unfold Hb.cV at hn;replace hn:=aY hn; obtain ⟨aG,hn⟩:=hn;cases hn;simp only at hT aG;have hle:=Rn.qk (i:=h.nx) ⟨q.ak,q.sh+o,q.room - c⟩<|hr.new h.nx (aQ _) ab;obtain ⟨L,al⟩:∃ L,cc.toList.take (q.sh+o+n*i.size)++Nw++cc.toList.drop (q.sh+o+n*i.size+Nw.length)=L:=⟨_,rfl⟩
                have am:=xe cc.toList Nw (q.sh+o+n*i.size)<|by simp; omega
                rw [al] at ap am;have bc:L.length=cc.size:=by rw [← al]; simp; omega
                have aI:=setRow_heap w q.ak _ L.toArray e _ h1;have aP:∀ g,g≤G→Fr g r h q.ak:=fun g J=>⟨b,_,q,cS J ar,hb,ad,rfl⟩
                refine ⟨r.ext h.nx ⟨q.ak,q.sh+o,q.room - c⟩,_,w.setRow q.ak L.toArray,?_,.inl (ai<|by rw [aa]; exact ap),⟨hle,az.put hle aG (Rn.gI _ _ _) ?_ (fun k I _=>setRow_other w q.ak k _ I) ?_ (lD _) (fun k I bn=> ?_),lD _,⟨U,U,by simp,fun k _ I=>setRow_other w q.ak k _ fun e=>I<|by rw [e]; exact aP G<|aQ _⟩,fun g J k I aH=> ?_,fun k I=>Rn.jy _ _<|by simp only at I; omega⟩⟩
                · rw [n8 (Rn.gI _ _ _) (by simpa using M)]; simp
                · rw [aI];refine ⟨L.toArray,fr,_,U,gY hle ax,?_,fun j u A=> ?_,by simp only; omega,aR,⟨fun h=>absurd h zh,fun h=>by obtain ⟨h1,Z⟩:=FQ h; simp only; rw [aF.2 h1,Z]⟩,fun s E=> ?_⟩
                  · rw [← db ax,aT]; simp only [eB]; omega
                  · simp only [lA];rw [am];by_cases aM:j < n*i.size
                    · rw [fJ ab,iL,if_pos aM,ik] at A;rw [if_pos ab,o9,iN]; exact aD _ _ A
                    · rw [gk ab,aK] at A;have :=(cK.1 A).1;rw [if_neg ab,if_pos ab,show q.sh+o+j - (q.sh+o+n*i.size)=j - n*i.size from by omega]; exact A
                  · rw [aS s E];simp only [eB];have :(c+(q.room - c))*i.size=q.room*i.size:=by congr 1; omega
                    rw [mo] at this;omega
                · intro j a2 q' A J ae he;rw [Tr.ow _ _ _ c6] at J;split at J
                  · cases J
                  · rename_i bm;exact bm<|hr.inj j b _ _ _ _ J hb ae ad he
                · rw [Rn.jy _ _ (by simp only at I; omega)]; exact hr.new k (by simp only at I; omega) bn
                · rcases Fr.set aG (Rn.gI _ _ _) hle az aH with h1 | h1
                  · rw [h1]; exact aP g J
                  · exact aX.dR g J k I h1
               · exact grow zh az aX U ab hn hT
             · cases ha
           · obtain rfl :=bi rfl;simp only [cond_true] at ha;cases M:bf (n+m) cap
             · rw [M] at ha;simp only [cond_false] at ha;split at ha
               · rename_i V hn;cases ha;exact grow (fun h=>by cases h) hr (St.refl hr) U (by
                  rcases dF cap (n+m) with h | h
                  · exact h
                  · rw [yy h] at M; cases M) hn hT
               · cases ha
             · rw [M] at ha;simp only [cond_true] at ha;replace ha:=aY ha; obtain ⟨C,ha⟩:=ha;simp only [a0] at C;have d1:=bP C.1;have d2:=bP C.2;have M:=bP M;cases ha;have a7:Nw.length=m*i.size:=O.newsLen;have a8:(n+m)*i.size=n*i.size+m*i.size:=mo _ _ _;have ap:=yS (w:=w) (ty:=ty) (off :=q.sh+o) hu hi O M h1 ab ab;obtain ⟨L,al⟩:∃ L,cc.toList.take (q.sh+o+n*i.size)++Nw++cc.toList.drop (q.sh+o+n*i.size+Nw.length)=L:=⟨_,rfl⟩
               have am:=xe cc.toList Nw (q.sh+o+n*i.size)<|by simp; omega
               rw [al] at ap am;have bc:L.length=cc.size:=by rw [← al]; simp; omega
               have aI:=setRow_heap w q.ak _ L.toArray e _ h1;refine ⟨r,_,w.setRow q.ak L.toArray,lN ad M,.inl (ai<|by rw [aa]; exact ap),hr.kQ hb c6 ad ar ?_ ⟨U,U,by simp,fun k _ I=>setRow_other w q.ak k _ I⟩⟩;rw [aI];have bj:=fi (iS (o+n*i.size) Z)<|fi ao<|jt (o+(n+m)*i.size) Z;refine ⟨L.toArray,fr,_,U,bj,?_,fun j u A=> ?_,ba,?_,⟨fun hex=> ?_,aF.2⟩,fun s E=> ?_⟩
               · simp only [cz,dB,ji,eB]; omega
               · simp only [lA];rw [am];by_cases aM:j < o+n*i.size
                 · rw [fJ (by simp; omega),iL,if_pos aM] at A;rw [if_pos ab,o9]; exact aD _ _ A
                 · rw [gk (by simp; omega)] at A;have a9:(us.take<|o+n*i.size).length=o+n*i.size:=by simp; omega
                   rw [a9] at A;rw [if_neg ab];by_cases bK:j < o+(n+m)*i.size
                   · rw [fJ ab] at A;rw [if_pos ab,show q.sh+j - (q.sh+o+n*i.size)=j - (o+n*i.size) from by omega]; exact A
                   · rw [gk ab,ik] at A;rw [if_neg ab,o9];refine aD j u ?_;rw [← A]; congr 1; omega
               · intro a ha;rcases eA.1 ha with ha | ha
                 · exact aE a<|ua ha
                 · rcases eA.1 ha with ha | ha
                   · exact aL a ha
                   · exact aE a<|tZ ha
               · obtain ⟨bz,x2,bA⟩:=aF.1 hex;refine ⟨bz,?_,bA⟩;simp only [cz,dB,ji,eB]; omega
               · have :=aO s E;simp only [eB]; omega
         · cases ha
     · cases ha
   · cases ha
 · cases ha
end
end Go.Hb
namespace Go.Hb
def xE (P:au) (G:Nat) (t:av) (b o n c i:Nat) (h:Hp):Option (AV×Hp):=match cU P t with
 | some e=>cond (aN i n && (bf G b && aD b cm)) (match h.t.get b with
   | some (.cells l A fz ex)=>match cC P A with
     | some e'=>cond (aN e e' && (aN o (c*e) && bf (o+n*e) l.length)) (match cV ⟨h.t.del b,h.nx⟩ (.cells [] A fz .a) with
       | some h'=>some (.sl h.nx 0 0 0 false,h')
       | none=>none) none
     | none=>none
   | _=>none) none
 | none=>none
def wo (P:au) (t:av) (n i j:Nat) (h:Hp):Option (AV×Hp):=match cU P t with
 | some _=>cond (aN i n && (aN j n && aD h.nx cm)) (some (.sl h.nx 0 0 0 false,⟨h.t,h.nx+1⟩)) none
 | none=>none
def uJ (P:au) (G:Nat) (t:av) (x:AV) (h:Hp):Option (AV×Hp):=match x with
 | .an=>cond (jB P t) (some (.bV [],h)) none
 | .sl b o n c q=>match oX P t with
   | some (e,s,_,zs)=>match n with
     | 0=>some (.bV [],h)
     | _=>match h.t.get b with
       | some (.cells l e' fz ex)=>cond ((bf (o+n*s) l.length && bf fz o) && (bf G b && aD b cm)) (some (.bV [],⟨h.t.set b (.cells (l.take o++(ka zs n++l.drop (o+n*s))) e' fz ex),h.nx⟩)) none
       | _=>none
   | none=>none
 | _=>none
def kJ (x:AV):List (AV×AV)→List (AV×AV)
 | []=> []
 | p::l=>cond (fX p.1 x) l (p::kJ x l)
def uS (P:au) (G:Nat) (t:av) (b:Nat) (k:AV) (h:Hp):Option (AV×Hp):=match h.t.get b with
 | some (.map l)=>match P.underlying t with
   | some (.map C e)=>match mT P C k with
     | some A=>cond ((bf G b && aD b cm) && (dD A k && eZ A l)) (some (.bV [],⟨h.t.set b (.map<|kJ k l),h.nx⟩)) none
     | none=>none
   | _=>none
 | _=>none
def xM (P:au) (G:Nat) (A:av) (x y:AV) (h:Hp):Option (AV×Hp):=match x,y with
 | .ptr _ _,.int .i64 0=>some (.str [],h)
 | .gJ,.int .i64 0=>some (.str [],h)
 | .ptr b 0,.int .i64 (.ofNat n)=>match h.t.get b with
   | some (.cells l e fz ex)=>match ex with
     | .a=>none
     | _=>cond ((ptrTo P A e && (bf n l.length && (aD 0 n && aD n 1000000000))) && (bf G b && aD b cm)) (match na (l.take n) with
       | some m=>some (.str m,⟨h.t.set b (.cells l e (max fz n) .z),h.nx⟩)
       | none=>none) none
   | _=>none
 | _,_=>none
def sJ (P:au) (G:Nat) (o:Op) (xs:List AV) (h:Hp):Option (AV×Hp):=match o with
 | .call ⟨.builtin .append,_,⟨[t,tx]⟩⟩=>match xs with
   | [s,x]=>uz P G t tx s x h
   | _=>none
 | .call ⟨.builtin .clear,_,⟨[t]⟩⟩=>match xs with
   | [x]=>uJ P G t x h
   | _=>none
 | .call ⟨.builtin .delete,_,⟨[t,_]⟩⟩=>match xs with
   | [.map b,k]=>uS P G t b k h
   | _=>none
 | .call ⟨.builtin .unsafeSliceData,_,_⟩=>match xs with
   | [.an]=>some (.gJ,h)
   | [.sl b o n c x]=>cond (aD 0 n) (some (.ptr b o,h)) none
   | _=>none
 | .call ⟨.builtin .unsafeString,_,⟨[pt,_]⟩⟩=>match xs with
   | [x,y]=>xM P G pt x y h
   | _=>none
 | .slice t _ (some _) none none=>match xs with
   | [.sl b o n c false,.int _ (.ofNat i)]=>xE P G t b o n c i h
   | _=>none
 | .slice t _ (some _) (some _) none=>match xs with
   | [.sl b o n c false,.int _ (.ofNat i),.int _ (.ofNat j)]=>wo P t n i j h
   | _=>none
 | _=>none
inductive AD | mark (D:Nat) | fn (f:Nat) (args:List AV)
inductive EX | bw | ret | ext (id:Nat)
inductive Tk
 | cd (rd:Option Nat) (n:Nat) (c:bL) (fr:Tr AV) (D:List AD) (h:Hp)
 | lp (rd:Option Nat) (n:Nat) (c:bL) (fr:Tr AV) (D:List AD) (h:Hp)
 | cl (f:Nat) (args:List AV) (h:Hp)
 | yl (l:Nat) (args:List AV) (h:Hp)
 | df (f:Nat) (args:List AV) (h:Hp)
inductive Rs | no | cd (e:EX) (fr:Tr AV) (D:List AD) (h:Hp) | rv (v:AV) (h:Hp)
inductive Ro | no | v (x:AV) (h:Hp) | d (a:AD)
abbrev Xt:=Nat→Option (List AV→Hp→Option (AV×Hp))
def fF (n:Nat) (fr:Tr AV) (d:Option Nat) (v:AV):Option (Tr AV):=match d with
 | none=>some fr
 | some d=>cond (aD d n && aD d cm) (some<|fr.set d v) none
def rK (X:Xt) (ih:Tk→Rs) (f:AV) (args:List AV) (h:Hp):Ro:=match f with
 | .fn f a c=>match X f with
   | some e=>match e (a++(args++c)) h with
     | some (v,h)=> .v v h
     | none=> .no
   | none=>match ih (.cl f (a++(args++c)) h) with
     | .rv v h=> .v v h
     | _=> .no
 | .gD l=>match ih (.yl l args h) with
   | .rv v h=> .v v h
   | _=> .no
 | _=> .no
def qw (P:au) (G:Nat) (X:Xt) (ih:Tk→Rs) (o:Op) (xs:List AV) (h:Hp):Ro:=match mX P o xs with
 | some v=> .v v h
 | none=>match iZ P o xs h with
   | some v=> .v v h
   | none=>match o with
     | .call ⟨.value _,_,_⟩=>match xs with
       | f::args=>rK X ih f args h
       | []=> .no
     | .defer ⟨.value _,_,_⟩=>match xs with
       | .fn f a c::args=> .d<|.fn f<|a++(args++c)
       | _=> .no
     | _=>match oI P G o xs h with
       | some (v,h)=> .v v h
       | none=>match sJ P G o xs h with
         | some (v,h')=>cond (bf h.nx h'.nx) (.v v h') .no
         | none=> .no
inductive Gd | y | n | no
def jz (n:Nat) (ops:List aB) (fr:Tr AV) (g:Option (Nat×Bool)):Gd:=match g with
 | none=> .y
 | some (j,want)=>match ops[j]? with
   | some o=>match o.dst with
     | some t=>cond (aD t n) (match dd fr t with
       | .bool b=>cond (b==want) .y .n
       | .bV []=> .n
       | _=> .no) .no
     | none=> .no
   | none=> .no
def jI (P:au) (G:Nat) (X:Xt) (ih:Tk→Rs) (rd:Option Nat) (n:Nat) (ops:List aB):List aB→Tr AV→List AD→Hp→Rs
 | [],fr,D,h=> .cd .bw fr D h
 | o::l,fr,D,h=>match jz n ops fr o.guard with
   | .y=>match j8 G n fr (gh o.op) with
     | some xs=>match qw P G X ih o.op xs h with
       | .v v h=>match fF n fr o.dst v with
         | some fr=>jI P G X ih rd n ops l fr D h
         | none=> .no
       | .d a=>match rd with
         | none=>match fF n fr o.dst (.bV []) with
           | some fr=>jI P G X ih rd n ops l fr (a::D) h
           | none=> .no
         | some _=> .no
       | .no=> .no
     | none=> .no
   | .n=>match fF n fr o.dst (.bV []) with
     | some fr=>jI P G X ih rd n ops l fr D h
     | none=> .no
   | .no=> .no
def ix:Nat→List AV→Tr AV→Tr AV
 | _,[],fr=>fr
 | i,v::l,fr=>ix (i+1) l<|fr.set i v
def m6 (n:Nat):List Nat→List AV→Tr AV→Option (Tr AV)
 | [],[],fr=>some fr
 | p::ps,v::vs,fr=>match fF n fr (some p) v with
   | some fr=>m6 n ps vs fr
   | none=>none
 | _,_,_=>none
def iA (P:au) (n:Nat) (fr:Tr AV) (h:Hp):List ResultVar→Option (List AV)
 | []=>some []
 | .tmp t::l=>match iA P n fr h l with
   | some vs=>cond (aD t n) (some (dd fr t::vs)) none
   | none=>none
 | .cell a t::l=>match iA P n fr h l with
   | some vs=>cond (aD a n) (match ss P t (dd fr a) h with
     | some v=>some (v::vs)
     | none=>none) none
   | none=>none
def m4:List AV→AV
 | [v]=>v
 | vs=> .bV vs
def jG (G:Nat) (ih:Tk→Rs):List AD→Hp→Option Hp
 | [],h=>some h
 | .mark d::l,h=>match h.t.get d with
   | some (.kC true)=>cond (bf G d && aD d cm) (jG G ih l ⟨h.t.set d (.kC false),h.nx⟩) none
   | _=>none
 | .fn f args::l,h=>match ih (.df f args h) with
   | .rv _ h=>jG G ih l h
   | _=>none
def Ag:EX→Option bL
 | .bw=>none
 | .ret=>some .ret
 | .ext i=>some<|.exit i
def oe (G:Nat) (ih:Tk→Rs) (rd:Option Nat) (n:Nat) (fr:Tr AV) (D:List AD) (l:Nat) (h:Hp):Rs:=match h.t.get l with
 | some (.loop st A m C ps aT body d)=>match st with
   | .busy=> .no
   | _=>cond (bf G l && aD l cm) (match A with
     | none=> .cd .bw fr D ⟨h.t.set l (.loop .exhausted A m C ps aT body d),h.nx⟩
     | some c=>ih (.cd rd n c fr D ⟨h.t.set l (.loop .exhausted A m C ps aT body d),h.nx⟩)) .no
 | _=> .no
def oO (ih:Tk→Rs) (G:Nat) (rd:Option Nat) (n:Nat) (g:aW) (ps:List Nat) (aT body:bL) (fr:Tr AV) (D:List AD) (h:Hp):Rs:=match j7 G n fr g with
 | some (.fn f a c)=>match rd with
   | none=>match cV h (.kC true) with
     | some h1=>match cV h1 (.loop .ready none n fr ps aT body h.nx) with
       | some A=>match ih (.cl f (a++(.gD h1.nx::c)) A) with
         | .rv _ C=>oe G ih rd n fr (.mark h.nx::D) h1.nx C
         | _=> .no
       | none=> .no
     | none=> .no
   | some E=>match h.t.get E with
     | some (.loop _ _ _ _ _ _ _ d)=>match cV h (.loop .ready none n fr ps aT body d) with
       | some A=>match ih (.cl f (a++(.gD h.nx::c)) A) with
         | .rv _ C=>oe G ih rd n fr D h.nx C
         | _=> .no
       | none=> .no
     | _=> .no
 | _=> .no
def qP (G:Nat) (ih:Tk→Rs) (l:Nat) (args:List AV) (h:Hp):Rs:=match h.t.get l with
 | some (.loop .ready J n fr ps aT body d)=>match m6 n ps args fr with
   | some fr=>match ih (.cd (some l) n aT fr [] h) with
     | .cd .bw fr [] h=>match h.t.get l with
       | some (.loop .ready L C A M E I d1)=>cond (bf G l && aD l cm) (match ih (.cd (some l) n body fr [] ⟨h.t.set l (.loop .busy L C A M E I d1),h.nx⟩) with
         | .cd e fr [] h=>match h.t.get l with
           | some (.loop .busy J C A ps aT body d)=>match e with
             | .bw=> .rv (.bool true) ⟨h.t.set l (.loop .ready none C A ps aT body d),h.nx⟩
             | e=> .rv (.bool false) ⟨h.t.set l (.loop .done (Ag e) C A ps aT body d),h.nx⟩
           | _=> .no
         | _=> .no) .no
       | _=> .no
     | _=> .no
   | none=> .no
 | _=> .no
mutual
def eG:AV→AV→Bool
 | .bool a,.bool b=>a==b
 | .int k a,.int k' b=>cond (aN (dG k)<|dG k') (decide (a=b)) false
 | .str l,.str m=>hJ l m
 | .ptr b o,.ptr b' o'=>aN b b' && aN o o'
 | .gJ,.gJ=>true
 | .sl b o n c x,.sl b' o' n' c' x'=>(aN b b' && aN o o') && (aN n n' && (aN c c' && (x==x')))
 | .an,.an=>true
 | .map b,.map b'=>aN b b'
 | .j4,.j4=>true
 | .fn f a c,.fn f' a' c'=>aN f f' && (jv a a' && jv c c')
 | .gD l,.gD l'=>aN l l'
 | .iz,.iz=>true
 | .fk t v,.fk t' v'=>aN t t' && eG v v'
 | .cN,.cN=>true
 | .agg l,.agg m=>jv l m
 | .bV l,.bV m=>jv l m
 | _,_=>false
def jv:List AV→List AV→Bool
 | [],[]=>true
 | a::l,b::m=>cond (eG a b) (jv l m) false
 | _,_=>false
end
def oY:List aW→List Nat
 | []=> []
 | .tmp t::l=>t::oY l
 | _::l=>oY l
def vz (ops:List aB) (g:Option (Nat×Bool)):List Nat:=match g with
 | none=> []
 | some (j,_)=>match ops[j]? with
   | some q=>match q.dst with
     | some t=> [t]
     | none=> []
   | none=> []
def oN (ops:List aB) (o:aB):List Nat:=vz ops o.guard++oY (gh o.op)
def qp (t:Nat):List Nat→Bool
 | []=>false
 | u::l=>cond (aN t u) true<|qp t l
def sB (d:Option Nat) (l:List Nat):Bool:=match d with
 | some t=>qp t l
 | none=>false
def lZ (l:List Nat) (i:Nat):Nat:=kO l i 0
def lW (acc:List Nat):List bT→Nat
 | []=>0
 | e::l=>cond (dE .any e && aD e.on acc.length) (Nat.lor (Nat.lor (Nat.pow 2 e.on)<|lZ acc e.on)<|lW acc l)<|lW acc l
def gZ:List aB→List Nat→List Nat
 | [],acc=>acc
 | o::l,acc=>gZ l<|acc++ [lW acc o.after.toList]
def jn (A:List Nat) (i j:Nat):Bool:=rp (lZ A i) j
def pU (i:Nat):List bT→Bool
 | []=>true
 | e::l=>cond (dE .any e && !(aD e.on i)) false<|pU i l
def z7 (a b:Option Nat):Bool:=match a,b with
 | some a,some b=>aN a b
 | _,_=>false
def rL (ops:List aB) (E:List Nat) (i:Nat) (A:aB):Nat→List aB→Bool
 | _,[]=>true
 | j,C::l=>cond (aD j i) ((!(z7 A.dst C.dst) && (jn E i j || (!(sB C.dst<|oN ops A) && !(sB A.dst<|oN ops C)))) && rL ops E i A (j+1) l) true
def n6 (ops:List aB) (A:List Nat):Nat→List aB→Bool
 | _,[]=>true
 | i,C::l=>(pU i C.after.toList && rL ops A i C 0 ops) && n6 ops A (i+1) l
inductive Cs | s | p | l | a | c
structure Rec where
 k:Cs
 xs:List AV
 v:AV
 hb:Hp
 ha:Hp
def rD (P:au) (e:av):Option (List AV):=match zeroOf P e with
 | some (some A)=>match j5 (iY 4) A with
   | some l=>cond (dS l) (some l) none
   | none=>none
 | _=>none
def early (A:List Nat) (i:Nat) (last:Option Nat):Bool:=match last with
 | some c=> !(jn A i c)
 | none=>false
def wP (P:au) (G:Nat) (X:Xt) (ih:Tk→Rs) (fr:Bool) (o:Op) (xs:List AV) (h:Hp):Option Rec:=match mX P o xs with
 | some v=>some ⟨.p,xs,v,h,h⟩
 | none=>match iZ P o xs h with
   | some v=>some ⟨.l,xs,v,h,h⟩
   | none=>match fr,o with
     | true,.alloc e=>match rD P e with
       | some l=>match cV h (.cells l e 0 .x) with
         | some h'=>some ⟨.a,xs,.ptr h.nx 0,h,h'⟩
         | none=>none
       | none=>none
     | _,_=>match qw P G X ih o xs h with
       | .v v h'=>some ⟨.c,xs,v,h,h'⟩
       | _=>none
def Ia (i:Nat) (last:Option Nat):Cs→Option Nat
 | .c=>some i
 | _=>last
def kS (P:au) (G:Nat) (X:Xt) (ih:Tk→Rs) (n:Nat) (ops:List aB) (A:List Nat):Nat→Option Nat→List aB→Tr AV→Hp→Option (List Rec×Tr AV×Hp)
 | _,_,[],fr,h=>some ([],fr,h)
 | i,last,o::l,fr,h=>match jz n ops fr o.guard with
   | .y=>match j8 G n fr (gh o.op) with
     | some xs=>match wP P G X ih (early A i last) o.op xs h with
       | some r=>match fF n fr o.dst r.v with
         | some fr=>match kS P G X ih n ops A (i+1) (Ia i last r.k) l fr r.ha with
           | some (rs,fr,h)=>some (r::rs,fr,h)
           | none=>none
         | none=>none
       | none=>none
     | none=>none
   | .n=>match fF n fr o.dst (.bV []) with
     | some fr=>match kS P G X ih n ops A (i+1) last l fr h with
       | some (rs,fr,h')=>some (⟨.s,[],.bV [],h,h⟩::rs,fr,h')
       | none=>none
     | none=>none
   | .no=>none
def u5 (a:Option AV) (v:AV):Bool:=match a with
 | some a=>eG a v
 | none=>false
def qt (P:au) (A:List Nat) (i:Nat) (o:Op) (xs:List AV) (v:AV):Nat→List Rec→Bool
 | _,[]=>true
 | j,q::l=>cond (match q.k with
   | .c=>cond (aD j i) (jn A i j || u5 (iZ P o xs q.hb) v) (jn A j i || u5 (iZ P o xs q.ha) v)
   | .a=> !(aD j i)
   | _=>true) (qt P A i o xs v (j+1) l) false
def qs (A:List Nat) (i:Nat):Nat→List Rec→Bool
 | _,[]=>true
 | j,q::l=>cond (match q.k with
   | .c=>cond (aD j i) (jn A i j) true
   | .a=>cond (aD j i) (jn A i j) true
   | _=>true) (qs A i (j+1) l) false
def kP (P:au) (A:List Nat) (rs:List Rec):Nat→List aB→List Rec→Bool
 | _,[],[]=>true
 | i,o::l,q::m=>cond (match q.k with
   | .l=>qt P A i o.op q.xs q.v 0 rs
   | .c=>qs A i 0 rs
   | _=>true) (kP P A rs (i+1) l m) false
 | _,_,_=>false
def rW (P:au) (G:Nat) (X:Xt) (ih:Tk→Rs) (n:Nat) (ops:List aB) (fr:Tr AV) (D:List AD) (h:Hp):Rs:=match gZ ops [] with
 | A=>cond (n6 ops A 0 ops) (match kS P G X ih n ops A 0 none ops fr h with
   | some (rs,fr,h)=>cond (kP P A rs 0 ops rs) (.cd .bw fr D h) .no
   | none=> .no) .no
def fg (P:au) (G:Nat) (X:Xt) (ih:Tk→Rs):Tk→Rs
 | .cd rd n c fr D h=>match c with
   | .skip => .cd .bw fr D h
   | .region _ ⟨ops⟩ draw=>cond draw (rW P G X ih n ops fr D h)<|jI P G X ih rd n ops ops fr D h
   | .seq a b=>match ih (.cd rd n a fr D h) with
     | .cd .bw fr D h=>ih<|.cd rd n b fr D h
     | r=>r
   | .cond x a b=>match j7 G n fr x with
     | some (.bool true)=>ih<|.cd rd n a fr D h
     | some (.bool false)=>ih<|.cd rd n b fr D h
     | _=> .no
   | .block id c=>match ih (.cd rd n c fr D h) with
     | .cd (.ext j) fr D h=>cond (aN j id) (.cd .bw fr D h)<|.cd (.ext j) fr D h
     | r=>r
   | .loop c=>ih<|.lp rd n c fr D h
   | .rangeFunc g ⟨ps⟩ aT body=>oO ih G rd n g ps aT body fr D h
   | .exit id=> .cd (.ext id) fr D h
   | .ret=> .cd .ret fr D h
   | _=> .no
 | .lp rd n c fr D h=>match ih (.cd rd n c fr D h) with
   | .cd .bw fr D h=>ih<|.lp rd n c fr D h
   | r=>r
 | .cl f args h=>match P.funcs[f]? with
   | some fn=>match fn.body with
     | some c=>cond (bf args.length fn.ntmps && aD fn.ntmps cm) (match ih (.cd none fn.ntmps c (ix 0 args .nil) [] h) with
       | .cd (.ext _) _ _ _=> .no
       | .cd _ fr D h=>match jG G ih D h with
         | some h=>match iA P fn.ntmps fr h fn.results.toList with
           | some vs=> .rv (m4 vs) h
           | none=> .no
         | none=> .no
       | _=> .no) .no
     | none=> .no
   | none=> .no
 | .yl l args h=>qP G ih l args h
 | .df f args h=>match P.funcs[f]? with
   | some fn=>match fn.body with
     | some c=>cond (bf args.length fn.ntmps && aD fn.ntmps cm) (match (match c with
       | .seq (.region _ ⟨⟨some d,.call ⟨.builtin .recover,⟨[]⟩,⟨[]⟩⟩,ty,pos,af,none⟩::rest⟩ false) y=>match fF fn.ntmps (ix 0 args .nil) (some d) .cN with
         | some fr=>match jI P G X ih none fn.ntmps (⟨some d,.call ⟨.builtin .recover,⟨[]⟩,⟨[]⟩⟩,ty,pos,af,none⟩::rest) rest fr [] h with
           | .cd .bw fr [] h=>ih<|.cd none fn.ntmps y fr [] h
           | _=> .no
         | none=> .no
       | c=>ih (.cd none fn.ntmps c (ix 0 args .nil) [] h)) with
       | .cd (.ext _) _ _ _=> .no
       | .cd _ fr [] h=>match iA P fn.ntmps fr h fn.results.toList with
         | some vs=> .rv (m4 vs) h
         | none=> .no
       | _=> .no) .no
     | none=> .no
   | none=> .no
def qf (c:Nat):List UInt8→Nat→Int
 | [],_=> -1
 | b::l,i=>cond (aN b.toNat c) (kp i)<|qf c l<|i+1
def xW (xs:List AV) (h:Hp):Option (AV×Hp):=match xs with
 | [.str l,.int .u8 (.ofNat c)]=>cond (aD c 256) (match e7 .i64 (qf c l 0) with
   | some v=>some (v,h)
   | none=>none) none
 | _=>none
def xV (xs:List AV) (h:Hp):Option (AV×Hp):=match xs with
 | [x]=>some (x,h)
 | _=>none
end Go.Hb
namespace Go.Hb
section
variable {P:au} {G:Nat} {r:Rn} {T:Nat} {h:Hp} {w:ah} {N:Fm} {σ:Nat→ag} {dst:Option Nat} {ty:av} {pos :String} {af:Array bT} {g:Option (Nat×Bool)} {x y z:aW}
theorem HR.Ci (hr:HR P G r T h w) {b o:Nat} {l news:List AV} {e fz:Nat} {ex:Ck} {q:Loc} {Nw:List ag} (hb:h.t.get b=some (.cells l e fz ex)) (aj:bf G b=true) (al:aD b cm=true) (O:r b=some q) (E:aI r news=some Nw) (h1:dS news=true) (hle:o+news.length≤l.length) (av:fz≤o):
 ∃ c fr,w.heap[q.ak]? =some (.cells c e fr)∧fr.2≤q.sh+o∧q.sh+o+Nw.length≤c.size∧(∀ u∈Nw,u.oneCell'=true)∧
   St P G T r h w r ⟨h.t.set b (.cells (l.take o++(news++l.drop (o+news.length))) e fz ex),h.nx⟩ (w.setRow q.ak (c.toList.take (q.sh+o)++Nw++c.toList.drop (q.sh+o+Nw.length)).toArray):=by
 obtain ⟨q',V,c,fr,us,Z,I,ay,aa,ap,ac,ad,aq⟩:=hr.live b _ hb;rw [O] at V; cases V;have aw:=db E;have ax:=db I;have M:=oG E h1;obtain ⟨L,C⟩:∃ L,c.toList.take (q.sh+o)++Nw++c.toList.drop (q.sh+o+Nw.length)=L:=⟨_,rfl⟩
 have J:=xe c.toList Nw (q.sh+o)<|by have :=lk (xs:=c); omega
 rw [C] at J;have au:L.length=c.size:=by rw [← C]; simp; omega
 refine ⟨c,fr,Z,ab,ab,M,?_⟩;rw [C];refine hr.kQ hb al O (bP aj) ?_ ⟨U,U,by simp,fun k _ am=>setRow_other w q.ak k _ am⟩;rw [setRow_heap w q.ak _ _ e _ Z];refine ⟨L.toArray,fr,_,U,fi (iS o I) (fi E<|jt (o+news.length) I),?_,fun j a A=> ?_,ap,?_,⟨fun hex=> ?_,ad.2⟩,fun s ao=> ?_⟩
 · simp only [cz,dB,ji,eB]; omega
 · rw [lA,J];have ae:(us.take o).length=o:=by simp; omega
   by_cases m1:j < o
   · rw [fJ ab,iL,if_pos m1] at A;rw [if_pos ab,o9]; exact aa _ _ A
   · rw [gk ab,ae] at A;rw [if_neg ab];by_cases az:j < o+Nw.length
     · rw [fJ ab] at A;rw [if_pos ab,show q.sh+j - (q.sh+o)=j - o from by omega]; exact A
     · rw [gk ab,ik] at A;rw [if_neg ab,o9];refine aa j a ?_;rw [← A]; congr 1; omega
 · intro a ha;rcases eA.1 ha with ha | ha
   · exact ac a<|ua ha
   · rcases eA.1 ha with ha | ha
     · exact M a ha
     · exact ac a<|tZ ha
 · obtain ⟨ah,ar,ai⟩:=ad.1 hex;refine ⟨ah,?_,ai⟩;simp only [cz,dB,ji,eB]; omega
 · have :=aq s ao;simp only [eB]; omega
theorem IX (hr:HR P G r T h w) {t b o n c i j:Nat} {h':Hp} {v:AV} {k am:bu} (hn:wo P t n i j h=some (v,h')) (hT:h'.nx≤T) (ai:den r (.sl b o n c false)=some (ev N σ x)) (aj:ev N σ y= .int k (kp i)) (al:ev N σ z= .int am (kp j)):YM P G r T N σ ⟨dst,.slice t x (some y) (some z) none,ty,pos,af,g⟩ h w v h':=by
 unfold wo at hn;split at hn
 · rename_i e he;replace hn:=aY hn; obtain ⟨J,hn⟩:=hn;simp only [a0] at J;obtain rfl :=bO J.1;obtain rfl :=bO J.2.1;cases hn;simp only at hT;obtain ⟨q,ar,aq,hu⟩:=rV ai;have ah:=xq (dst:=dst) (ty:=ty) (pos :=pos) (af:=af) (g:=g) (w:=w) he hu aj al ⟨fI _,Int.le_refl _,by simp; omega⟩;obtain ⟨ad,aa⟩:∃ ad:Nat,eb (some ⟨q.ak,q.sh+o,none⟩) (q.room - c) j e=some ⟨q.ak,ad,none⟩:=by
    unfold eb; split
    · exact ⟨_,U⟩
    · exact ⟨_,by rw [fu,fP]⟩
   have hle:=Rn.qk (i:=h.nx) ⟨q.ak,ad,q.room - c - j⟩<|hr.new h.nx (aQ _) ab;refine ⟨r.ext h.nx ⟨q.ak,ad,q.room - c - j⟩,_,w,?_,.inl ah,hle,⟨fun j I C=> ?_,fun j k O V av ao C E h1 A he=> ?_,fun k E ae=> ?_,hr.eX.le hle,cS hr.base<|lD _⟩,lD _,Md.refl _ _,fun g ap k E ac=> ?_,fun k E=>Rn.jy _ _<|by simp only at E; omega⟩
   · rw [n8 (Rn.gI _ _ _) (by simp)];simp [aa]
   · obtain ⟨q',h1,A⟩:=hr.live j I C;exact ⟨q',hle _ _ h1,A.le hle⟩
   · obtain ⟨q',L,_⟩:=hr.live j O C;obtain ⟨au,M,_⟩:=hr.live k V E;rw [hle _ _ L] at h1; cases h1;rw [hle _ _ M] at A; cases A;exact hr.inj j k O V _ _ C E L M he
   · simp only at E; rw [Rn.jy _ _ ab]; exact hr.new k ab ae
   · obtain ⟨j,I,q',Z,C,ag,rfl⟩:=ac;obtain ⟨ao,A,_⟩:=hr.live j I C;have :=hle _ _ A;rw [ag] at this; cases this;exact ⟨j,I,_,Z,C,A,U⟩
 · cases hn
theorem HR.GC (hr:HR P G r T h w) {b:Nat} (hb:aD b cm=true):St P G T r h w r ⟨h.t.del b,h.nx⟩ w:=
 ⟨Rn.le_refl r,hr.del hb,aQ _,Md.refl _ _,fun g _ k _ E=>by
  obtain ⟨j,J,q',C,A,I,rfl⟩:=E;rw [Tr.ow _ _ _ hb] at A;split at A
  · cases A
  · exact ⟨j,J,q',C,A,I,U⟩,fun _ _=>rfl⟩
theorem HR.IM (hr:HR P G r T h w) {b:Nat} {o:AO} {q q':Loc} {h':Hp} {ob:AO} (hb:h.t.get b=some ob) (I:aD b cm=true) (L:r b=some q) (U:bf G b=true) (E:q'.ak=q.ak) (hn:Hb.cV ⟨h.t.del b,h.nx⟩ o=some h') (hT:h'.nx≤T) (ac:∀ r',r.le r'→OR P r' q' o w.heap[q.ak]?):
 ∃ r',r' h.nx=some q'∧St P G T r h w r' h' w:=by
 have M:=hr.del I;have ae:=hr.GC I;unfold Hb.cV at hn;replace hn:=aY hn; obtain ⟨J,hn⟩:=hn;cases hn;simp only at hT J;have hle:=Rn.qk (i:=h.nx) q'<|hr.new h.nx (aQ _) ab;have O:∀ g,g≤G→Fr g r h q.ak:=fun g A=>⟨b,_,q,cS A (bP U),hb,L,rfl⟩
 refine ⟨r.ext h.nx q',Rn.gI _ _ _,hle,M.put hle J (Rn.gI _ _ _) (by rw [E]; exact ac _ hle) (fun _ _ _=>rfl) (fun j ah ai ag A ad he=> ?_) (lD _) (fun k C aa=> ?_),lD _,Md.refl _ _,fun g A k C V=> ?_,fun k C=>Rn.jy _ _<|by simp only at C; omega⟩
 · rw [Tr.ow _ _ _ I] at A;split at A
   · cases A
   · rename_i Z;exact Z<|hr.inj j b _ _ _ _ A hb ad L<|by rw [he,E]
 · simp only at C; rw [Rn.jy _ _ ab]; exact hr.new k ab aa
 · rcases Fr.set J (Rn.gI _ _ _) hle M V with h1 | h1
   · rw [h1,E]; exact O g A
   · exact ae.dR g A k C h1
theorem KS (hr:HR P G r T h w) {t b o n c i:Nat} {h':Hp} {v:AV} {k:bu} (hn:xE P G t b o n c i h=some (v,h')) (hT:h'.nx≤T) (ai:den r (.sl b o n c false)=some (ev N σ x)) (aj:ev N σ y= .int k (kp i)):YM P G r T N σ ⟨dst,.slice t x (some y) none none,ty,pos,af,g⟩ h w v h':=by
 unfold xE at hn;split at hn
 · rename_i e he;replace hn:=aY hn; obtain ⟨C,hn⟩:=hn;simp only [a0] at C;obtain rfl :=bO C.1;obtain ⟨_,M,O⟩:=C;split at hn
   · rename_i l aA fz ex hb;split at hn
     · rename_i e' E;replace hn:=aY hn; obtain ⟨A,hn⟩:=hn;simp only [a0] at A;obtain rfl :=bO A.1;have d1:=bO A.2.1;have d2:=bP A.2.2;split at hn
       · rename_i ao ac;cases hn;obtain ⟨q,I,aq,hu⟩:=rV ai;obtain ⟨q',J,cc,fr,us,al,ar,au,av,aw,ax,ay,am⟩:=hr.live b _ hb;rw [I] at J; cases J;have az:=am e E;have ah:=xu (dst:=dst) (ty:=ty) (pos :=pos) (af:=af) (g:=g) (w:=w) he hu aj ⟨fI _,Int.le_refl _⟩;have ag:(c+i+(q.room - c - i))*e=q.room*e:=by congr 1; omega
         rw [mo,mo] at ag;obtain ⟨ad,V,ap,Z⟩:∃ ad:Nat,eb (some ⟨q.ak,q.sh+o,none⟩) (q.room - c) i e=some ⟨q.ak,ad,none⟩∧q.sh≤ad∧ad+(q.room - c - i)*e≤cc.size:=by
          unfold eb; split
          · rename_i h0;refine ⟨_,U,ab,?_⟩;rw [show q.room - c - i=0 from by omega,uj]; omega
          · exact ⟨q.sh+o+i*e,by rw [fu,fP],ab,ab⟩
         obtain ⟨r',ae,bo⟩:=hr.IM (q':=⟨q.ak,ad,q.room - c - i⟩) hb O I M rfl ac hT fun r' hle=>by
          refine ⟨cc,fr,[],al,by simp [aI],by simp only [lB,lC]; omega,fun j u aa=>by simp at aa,by simp only; omega,fun u hu=>by simp at hu,⟨(fun h=>by cases h),fun h=>absurd U h⟩,fun s L=> ?_⟩;rw [E] at L; cases L;exact Z
         refine ⟨r',_,w,?_,.inl ah,bo⟩;rw [n8 ae (by simp)];simp [V]
       · cases hn
     · cases hn
   · cases hn
 · cases hn
theorem FR (hr:HR P G r T h w) {t:av} {a v:AV} {h':Hp} (hn:uJ P G t a h=some (v,h')) (M:den r a=some (ev N σ x)):YM P G r T N σ ⟨dst,.call ⟨.builtin .clear,#[x],#[t]⟩,ty,pos,af,g⟩ h w v h':=by
 have E:∀ {u:ag} {w':ah},(tN #[t] ty #[ev N σ x]).run P w= .ok u w'→(execOp (ev N σ) ⟨dst,.call ⟨.builtin .clear,#[x],#[t]⟩,ty,pos,af,g⟩).run P w= .ok (.value u) w':=by
  intro u w' h;simp [execOp,resolve,invoke,builtin,h]
 unfold uJ at hn;split at hn
 · replace hn:=aY hn; obtain ⟨A,hn⟩:=hn;cases hn;obtain ⟨e,he⟩:=qh A;have hu:=hH M;exact ⟨r,undef,w,ir r,.inl (E<|by rw [hu]; simp [tN,bt he]; rfl),St.refl hr⟩
 · rename_i b o n c q;split at hn
   · rename_i e s ap ao aa;obtain ⟨i,zv,hu,hi,ac,rfl,rfl,aj,au,ae,ai,aw⟩:=tl (r:=r) aa;obtain ⟨U,cap,Z,aq,O,_⟩:=iw M;split at hn
     · cases hn;exact ⟨r,undef,w,ir r,.inl (E<|by rw [O]; simp [tN,bt hu]; rfl),St.refl hr⟩
     · rename_i V;split at hn
       · rename_i l e' fz ex hb;replace hn:=aY hn; obtain ⟨A,hn⟩:=hn;simp only [a0] at A;obtain ⟨⟨C,c2⟩,c3,c4⟩:=A;have C:=bP C;have c2:=bP c2;cases hn;have I:=sQ ae n;have hlen:=db I;have J:(ka ao n).length=n*i.size:=by
          rw [← hlen]; simp [List.length_flatten,aj]
         obtain ⟨cc,fr,al,ax,ay,am,bo⟩:=hr.Ci (o:=o) hb c3 c4 Z I (wQ ai n) (by rw [J]; exact C) c2;have L:=run_storeCells_atF P U.ak (U.sh+o) e' fr _ 0 cc w al ab ab am;simp only [lC] at L;rw [J] at bo;refine ⟨r,undef,_,ir r,.inl (E ?_),bo⟩;rw [O];have ad:(DI zv.cells n).toList=(cZ n zv.cells.toList).flatten:=by
          have :=wN zv.cells ab n;have :=congrArg Array.toList this;simpa [DI] using this
         have ar:n≠0:=fun h=>V<|by rw [h]
         obtain ⟨m,rfl⟩:∃ m,n=m+1:=⟨n - 1,ab⟩
         simp [tN,bt hu,zeroValue,de hi,ac,ad,L];rfl
       · cases hn
   · cases hn
 · cases hn
theorem Bf {x:AV} {kx:ag} {A:KK} (E:dD A x=true) (C:den r x=some kx):∀ {l:List (AV×AV)} {es:List MapEntry} {j:Nat} {e':MapEntry},fZ r l es→eZ A l=true→
 es[j]? =some e'→e'.key=kx→(es.map fun e=>e.key).Nodup→fZ r (kJ x l) (es.eraseIdx j)
 | [],[],j,e',_,_,hj,_,_=>by simp at hj
 | [],_::_,_,_,hm,_,_,_,_=>hm.elim
 | _::_,[],_,_,hm,_,_,_,_=>hm.elim
 | q::l,e::es,0,e',hm,hk,hj,hk',_=>by
   simp only [eZ] at hk;cases h1:dD A q.1
   · rw [h1] at hk; cases hk
   · simp only [iK,bM] at hj;subst hj;simp only [kJ,(kK h1 E hm.1 C).2 hk',cond_true];exact hm.2.2
 | q::l,e::es,j+1,e',hm,hk,hj,hk',hn=>by
   simp only [eZ] at hk;cases h1:dD A q.1
   · rw [h1] at hk; cases hk
   · rw [h1] at hk;simp only [iJ] at hj;simp only [gn,ud] at hn;have he:fX q.1 x=false :=by
      cases hq:fX q.1 x
      · rfl
      · have :=(kK h1 E hm.1 C).1 hq;exact absurd (mh.2 ⟨e',mi hj,hk'.trans this.symm⟩) hn.1
     simp only [kJ,he,cond_false];exact ⟨hm.1,hm.2.1,Bf E C hm.2.2 hk hj hk' hn.2⟩
theorem AQ {x:AV} {kx:ag} {A:KK} (E:dD A x=true) (C:den r x=some kx):∀ {l:List (AV×AV)} {es:List MapEntry},fZ r l es→eZ A l=true→(∀ e∈es,e.key≠kx)→kJ x l=l
 | [],_,_,_,_=>rfl
 | q::l,[],hm,_,_=>hm.elim
 | q::l,e::es,hm,hk,hn=>by
   simp only [eZ] at hk;cases h1:dD A q.1
   · rw [h1] at hk; cases hk
   · rw [h1] at hk;have he:fX q.1 x=false :=by
      cases hq:fX q.1 x
      · rfl
      · exact absurd ((kK h1 E hm.1 C).1 hq)<|hn e gS
     simp only [kJ,he,cond_false,AQ E C hm.2.2 hk (fun e he=>hn e<|gR _ he)]
theorem GB (hr:HR P G r T h w) {t E:av} {b:Nat} {k v:AV} {h':Hp} (hp:uS P G t b k h=some (v,h')) (ao:den r (.map b)=some (ev N σ x)) (C:den r k=some (ev N σ y)):YM P G r T N σ ⟨dst,.call ⟨.builtin .delete,#[x,y],#[t,E]⟩,ty,pos,af,g⟩ h w v h':=by
 have U:∀ {u:ag} {w':ah},(ya #[t,E] ty #[ev N σ x,ev N σ y]).run P w= .ok u w'→(execOp (ev N σ) ⟨dst,.call ⟨.builtin .delete,#[x,y],#[t,E]⟩,ty,pos,af,g⟩).run P w= .ok (.value u) w':=by
  intro u w' h;simp [execOp,resolve,invoke,builtin,h]
 unfold uS at hp;split at hp
 · rename_i l hb;split at hp
   · rename_i ar e V;split at hp
     · rename_i ap ai;replace hp:=aY hp; obtain ⟨I,hp⟩:=hp;simp only [a0] at I;obtain ⟨⟨ac,ad⟩,hka,hkl⟩:=I;cases hp;obtain ⟨q,es,c,M,hw,hm,hn⟩:=hr.map hb;obtain ⟨q',O,hu⟩:=mH ao;rw [M] at O; cases O;have A:=vO ai;have hi:=sr hka C;have ae:∀ e∈es.toList,oA ap e.key:=r5 rfl (sA hm hkl);have aj:=(dm.1 hw).1;have st:∀ (es':Array MapEntry),fZ r (kJ k l) es'.toList→(es'.toList.map fun e=>e.key).Nodup→St P G T r h w r ⟨h.t.set b (.map<|kJ k l),h.nx⟩ {w with heap:=w.heap.setIfInBounds q.ak<|.map es' c} :=fun es' Z aa=>
        hr.kQ hb ad M (bP ac) ⟨es',c,by simp only; rw [x7 aj],Z,aa⟩ ⟨rfl,rfl,by simp,fun i _ al=>by simp only; rw [xZ (fun e=>al e.symm)]⟩
       rcases A.find w (ev N σ y) es.toList hi ae with ⟨h1,am⟩ | ⟨j,e',h1,L,ab⟩
       · refine ⟨r,undef,_,ir r,.inl (U ?_),st es (by rw [AQ hka C hm hkl am]; exact hm) hn⟩;rw [hu];simp [ya,bt V,run_getObj_map hw,A.check _ w _ hi,h1,setObj,ln,hw];rfl
       · have aq:=(cK.1 L).1;have J:(es.eraseIdxIfInBounds j).toList=es.toList.eraseIdx j:=by simp
         refine ⟨r,undef,_,ir r,.inl (U ?_),st (es.eraseIdxIfInBounds j) (by rw [J]; exact Bf hka C hm hkl L ab hn) (by
          rw [J];exact List.Nodup.sublist (Ml _<|List.eraseIdx_sublist _ _) hn)⟩
         rw [hu];simp [ya,bt V,run_getObj_map hw,A.check _ w _ hi,h1,setObj,ln,hw];rfl
     · cases hp
   · cases hp
 · cases hp
theorem La (hr:HR P G r T h w) {A it:av} {a b v:AV} {h':Hp} (hp:xM P G A a b h=some (v,h')) (Z:den r a=some (ev N σ x)) (aa:den r b=some (ev N σ y)):YM P G r T N σ ⟨dst,.call ⟨.builtin .unsafeString,#[x,y],#[A,it]⟩,ty,pos,af,g⟩ h w v h':=by
 have O:∀ {u:ag} {w':ah},(Builtin.unsafeString_ #[A,it] ty #[ev N σ x,ev N σ y]).run P w= .ok u w'→(execOp (ev N σ) ⟨dst,.call ⟨.builtin .unsafeString,#[x,y],#[A,it]⟩,ty,pos,af,g⟩).run P w= .ok (.value u) w':=by
  intro u w' h;simp [execOp,resolve,invoke,builtin,h]
 have al:den r (.str [])=some (.string .empty):=rfl;unfold xM at hp;split at hp
 · cases hp;obtain ⟨q,M,hu⟩:=iu Z;have E:=cP aa;exact ⟨r,_,w,al,.inl (O<|by rw [hu,E]; exact DZ w A it ty _),St.refl hr⟩
 · cases hp;have hu:=oa Z;have E:=cP aa;exact ⟨r,_,w,al,.inl (O<|by rw [hu,E]; exact DZ w A it ty _),St.refl hr⟩
 · rename_i I n _;split at hp
   · rename_i l e fz ex hb;have key:ex≠.a→cond ((ptrTo P A e && (bf n l.length && (aD 0 n && aD n 1000000000))) && (bf G I && aD I cm)) (match na (l.take n) with
      | some m=>some (AV.str m,(⟨h.t.set I (.cells l e (max fz n) .z),h.nx⟩:Hp))
      | none=>none) none=some (v,h')→YM P G r T N σ ⟨dst,.call ⟨.builtin .unsafeString,#[x,y],#[A,it]⟩,ty,pos,af,g⟩ h w v h':=by
      intro hex hp;replace hp:=aY hp; obtain ⟨aj,hp⟩:=hp;simp only [a0] at aj;obtain ⟨⟨C,ae,c2,c3⟩,hG,hbm⟩:=aj;have ae:=bP ae;have c2:=cB.1 c2;have c3:=cB.1 c3;split at hp
      · rename_i m hm;cases hp;obtain ⟨q,M,cc,fr,us,ac,ad,aB,ap,aC,aE,aF,aG⟩:=hr.live I _ hb;have V:=aF.2 hex;obtain ⟨q',ao,hu⟩:=iu Z;rw [M] at ao; cases ao;have E:=cP aa;rw [V] at hu;have au:=iS n ad;have ai:=xI hm au;have aH:=db ad;have J:m.length=n:=by
         have :=congrArg jh ai;simp [rA] at this;omega
        unfold ptrTo at C;split at C
        · rename_i e' aw;simp only [a0,beq_iff_eq] at C;obtain ⟨rfl,aq⟩:=C;have aA:w.shape? q.ak=some (e',cc.size):=by simp [World.shape?,ac]
          have L:m≠[]:=fun h=>by rw [h] at J; simp at J; omega
          have ar:=Lib.run_unsafeString_row (P:=P) w A it ty e' aw aq q.ak cc.size aA m L ab ab (fun j u ax=>by
           have h1:us[j]? =some (.int .u8 u.toNat):=by
            have :(us.take n)[j]? =some (.int .u8 u.toNat):=by rw [ai]; simp [U8,ax]
            rw [iL] at this;split at this
            · exact this
            · cases this
           rw [fP,js,bh ac,cM];have :=ap j _ h1;rwa [V,cM] at this)
          have am:lr w ⟨q.ak,0,none⟩ m.length= {w with heap:=w.heap.modify q.ak fun
           | .cells c elem (lo,hi)=> .cells c elem (if lo==hi then (0,0 +m.length) else (min lo 0,max hi (0 +m.length)))
           | o=>o} :=by
           unfold lr;rw [if_neg ab];rfl
          obtain ⟨lo,hi⟩:=fr;have az:(lr w ⟨q.ak,0,none⟩ m.length).heap[q.ak]? =some (.cells cc e' (if lo==hi then (0,0 +m.length) else (min lo 0,max hi (0 +m.length)))):=by
           rw [am];simp only [Dx,if_true,ac];rfl
          refine ⟨r,.string ⟨m.toArray⟩,lr w ⟨q.ak,0,none⟩ m.length,U,.inl (O ?_),hr.kQ hb hbm M (bP hG) ?_ ?_⟩
          · rw [hu,E,← J]; exact ar
          · rw [az];refine ⟨cc,_,us,U,ad,aB,ap,?_,aE,⟨(fun h=>by cases h),fun _=>V⟩,aG⟩;simp only at aC;split <;> simp only <;> omega
          · rw [am];exact ⟨U,U,by simp,fun k _ ay=>by simp only [Dx]; rw [if_neg (fun e=>ay e.symm)]⟩
        · cases C
      · cases hp
     split at hp
     · cases hp
     · rename_i L;exact key L hp
   · cases hp
 · cases hp
theorem I6 (hr:HR P G r T h w) {o:Op} {xs:List AV} {v:AV} {h':Hp} (A:sJ P G o xs h=some (v,h')) (hT:h'.nx≤T) (I:aI r xs=some ((gh o).map<|ev N σ)):YM P G r T N σ ⟨dst,o,ty,pos,af,g⟩ h w v h':=by
 have two:∀ {a b:AV} {l:List aW},aI r [a,b]=some (l.map<|ev N σ)→∃ x y,l= [x,y]∧den r a=some (ev N σ x)∧den r b=some (ev N σ y):=by
  intro a b l h;have :=db h;simp at this;obtain ⟨x,y,rfl⟩:∃ x y,l= [x,y]:=by
   match l,this with
   | [x,y],_=>exact ⟨x,y,rfl⟩
  exact ⟨x,y,U,gX h⟩
 have one:∀ {a:AV} {l:List aW},aI r [a]=some (l.map<|ev N σ)→∃ x,l= [x]∧den r a=some (ev N σ x):=by
  intro a l h;have :=db h;simp at this;obtain ⟨x,rfl⟩:=rf.1 this;exact ⟨x,U,eF h⟩
 unfold sJ at A;split at A
 · rename_i C t ad;split at A
   · obtain ⟨C⟩:=C;obtain ⟨x,y,rfl,E,J⟩:=two I;exact Fa hr A hT E J
   · cases A
 · rename_i C t;split at A
   · obtain ⟨C⟩:=C;obtain ⟨x,rfl,E⟩:=one I;exact FR hr A E
   · cases A
 · rename_i C t Z;split at A
   · obtain ⟨C⟩:=C;obtain ⟨x,y,rfl,E,J⟩:=two I;exact GB hr A E J
   · cases A
 · rename_i C ac;obtain ⟨C⟩:=C;split at A
   · cases A;obtain ⟨x,rfl,E⟩:=one I;exact ⟨r,_,w,U,.inl (xL (v:= .nilFunc) (hH E)<|.inl U),St.refl hr⟩
   · replace A:=aY A; obtain ⟨M,A⟩:=A;have M:=cB.1 M;cases A;obtain ⟨x,rfl,E⟩:=one I;obtain ⟨q,cap,V,hn,hu,_⟩:=iw E;exact ⟨r,_,w,by simp only [den,V],.inl (xL (v:= .nilFunc) hu<|.inr ab),St.refl hr⟩
   · cases A
 · rename_i C aa it;split at A
   · obtain ⟨C⟩:=C;obtain ⟨x,y,rfl,E,J⟩:=two I;exact La hr A E J
   · cases A
 · split at A
   · obtain ⟨h1,L⟩:=gX I;exact KS hr A hT h1<|cP L
   · cases A
 · split at A
   · obtain ⟨h1,L,O⟩:=lM I;exact IX hr A hT h1 (cP L)<|cP O
   · cases A
 · cases A
end
end Go.Hb
namespace Go.Hb
def jx:EX→bp
 | .bw=> .normal
 | .ret=> .ret
 | .ext i=> .exit i
def ju (r:Rn):List AD→List Deferred→Prop
 | [],[]=>True
 | .mark d::l,x::m=>(∃ q,r d=some q∧x= {target:= .collected q.ak,args:= #[]})∧ju r l m
 | .fn f args::l,x::m=>(∃ (a:List ag) (cap A:Array ag),aI r args=some a∧x= {target:= .fn (.func f) cap,args:=A}∧A++cap=a.toArray)∧ju r l m
 | _,_=>False
def qz (r:Rn):Option Nat→Option Nat→Prop
 | none,none=>True
 | some l,some k=> ∃ q,r l=some q∧q.ak=k
 | _,_=>False
theorem mG {r s:Rn} (h:r.le s):∀ {D:List AD} {m:List Deferred},ju r D m→ju s D m
 | [],[],_=>trivial
 | [],_::_,h'=>h'.elim
 | .mark d::l,[],h'=>h'.elim
 | .fn f args::l,[],h'=>h'.elim
 | .mark d::l,x::m,⟨⟨q,h1,h2⟩,h3⟩=>⟨⟨q,h _ _ h1,h2⟩,mG h h3⟩
 | .fn f args::l,x::m,⟨⟨a,cap,as_,h1,h2⟩,h3⟩=>⟨⟨a,cap,as_,gY h h1,h2⟩,mG h h3⟩
theorem BR {r s:Rn} (h:r.le s) {a b:Option Nat} (hr:qz r a b):qz s a b:=by
 cases a <;> cases b
 · trivial
 · exact hr.elim
 · exact hr.elim
 · obtain ⟨q,h1,A⟩:=hr; exact ⟨q,h _ _ h1,A⟩
theorem dV.le {r s:Rn} (h:r.le s) {n:Nat} {fr:Tr AV} {σ:Nat→ag} (A:dV r n fr σ):dV s n fr σ:=fun i hi=>kB h<|A i hi
def dx (P:au) (G:Nat) (rd:Option Nat) (n:Nat) (W:Option Nat→(bp→Act→ah→Prop)→Act→ah→Prop) (fr:Tr AV) (D:List AD) (h:Hp) (e:EX) (E:Tr AV) (C:List AD) (h':Hp):Prop :=
 h.nx≤h'.nx∧∀ (T:Nat) (r:Rn) (w:ah) (σ:Nat→ag) (Dl:List Deferred) (rr:Option Nat) (Q:bp→Act→ah→Prop),h'.nx≤T→HR P G r T h w→dV r n fr σ→ju r D Dl→qz r rd rr→
  (∀ (r':Rn) (w':ah) (σ':Nat→ag) (A:List Deferred),St P G T r h w r' h' w'→dV r' n E σ'→ju r' C A→Q (jx e) (act ⟨n,A,[],rr⟩ σ') w')→W rr Q (act ⟨n,Dl,[],rr⟩ σ) w
def jl (P:au) (G:Nat) (f:Nat) (args:List AV) (h:Hp) (v:AV) (h':Hp):Prop :=
 h.nx≤h'.nx∧∀ (T:Nat) (r:Rn) (w:ah) (L:List ag),h'.nx≤T→HR P G r T h w→aI r args=some L→bj P f L.toArray w fun u w'=> ∃ r',den r' v=some u∧St P G T r h w r' h' w'
def ur (P:au) (G:Nat) (l:Nat) (args:List AV) (h:Hp) (v:AV) (h':Hp):Prop :=
 h.nx≤h'.nx∧∀ (T:Nat) (r:Rn) (w:ah) (L:List ag) (q:Loc),h'.nx≤T→HR P G r T h w→aI r args=some L→r l=some q→YieldAt eN 0 P q.ak L.toArray w fun e w'=> ∃ u r',e= .returned u∧den r' v=some u∧St P G T r h w r' h' w'
def EU (P:au) (G:Nat) (f:Nat) (args:List AV) (h h':Hp):Prop :=
 h.nx≤h'.nx∧∀ (T:Nat) (r:Rn) (w:ah) (L:List ag),h'.nx≤T→HR P G r T h w→aI r args=some L→CallsDIn eN 0 P f L.toArray .returning w fun e A w'=> ∃ v,e= .returned v∧A= .returning∧∃ r',St P G T r h w r' h' w'
def tH (P:au) (c:bL) (rr:Option Nat) (Q:bp→Act→ah→Prop) (a:Act) (w:ah):Prop :=
 ∀ (b:Frame) (k:List Item) (cs:List Frame),b.roundOf=(fe rr).round→(fe rr).fn b.fn→(fe rr).room (cs.length+1 +0)→
   ∃ e A w',Q e A w'∧ArrivesIn (Machine.fenced P<|fe rr) P (lone (b.atR a (.code c:: .inLoop c::k)) cs w) b k cs e A w'
def lI (P:au) (G:Nat):Tk→Rs→Prop
 | .cd rd n c fr D h,.cd e fr' D' h'=>dx P G rd n (fun rr Q a w=>c.wpIn (fe rr) 0 P Q a w) fr D h e fr' D' h'
 | .lp rd n c fr D h,.cd e fr' D' h'=>dx P G rd n (tH P c) fr D h e fr' D' h'
 | .cl f args h,.rv v h'=>jl P G f args h v h'
 | .yl l args h,.rv v h'=>ur P G l args h v h'
 | .df f args h,.rv v h'=>EU P G f args h h'
 | _,.no=>True
 | _,_=>False
def Good (P:au) (G:Nat) (ih:Tk→Rs):Prop := ∀ t,lI P G t (ih t)
def iq (P:au) (G:Nat) (X:Xt):Prop := ∀ f e,X f=some e→∀ xs h v h',e xs h=some (v,h')→h.nx≤h'.nx∧∀ (T:Nat) (r:Rn) (w:ah) (us:List ag),h'.nx≤T→HR P G r T h w→aI r xs=some us→
 ∃ r' u w',den r' v=some u∧(callFunc f us.toArray).run P w= .ok (.value u) w'∧St P G T r h w r' h' w'
def gq (P:au):Prop := ∀ f fn c,P.funcs[f]? =some fn→fn.body=some c→gr P f
section
variable {P:au} {G:Nat} {r:Rn} {T:Nat} {h:Hp} {w:ah} {N:Fm} {σ:Nat→ag} {dst:Option Nat} {ty:av} {pos :String} {af:Array bT} {g:Option (Nat×Bool)} {x y z:aW} {K:Act→ah→Prop} {Q:bp→Act→ah→Prop}
theorem tG {o:aB} (hn:∀ c,o.op≠.defer c) {u:ag} {w':ah} (hr:(execOp (ev N σ) o).run P w= .ok (.value u) w'∨(execOp (ev N σ) o).run P w= .ok .skip w'∧u=undef) (A:K ((act N σ).put o.dst u) w'):o.wpIn (fe N.r) 0 P (act N σ) w K Q:=by
 refine ⟨fun f _=>jW _ f,?_⟩;rw [mL,qZ _ _ _ hn,dr];rcases hr with hr | ⟨hr,rfl⟩
 · rw [hr]; exact A
 · rw [hr]; exact A
theorem zc {f:Nat} {fo:aW} {first cap:Array ag} {args:Array aW} {A:Array av} (C:ev N σ fo= .func (.func f) first cap):(execOp (ev N σ) ⟨dst,.call ⟨.value fo,args,A⟩,ty,pos,af,g⟩).run P w=(callFunc f<|first++args.map (ev N σ)++cap).run P w:=by
 simp only [execOp,resolve,C,mb,ij,ko,gQ,invoke]
end
end Go.Hb
namespace Go.Hb
section
variable {P:au} {G:Nat} {h:Hp}
theorem j3 {o:AO} {h':Hp} (hn:cV h o=some h'):h'.nx=h.nx+1:=by
 unfold cV at hn;replace hn:=aY hn; obtain ⟨_,hn⟩:=hn;cases hn; rfl
theorem BP {t:av} {b:Nat} {k v:AV} {h':Hp} (hp:oL P t b k v h=some h'):h'.nx=h.nx:=by
 unfold oL at hp;split at hp
 · split at hp
   · split at hp
     · replace hp:=aY hp; obtain ⟨_,hp⟩:=hp; cases hp; rfl
     · cases hp
   · cases hp
 · cases hp
theorem KA {t b o:Nat} {v:AV} {h':Hp} (A:qH P G t b o v h=some h'):h'.nx=h.nx:=by
 unfold qH at A;split at A
 · split at A
   · replace A:=aY A; obtain ⟨_,A⟩:=A; cases A; rfl
   · cases A
 · cases A
theorem I4 {o:Op} {xs:List AV} {v:AV} {h':Hp} (A:oI P G o xs h=some (v,h')):h.nx≤h'.nx:=by
 unfold oI at A;split at A
 · split at A
   · split at A
     · replace A:=aY A; obtain ⟨_,A⟩:=A;split at A
       · rename_i hn; cases A; have :=j3 hn; omega
       · cases A
     · cases A
   · cases A
 · split at A
   · replace A:=aY A; obtain ⟨_,A⟩:=A;split at A
     · rename_i hn; cases A; have :=j3 hn; omega
     · cases A
   · cases A
 · split at A
   · rename_i hn; cases A; have :=j3 hn; omega
   · cases A
 · split at A
   · replace A:=aY A; obtain ⟨_,A⟩:=A;split at A
     · replace A:=aY A; obtain ⟨_,A⟩:=A;split at A
       · rename_i hn; cases A; have :=j3 hn; omega
       · cases A
     · cases A
   · cases A
 · split at A
   · split at A
     · replace A:=aY A; obtain ⟨_,A⟩:=A;split at A
       · rename_i hn; cases A; have :=j3 hn; omega
       · cases A
     · cases A
   · cases A
 · split at A
   · split at A
     · rename_i C; cases A; have :=KA C; omega
     · cases A
   · cases A
 · split at A
   · replace A:=aY A; obtain ⟨_,A⟩:=A;split at A
     · rename_i hp; cases A; have :=BP hp; omega
     · cases A
   · cases A
 · split at A
   · replace A:=aY A; obtain ⟨_,A⟩:=A;split at A
     · rename_i hp; cases A; have :=BP hp; omega
     · cases A
   · cases A
 · cases A
end
section
variable {P:au} {G:Nat} {X:Xt} {ih:Tk→Rs} {n:Nat}
def jS (P:au) (G:Nat) (o:Op) (xs:List AV) (h:Hp) (v:AV) (h':Hp):Prop :=
 h.nx≤h'.nx∧∀ (T:Nat) (r:Rn) (w:ah) (N:Fm) (σ:Nat→ag) (dst:Option Nat) (ty:av) (pos :String) (af:Array bT) (g:Option (Nat×Bool)) (K:Act→ah→Prop) (Q:bp→Act→ah→Prop),h'.nx≤T→HR P G r T h w→aI r xs=some ((gh o).map<|ev N σ)→
  (∀ (r':Rn) (u:ag) (w':ah),den r' v=some u→St P G T r h w r' h' w'→K ((act N σ).put dst u) w')→(Oper.mk dst o ty pos af g).wpIn (fe N.r) 0 P (act N σ) w K Q
theorem jS.run {o:Op} {xs:List AV} {h h':Hp} {v:AV} (hn:∀ c,o≠.defer c) (L:h.nx≤h'.nx)
 (hr:∀ (T:Nat) (r:Rn) (w:ah) (N:Fm) (σ:Nat→ag) (dst:Option Nat) (ty:av) (pos :String) (af:Array bT) (g:Option (Nat×Bool)),h'.nx≤T→HR P G r T h w→aI r xs=some ((gh o).map<|ev N σ)→YM P G r T N σ ⟨dst,o,ty,pos,af,g⟩ h w v h'):jS P G o xs h v h':=
 ⟨L,fun T r w N σ dst ty pos af g K Q hT I E J=>by
  obtain ⟨r',u,w',h1,A,C⟩:=hr T r w N σ dst ty pos af g hT I E;exact tG hn A (J r' u w' h1 C)⟩
theorem FJ (aj:Good P G ih) (aq:iq P G X) (ap:gq P) (aw:∀ f args h v h',ih (.cl f args h)= .rv v h'→∃ fn c,P.funcs[f]? =some fn∧fn.body=some c) {fo:aW} {I:List aW} {ab:Array av} {f:AV} {args:List AV} {h h':Hp} {v:AV} (C:rK X ih f args h= .v v h'):
 jS P G (.call ⟨.value fo,⟨I⟩,ab⟩) (f::args) h v h':=by
 have ae:∀ c,Op.call ⟨.value fo,⟨I⟩,ab⟩≠.defer c:=fun c e=>by cases e
 unfold rK at C;split at C
 · rename_i f a c;split at C
   · rename_i e he;split at C
     · rename_i v1 h1 ag;cases C;obtain ⟨aa,E⟩:=aq f e he _ _ _ _ ag;refine jS.run ae aa fun T r w N σ dst ty pos af g hT Z U=> ?_;obtain ⟨u,us,A,V,O⟩:=dQ U;simp only [gh,gn,lx] at A;obtain ⟨A,rfl⟩:=A;obtain ⟨J,c',ha,ac,rfl⟩:=lO V;obtain ⟨r',u,w',L,M,ao⟩:=E T r w _ hT Z<|fi ha<|fi O ac;refine ⟨r',u,w',L,.inl ?_,ao⟩;rw [zc A];have :J.toArray++(⟨I⟩:Array aW).map (ev N σ)++c'.toArray=(J++(I.map (ev N σ)++c')).toArray:=by simp
       rw [this]; exact M
     · cases C
   · split at C
     · rename_i v1 h1 am;cases C;have E:=aj<|.cl f (a++(args++c)) h;rw [am] at E;obtain ⟨aa,E⟩:=E;obtain ⟨fn,cd,ax,ar⟩:=aw _ _ _ _ _ am;have au:=ap f fn cd ax ar;refine ⟨aa,fun T r w N σ dst ty pos af g K Q hT Z U ad=> ?_⟩;obtain ⟨u,us,A,V,O⟩:=dQ U;simp only [gh,gn,lx] at A;obtain ⟨A,rfl⟩:=A;obtain ⟨J,c',ha,ac,rfl⟩:=lO V;have az:=E T r w _ hT Z<|fi ha<|fi O ac;refine ⟨fun f _=>jW _ f,?_⟩;rw [mL,qZ _ _ _ ae,dr,zc A];have :J.toArray++(⟨I⟩:Array aW).map (ev N σ)++c'.toArray=(J++(I.map (ev N σ)++c')).toArray:=by simp
       rw [this,au];simp only [Oper.uponIn_enter];refine ⟨fun h0=>(by rw [mK] at h0; cases h0),CallsIn.mono (r9 az) ?_⟩;rintro e w' ⟨u,rfl,r',L,M⟩;exact ad r' u w' L M
     · cases C
 · rename_i l;split at C
   · rename_i v1 h1 aB;cases C;have E:=aj<|.yl l args h;rw [aB] at E;obtain ⟨aa,E⟩:=E;refine ⟨aa,fun T r w N σ dst ty pos af g K Q hT Z U ad=> ?_⟩;obtain ⟨u,us,A,V,O⟩:=dQ U;simp only [gh,gn,lx] at A;obtain ⟨A,rfl⟩:=A;obtain ⟨q,ay,rfl⟩:=uT V;obtain ⟨fn,tmps,ah,ai,aA,al⟩:=E T r w _ q hT Z O ay;refine ⟨fun f _=>jW _ f,?_⟩;rw [mL,qZ _ _ _ ae,dr];have ag:(execOp (ev N σ) ⟨dst,.call ⟨.value fo,⟨I⟩,ab⟩,ty,pos,af,g⟩).run P w= .ok (.round q.ak fn tmps ah ai) w:=by
      have hm:(⟨I⟩:Array aW).map (ev N σ)=(I.map<|ev N σ).toArray:=by simp
      simp only [execOp,resolve,A,mb,ij,ko,gQ,invoke];simp [aA]
     rw [ag];simp only [q6];refine ⟨fun h0=>(by rw [mK] at h0; cases h0),?_⟩;have h1:RoundIn (fe N.r) (0 - 1) P q.ak fn tmps ah ai w fun e w'=> ∃ u r',e= .returned u∧den r' v=some u∧St P G T r h w r' h' w':=by
      cases hr:N.r with
      | none=>exact al
      | some k=>exact al
     refine RoundIn.mono h1 ?_;rintro e w' ⟨u,r',rfl,L,M⟩;exact ad r' u w' L M
   · cases C
 · cases C
theorem BH (U:Good P G ih) (V:iq P G X) (O:gq P) (Z:∀ f args h v h',ih (.cl f args h)= .rv v h'→∃ fn c,P.funcs[f]? =some fn∧fn.body=some c) {o:Op} {xs:List AV} {h h':Hp} {v:AV} (A:qw P G X ih o xs h= .v v h'):jS P G o xs h v h':=by
 unfold qw at A;split at A
 · rename_i v1 hp;cases A;have E:∀ c,o≠.defer c:=fun c e=>by subst e; simp [mX] at hp
   refine jS.run E (aQ _) fun T r w N σ dst ty pos af g hT C I=> ?_;obtain ⟨u,h1,J⟩:=BG (dst:=dst) (ty:=ty) (pos :=pos) (af:=af) (g:=g) hp I;exact ⟨r,u,w,h1,.inl (J w),St.refl C⟩
 · split at A
   · rename_i v1 M;cases A;have E:∀ c,o≠.defer c:=fun c e=>by subst e; simp [iZ] at M
     refine jS.run E (aQ _) fun T r w N σ dst ty pos af g hT C I=> ?_;obtain ⟨u,h1,J⟩:=BE (dst:=dst) (ty:=ty) (pos :=pos) (af:=af) (g:=g) C M I;exact ⟨r,u,w,h1,.inl J,St.refl C⟩
   · split at A
     · rename_i fo L aa;split at A
       · obtain ⟨L⟩:=L;exact FJ U V O Z A
       · cases A
     · split at A <;> cases A
     · rename_i ab E;split at A
       · rename_i v1 h1 hm;cases A;have E:∀ c,o≠.defer c:=fun c e=>by subst e; simp [oI] at hm
         exact jS.run E (I4 hm) fun T r w N σ dst ty pos af g hT C I=>I5 C hm hT I
       · split at A
         · rename_i v1 h1 hm;cases hle:bf h.nx h1.nx
           · rw [hle] at A; cases A
           rw [hle] at A;cases A;have E:∀ c,o≠.defer c:=fun c e=>by subst e; simp [sJ] at hm
           exact jS.run E (bP hle) fun T r w N σ dst ty pos af g hT C I=>I6 C hm hT I
         · cases A
end
end Go.Hb
namespace Go.Hb
section
variable {P:au} {G:Nat} {X:Xt} {ih:Tk→Rs} {n:Nat} {r:Rn}
theorem oT {fr C:Tr AV} {d:Option Nat} {v:AV} {u:ag} {σ:Nat→ag} (A:fF n fr d v=some C) (I:dV r n fr σ) (J:den r v=some u):dV r n C (dv σ d u):=by
 cases d with
 | none=>simp only [fF,bM] at A; subst A; exact I
 | some d=>
   simp only [fF] at A;replace A:=aY A; obtain ⟨E,A⟩:=A;simp only [a0] at E;cases A;intro i hi;simp only [dv,aU,dd,Tr.kE _ _ _ _ E.2];by_cases e:i=d
   · subst e;rw [if_pos rfl,show aN i i=true from by simp]; exact J
   · rw [if_neg e,show aN i d=false from by
      cases hb:aN i d
      · rfl
      · exact absurd (bO hb) e]
     exact I i hi
theorem vy {ops:List aB} {fr:Tr AV} {o:aB} {N:Fm} {σ:Nat→ag} (A:jz N.n ops fr o.guard= .y) (C:dV r N.n fr σ):jP o (yielded ops.toArray (act N σ).tmps)=true :=by
 unfold jz at A;split at A
 · exact fh _ (by assumption) _
 · rename_i j want E;split at A
   · rename_i M I;split at A
     · rename_i t J;cases hb:aD t N.n
       · rw [hb] at A; cases A
       · rw [hb] at A;simp only [cond_true] at A;split at A
         · rename_i b L;cases hbw:(b==want)
           · rw [hbw] at A; cases A
           · have h1:=C t<|cB.1 hb;rw [L] at h1;rw [ma E (by simp [dN,I,J]) hb (iT h1),hbw]
         · cases A
         · cases A
     · cases A
   · cases A
theorem Aw {ops:List aB} {fr:Tr AV} {o:aB} {N:Fm} {σ:Nat→ag} (A:jz N.n ops fr o.guard= .n) (E:dV r N.n fr σ):jP o (yielded ops.toArray (act N σ).tmps)=false :=by
 unfold jz at A;split at A
 · cases A
 · rename_i j want I;split at A
   · rename_i M J;split at A
     · rename_i t L;cases hb:aD t N.n
       · rw [hb] at A; cases A
       · rw [hb] at A;simp only [cond_true] at A;split at A
         · rename_i b C;cases hbw:(b==want)
           · have h1:=E t<|cB.1 hb;rw [C] at h1;rw [ma I (by simp [dN,J,L]) hb (iT h1),hbw]
           · rw [hbw] at A; cases A
         · rename_i C;have h1:=E t<|cB.1 hb;rw [C] at h1;rw [ir] at h1;exact xQ I (by simp [dN,J,L]) hb (dq h1).symm
         · cases A
     · cases A
   · cases A
theorem qx (ab:Good P G ih) (ac:iq P G X) (aa:gq P) (ad:∀ f args h v h',ih (.cl f args h)= .rv v h'→∃ fn c,P.funcs[f]? =some fn∧fn.body=some c) {rd:Option Nat} {ops:List aB} :∀ {l:List aB} {fr Z:Tr AV} {D V:List AD} {h h':Hp},
 jI P G X ih rd n ops l fr D h= .cd .bw Z V h'→dx P G rd n (fun rr Q a w=>wpListIn (fe rr) 0 P ops.toArray Q l a w) fr D h .bw Z V h'
 | [],fr,Z,D,V,h,h',he=>by
   simp only [jI,Rs.cd.injEq,true_and] at he;obtain ⟨rfl,rfl,rfl⟩:=he;exact ⟨aQ _,fun T r w σ Dl rr Q hT C A I L J=>J r w σ Dl (St.refl C) A I⟩
 | o::l,fr,Z,D,V,h,h',he=>by
   simp only [jI] at he;split at he
   · rename_i ag;split at he
     · rename_i xs am;split at he
       · rename_i v h1 bQ;split at he
         · rename_i au M;obtain ⟨aE,s1⟩:=BH ab ac aa ad bQ;obtain ⟨O,s2⟩:=qx ab ac aa ad he;refine ⟨cS aE O,fun T r w σ Dl rr Q hT C A I L J=> ?_⟩;show wpListIn _ _ _ _ _ _ _ _;unfold wpListIn;rw [if_pos (vy (N:=⟨n,Dl,[],rr⟩) ag A)];obtain ⟨d,op,ty,pos,af,g⟩:=o;refine s1 T r w ⟨n,Dl,[],rr⟩ σ d ty pos af g _ Q (cS O hT) C (sG C.eX A am) fun r' u w' hu bo=> ?_;rw [eD];exact s2 T r' w' _ Dl rr Q hT bo.hr (oT M (A.le bo.le) hu) (mG bo.le I) (BR bo.le L) fun ao ap aq ah al ak aj=>J ao ap aq ah (bo.trans al) ak aj
         · cases he
       · rename_i a bQ;split at he
         · split at he
           · rename_i au M;obtain ⟨O,s2⟩:=qx ab ac aa ad he;refine ⟨O,fun T r w σ Dl rr Q hT C A I L J=> ?_⟩;have aA:rr=none:=by
              cases rr with
              | none=>rfl
              | some k=>exact L.elim
             subst aA;show wpListIn _ _ _ _ _ _ _ _;unfold wpListIn;rw [if_pos (vy (N:=⟨n,Dl,[],none⟩) ag A)];obtain ⟨d,op,ty,pos,af,g⟩:=o;simp only at bQ am M;have aD:=sG (N:=⟨n,Dl,[],none⟩) C.eX A am;unfold qw at bQ;split at bQ
             · cases bQ
             · split at bQ
               · cases bQ
               · split at bQ
                 · rename_i fo E ar;split at bQ
                   · unfold rK at bQ;split at bQ
                     · split at bQ
                       · split at bQ <;> cases bQ
                       · split at bQ <;> cases bQ
                     · split at bQ <;> cases bQ
                     · cases bQ
                   · cases bQ
                 · rename_i fo E ar _ _;split at bQ
                   · rename_i f aF c' args _ _;cases bQ;obtain ⟨E⟩:=E;obtain ⟨u,us,ae,ay,aw⟩:=dQ aD;simp only [gh,gn,lx] at ae;obtain ⟨ae,rfl⟩:=ae;obtain ⟨ai,c2,ha,ax,rfl⟩:=lO ay;refine ⟨fun f _=>trivial,?_⟩;have aC:(execOp (ev ⟨n,Dl,[],none⟩ σ) ⟨d,.defer ⟨.value fo,⟨E⟩,ar⟩,ty,pos,af,g⟩).run P w= .ok (.defer {target:= .fn (.func f) c2.toArray,args:=ai.toArray++(⟨E⟩:Array aW).map (ev ⟨n,Dl,[],none⟩ σ)}) w:=by
                      simp [execOp,resolve,ae,mb]
                     show q6 _ _ _ _ _ _ _ (ln P (Oper.semAt (fe none).round _ _) w);rw [mL,Oper.semAt_none,dr,aC];simp only [Oper.uponIn_defer];have az:({(act ⟨n,Dl,[],none⟩ σ) with defers:= {target:=Target.fn (.func f) c2.toArray,args:=ai.toArray++(⟨E⟩:Array aW).map (ev ⟨n,Dl,[],none⟩ σ)} ::(act ⟨n,Dl,[],none⟩ σ).defers} :Act)=act ⟨n,{target:= .fn (.func f) c2.toArray,args:=ai.toArray++(⟨E⟩:Array aW).map (ev ⟨n,Dl,[],none⟩ σ)} ::Dl,[],none⟩ σ:=rfl;rw [az,eD];refine s2 T r w _ _ none Q hT C (oT M A<|ir r) ⟨⟨_,_,_,fi ha (fi aw ax),U,by simp⟩,I⟩ L fun ao ap aq ah al ak aj=>J ao ap aq ah al ak aj
                   · cases bQ
                 · split at bQ
                   · cases bQ
                   · split at bQ
                     · rename_i av _;cases hle:bf h.nx av.nx
                       · rw [hle] at bQ; cases bQ
                       · rw [hle] at bQ; cases bQ
                     · cases bQ
           · cases he
         · cases he
       · cases he
     · cases he
   · rename_i ag;split at he
     · rename_i au M;obtain ⟨O,s2⟩:=qx ab ac aa ad he;refine ⟨O,fun T r w σ Dl rr Q hT C A I L J=> ?_⟩;show wpListIn _ _ _ _ _ _ _ _;unfold wpListIn;rw [if_neg (by rw [Aw (N:=⟨n,Dl,[],rr⟩) ag A]; simp)];refine ⟨fun f _=>jW _ f,?_⟩;rw [eD];exact s2 T r w _ Dl rr Q hT C (oT M A<|ir r) I L J
     · cases he
   · cases he
end
end Go.Hb
namespace Go.Hb
section
variable {P:au} {G:Nat} {X:Xt} {ih:Tk→Rs} {n:Nat} {r:Rn} {T:Nat} {h:Hp} {w:ah}
theorem HR.loop (hr:HR P G r T h w) {l:Nat} {st:LoopState} {E:Option bL} {fr:Tr AV} {ps:List Nat} {aT body:bL} {D:Nat} (M:h.t.get l=some (.loop st E n fr ps aT body D)):
 ∃ q fn A C,r l=some q∧w.heap[q.ak]? =some (.loop {state:=st,pending:=E,fn:=fn,tmps:=A,params:=ps.toArray,assign:=aT,body:=body,defers:=C})∧(∃ x,r D=some x∧x.ak=C)∧A.size=n∧∀ i,i < n→den r (dd fr i)=A[i]? :=by
 obtain ⟨q,O,fn,A,C,h1,I,J,L⟩:=hr.live l _ M;exact ⟨q,fn,A,C,O,h1,I,J,L⟩
theorem HR.xh (hr:HR P G r T h w) {l:Nat} {q:Loc} {st st':LoopState} {E pe':Option bL} {fr:Tr AV} {ps:List Nat} {aT body:bL} {D fn C:Nat} {A:Array ag} (O:h.t.get l=some (.loop st E n fr ps aT body D)) (J:bf G l=true) (hb:aD l cm=true) (Z:r l=some q)
 (hw:w.heap[q.ak]? =some (.loop {state:=st,pending:=E,fn:=fn,tmps:=A,params:=ps.toArray,assign:=aT,body:=body,defers:=C})) (I:∃ x,r D=some x∧x.ak=C) (aa:A.size=n) (L:∀ i,i < n→den r (dd fr i)=A[i]?):
 St P G T r h w r ⟨h.t.set l (.loop st' pe' n fr ps aT body D),h.nx⟩ (w.putObj q.ak<|.loop {state:=st',pending:=pe',fn:=fn,tmps:=A,params:=ps.toArray,assign:=aT,body:=body,defers:=C}):=by
 have V:=(dm.1 hw).1;refine hr.kQ O hb Z (bP J) ?_ ⟨U,U,by simp [D9],fun k _ M=>lu M⟩;rw [tT V];exact ⟨fn,A,C,U,I,aa,L⟩
theorem Cp {σ:Nat→ag} :∀ {ps:List Nat} {args:List AV} {L:List ag} {fr A:Tr AV},m6 n ps args fr=some A→dV r n fr σ→aI r args=some L→L.length=ps.length∧dV r n A ((ps.zip L).foldl (fun s p=>aU s p.1 p.2) σ)
 | [],[],L,fr,A,hs,hf,hd=>by
   simp only [m6,bM] at hs;subst hs;rw [jV hd]; exact ⟨rfl,hf⟩
 | [],_::_,_,_,_,hs,_,_=>by simp [m6] at hs
 | _::_,[],_,_,_,hs,_,_=>by simp [m6] at hs
 | p::ps,v::vs,L,fr,A,hs,hf,hd=>by
   simp only [m6] at hs;split at hs
   · rename_i O h1;obtain ⟨u,us,rfl,E,I⟩:=dQ hd;have C:=oT h1 hf E;simp only [dv] at C;obtain ⟨J,M⟩:=Cp hs C I;exact ⟨by simp [J],M⟩
   · cases hs
theorem E1 (N:Fm) (l:List (Tmp×ag)) (σ:Nat→ag):l.foldl (fun t p=>t.setIfInBounds p.1 p.2) (act N σ).tmps=(act N<|l.foldl (fun s p=>aU s p.1 p.2) σ).tmps:=yI N l σ
theorem E0 {A:Array ag} {N:Fm} (C:A.size=N.n):A=(act N fun i=>A.getD i undef).tmps:=by
 apply Array.ext_getElem?;intro i;rw [iP];by_cases hi:i < N.n
 · rw [if_pos hi,iG,nD ab]; rfl
 · rw [if_neg hi,Array.getElem?_eq_none ab]
theorem F5 {c:Bool} {p:Rs} {v:AV} {h:Hp} (A:cond c p .no= .rv v h):c=true∧p= .rv v h:=by
 cases c
 · cases A
 · exact ⟨U,A⟩
theorem L6 (aj:Good P G ih) {l:Nat} {args:List AV} {h':Hp} {v:AV} (A:qP G ih l args h= .rv v h'):ur P G l args h v h':=by
 unfold qP at A;split at A
 · rename_i bl n fr ps aT body d aR;split at A
   · rename_i aC aW;split at A
     · rename_i aD h1 aH;have s1:=aj<|.cd (some l) n aT aC [] h;rw [aH] at s1;obtain ⟨a4,s1⟩:=s1;split at A
       · rename_i aw m1 aB a5 az aA d1 al;replace A:=F5 A; obtain ⟨E,A⟩:=A;simp only [a0] at E;split at A
         · rename_i e bg I aI;have s2:=aj<|.cd (some l) n body aD [] ⟨h1.t.set l (.loop .busy aw m1 aB a5 az aA d1),h1.nx⟩;rw [aI] at s2;obtain ⟨av,s2⟩:=s2;simp only at av;split at A
           · rename_i bm au ai ax ad ae d2 am;have key:∀ (jump:Option bL) (st:LoopState),jump=Ag e→st=(if jump.isNone then .ready else .done)→v= .bool jump.isNone→h'=⟨I.t.set l (.loop st jump au ai ax ad ae d2),I.nx⟩→ur P G l args h v h':=by
              intro jump st Z bo a3 aQ;subst a3 aQ;refine ⟨cS a4 av,fun T r w L q hT hr aJ aa=> ?_⟩;simp only at hT;obtain ⟨q',fn,C,bq,ao,hw,bh,aY,aN⟩:=hr.loop aR;rw [aa] at ao; cases ao;have aX:=Cp (σ:=fun i=>C.getD i undef) aW (fun i hi=>by
               show den r (dd fr i)=some (C.getD i undef);rw [aN i hi,iG,nD ab]; rfl) aJ
              obtain ⟨hlen,aL⟩:=aX;have aV:=run_yield (P:=P) (args:=L.toArray) hw<|by simpa using hlen
              refine ⟨_,_,_,_,aV,roundIn_of_wpIn (F:=eN) trivial ?_⟩;have a2:((ps.toArray.zip L.toArray).foldl (fun tmps (p:Tmp×ag)=>tmps.setIfInBounds p.1 p.2) C)=(act ⟨n,[],[],some q.ak⟩<|(ps.zip L).foldl (fun s p=>aU s p.1 p.2) fun i=>C.getD i undef).tmps:=by
               rw [← Du,Array.toList_zip];simp only [];rw [← E1 ⟨n,[],[],some q.ak⟩];rw [← E0 (N:=⟨n,[],[],some q.ak⟩) aY]
              have ah:({tmps:=((ps.toArray.zip L.toArray).foldl (fun tmps (p:Tmp×ag)=>tmps.setIfInBounds p.1 p.2) C),defers:= []} :Act)=act ⟨n,[],[],some q.ak⟩ ((ps.zip L).foldl (fun s p=>aU s p.1 p.2) fun i=>C.getD i undef):=by rw [a2]; rfl
              simp only at ah ⊢;rw [ah];refine s1 T r w _ [] (some q.ak) _ ab hr aL trivial ⟨q,aa,U⟩ fun a6 bx bb ac M aM aK=> ?_;have aG:ac= []:=by cases ac; rfl; exact aK.elim
              subst aG;obtain ⟨bn,bd,bu,br,J,aq,aE,aZ,aO⟩:=M.hr.loop al;have :=M.le _ _ aa;rw [J] at this; cases this;have ay:=M.hr.xh (st':= .busy) (pe':=aw) al E.1 E.2 J aq aE aZ aO;refine ⟨_,run_beginRound aq U,?_⟩;refine s2 T a6 _ bb [] (some q.ak) _ ab ay.hr aM trivial ⟨q,J,U⟩ fun a7 ba bz bc O bj bi=> ?_;obtain ⟨bp,bf,bv,bt,ap,ar,aF,a1,aP⟩:=O.hr.loop am;have :=O.le _ _ J;rw [ap] at this; cases this;have a8:=O.hr.xh (st':=st) (pe':=jump) am E.1 E.2 ap ar aF a1 aP;have V:=run_endRound (P:=P) jump ar;simp only at V;rw [← bo] at V;have a9:=St.trans (St.trans (St.trans M ay) O) a8;have fin:∃ v w',(Instr.endRound q.ak jump).run P ba= .ok v w'∧∃ u r',(Ending.returned v)= .returned u∧den r' (.bool jump.isNone)=some u∧St P G T r h w r' ⟨I.t.set l (.loop st jump au ai ax ad ae d2),I.nx⟩ w':=
               ⟨_,_,V,_,a7,rfl,rfl,a9⟩
              cases e with
              | bw=>subst Z; exact fin
              | ret=>subst Z; exact fin
              | ext i=>subst Z; exact fin
             split at A
             · cases A;exact key none .ready U U U U
             · rename_i aS;cases A;cases e with
               | bw=>exact absurd rfl aS
               | ret=>exact key (some .ret) .done rfl rfl rfl rfl
               | ext i=>exact key (some<|.exit i) .done rfl rfl rfl rfl
           · cases A
         · cases A
       · cases A
     · cases A
   · cases A
 · cases A
end
end Go.Hb
namespace Go.Hb
section
variable {P:au} {G:Nat} {X:Xt} {ih:Tk→Rs} {n:Nat} {r:Rn} {T:Nat} {h:Hp} {w:ah}
theorem F4 {c:Bool} {p:Rs} {e:EX} {fr:Tr AV} {D:List AD} {h:Hp} (A:cond c p .no= .cd e fr D h):c=true∧p= .cd e fr D h:=by
 cases c
 · cases A
 · exact ⟨U,A⟩
theorem z4 (aj:Good P G ih) {rd:Option Nat} {fr J:Tr AV} {D I:List AD} {l:Nat} {h':Hp} {e:EX} (he:oe G ih rd n fr D l h= .cd e J I h'):h.nx≤h'.nx∧
 ∀ (T:Nat) (r:Rn) (w:ah) (σ:Nat→ag) (Dl:List Deferred) (rr:Option Nat) (Q:bp→Act→ah→Prop) (q:Loc) (u:ag),h'.nx≤T→HR P G r T h w→r l=some q→dV r n fr σ→ju r D Dl→qz r rd rr→
   (∀ (r':Rn) (w':ah) (σ':Nat→ag) (E:List Deferred),St P G T r h w r' h' w'→dV r' n J σ'→ju r' I E→Q (jx e) (act ⟨n,E,[],rr⟩ σ') w')→rangePost (fe rr) 0 P q.ak Q (act ⟨n,Dl,[],rr⟩ σ) (.returned u) w:=by
 unfold oe at he;split at he
 · rename_i st A m L ps aT body d ab;have key:cond (bf G l && aD l cm) (match A with
    | none=>Rs.cd .bw fr D ⟨h.t.set l (.loop .exhausted A m L ps aT body d),h.nx⟩
    | some c=>ih (.cd rd n c fr D ⟨h.t.set l (.loop .exhausted A m L ps aT body d),h.nx⟩)) .no= .cd e J I h'→st≠.busy→h.nx≤h'.nx∧
   ∀ (T:Nat) (r:Rn) (w:ah) (σ:Nat→ag) (Dl:List Deferred) (rr:Option Nat) (Q:bp→Act→ah→Prop) (q:Loc) (u:ag),h'.nx≤T→HR P G r T h w→r l=some q→dV r n fr σ→ju r D Dl→qz r rd rr→
     (∀ (r':Rn) (w':ah) (σ':Nat→ag) (E:List Deferred),St P G T r h w r' h' w'→dV r' n J σ'→ju r' I E→Q (jx e) (act ⟨n,E,[],rr⟩ σ') w')→rangePost (fe rr) 0 P q.ak Q (act ⟨n,Dl,[],rr⟩ σ) (.returned u) w:=by
     intro he bo;obtain ⟨O,he⟩:=F4 he;simp only [a0] at O;have run:∀ (r:Rn) (w:ah) (T:Nat) (q:Loc),HR P G r T h w→r l=some q→∃ w',(Instr.endLoop q.ak).run P w= .ok A w'∧St P G T r h w r ⟨h.t.set l (.loop .exhausted A m L ps aT body d),h.nx⟩ w':=by
      intro r w T q hr C;obtain ⟨q',fn,az,ay,ac,hw,ai,aq,ao⟩:=hr.loop ab;rw [C] at ac; cases ac;exact ⟨_,run_endLoop (P:=P) hw bo,hr.xh (st':= .exhausted) (pe':=A) ab O.1 O.2 C hw ai aq ao⟩
     cases A with
     | none=>
       cases he;refine ⟨aQ _,fun T r w σ Dl rr Q q u hT hr C V U ad Z=> ?_⟩;obtain ⟨w',aa,M⟩:=run r w T q hr C;exact ⟨none,w',aa,Z r w' σ Dl M V U⟩
     | some c=>
       simp only at he;have s1:=aj<|.cd rd n c fr D ⟨h.t.set l (.loop .exhausted (some c) m L ps aT body d),h.nx⟩;rw [he] at s1;obtain ⟨ar,s1⟩:=s1;refine ⟨ar,fun T r w σ Dl rr Q q u hT hr C V U ad Z=> ?_⟩;obtain ⟨w',aa,M⟩:=run r w T q hr C;exact ⟨some c,w',aa,s1 T r w' σ Dl rr Q hT M.hr V U ad fun au aw ax ae av am al=>Z au aw ax ae (M.trans av) am al⟩
   split at he
   · cases he
   · rename_i ap;exact key he ap
 · cases he
theorem Jp (ac:Good P G ih) (aJ:gq P) (aK:∀ f args h v h',ih (.cl f args h)= .rv v h'→∃ fn c,P.funcs[f]? =some fn∧fn.body=some c) {rd:Option Nat} {g:aW} {ps:List Nat} {aT body:bL} {fr aI:Tr AV} {D aH:List AD} {h':Hp} {e:EX} (he:oO ih G rd n g ps aT body fr D h= .cd e aI aH h'):
 dx P G rd n (fun rr Q a w=>(Code.rangeFunc g ⟨ps⟩ aT body).wpIn (fe rr) 0 P Q a w) fr D h e aI aH h':=by
 unfold oO at he;split at he
 · rename_i f a c aL;split at he
   · split at he
     · rename_i h1 aM;split at he
       · rename_i aj V;split at he
         · rename_i v aU O;have s1:=ac<|.cl f (a++(.gD h1.nx::c)) aj;rw [O] at s1;obtain ⟨m1,s1⟩:=s1;obtain ⟨a5,s2⟩:=z4 ac he;have bc:=j3 aM;have a4:=j3 V;obtain ⟨ai,ah,ax,ao⟩:=aK _ _ _ _ _ O;have ap:=aJ f ai ah ax ao;refine ⟨ab,fun T r w σ Dl rr Q hT hr L ar ad ay=> ?_⟩;have aZ:rr=none:=by
            cases rr with
            | none=>rfl
            | some k=>exact ad.elim
           subst aZ;refine wpIn_rangeFunc ?_;intro fn _;have J:=qv (N:=⟨n,Dl,[],none⟩) hr.eX L aL;obtain ⟨A,c',ha,aq,J⟩:=lO J;obtain ⟨bi,aN,aB⟩:=hr.cV aM ab 0 (w':=w.alloc<|.deferred<|some []) rfl rfl rfl fun r' _ _=>rfl;have a0:(w.alloc<|.deferred<|some []).heap.size=w.heap.size+1:=World.size_alloc _ _;obtain ⟨aa,M,E⟩:=aB.hr.cV V ab 0 (w':=(w.alloc<|.deferred<|some []).alloc<|.loop {state:= .ready,pending:=none,fn:=fn,tmps:=(act ⟨n,Dl,[],none⟩ σ).tmps,params:=⟨ps⟩,assign:=aT,body:=body,defers:=w.heap.size}) rfl rfl rfl fun r' hle _=>by
            refine ⟨fn,(act ⟨n,Dl,[],none⟩ σ).tmps,w.heap.size,U,⟨_,hle _ _ aN,U⟩,by simp [act],fun i hi=> ?_⟩;rw [iP,if_pos hi];exact kB hle<|kB aB.le<|L i hi
           have aC:=aB.trans E;rw [a0] at M;have al:=fi (gY aC.le ha)<|dM (show den aa (.gD h1.nx)=some (.func (.yield<|w.heap.size+1) #[] #[]) from by simp only [den,M])<|gY aC.le aq;have az:=s1 T aa _ _ ab E.hr al;refine ⟨w.heap.size+1,[{target:= .collected w.heap.size,args:= #[]}],((w.alloc<|.deferred<|some []).alloc<|.loop {state:= .ready,pending:=none,fn:=fn,tmps:=(act ⟨n,Dl,[],none⟩ σ).tmps,params:=⟨ps⟩,assign:=aT,body:=body,defers:=w.heap.size}),{target:= .fn (.func f) c'.toArray,args:=A.toArray++ #[.func (.yield<|w.heap.size+1) #[] #[]]},((w.alloc<|.deferred<|some []).alloc<|.loop {state:= .ready,pending:=none,fn:=fn,tmps:=(act ⟨n,Dl,[],none⟩ σ).tmps,params:=⟨ps⟩,assign:=aT,body:=body,defers:=w.heap.size}),f,(A++(.func (.yield<|w.heap.size+1) #[] #[]::c')).toArray,_,?_,?_,fun _ _=>trivial,?_,fun h0=>(by cases h0),callsIn_wide.2<|kj az ?_⟩
           · exact run_enterLoop_outer _ _ _ _ _
           · have av:(act ⟨n,Dl,[],none⟩ σ).eval g= .func (.func f) A.toArray c'.toArray:=by rw [dr]; exact J
             simp only [resolve,av];simp [go_sem]
           · have am:A.toArray++ #[.func (.yield<|w.heap.size+1) #[] #[]]++c'.toArray=(A++(.func (.yield<|w.heap.size+1) #[] #[]::c')).toArray:=by simp
             have :=ap (A++(.func (.yield<|w.heap.size+1) #[] #[]::c')).toArray<|(w.alloc<|.deferred<|some []).alloc<|.loop {state:= .ready,pending:=none,fn:=fn,tmps:=(act ⟨n,Dl,[],none⟩ σ).tmps,params:=⟨ps⟩,assign:=aT,body:=body,defers:=w.heap.size};simp only [invoke,am];exact this
           · rintro aR aE ⟨u,rfl,ae,_,I⟩;have kf:=aC.trans I;have hm:ae h.nx=some ⟨w.heap.size,0,0⟩:=I.le _ _<|E.le _ _ aN;exact s2 T ae aE σ ({target:= .collected w.heap.size,args:= #[]} ::Dl) none Q ⟨w.heap.size+1,0,0⟩ u hT I.hr (I.le _ _ M) (L.le kf.le) ⟨⟨_,hm,U⟩,mG kf.le ar⟩ trivial fun aA aF aG ag aD aw au=>ay aA aF aG ag (kf.trans aD) aw au
         · cases he
       · cases he
     · cases he
   · rename_i bd;split at he
     · rename_i bj bf m0 a9 bg a6 a7 d aX;split at he
       · rename_i aj V;split at he
         · rename_i v aU O;have s1:=ac<|.cl f (a++(.gD h.nx::c)) aj;rw [O] at s1;obtain ⟨m1,s1⟩:=s1;obtain ⟨a5,s2⟩:=z4 ac he;have a4:=j3 V;obtain ⟨ai,ah,ax,ao⟩:=aK _ _ _ _ _ O;have ap:=aJ f ai ah ax ao;refine ⟨ab,fun T r w σ Dl rr Q hT hr L ar ad ay=> ?_⟩;obtain ⟨aQ,rfl⟩:∃ aQ,rr=some aQ:=by
            cases rr with
            | none=>exact ad.elim
            | some k=>exact ⟨k,rfl⟩
           obtain ⟨C,aO,aY⟩:=ad;obtain ⟨bh,a8,bl,Z,aP,a1,aV,bb,ba⟩:=hr.loop aX;rw [aO] at aP; cases aP;subst aY;refine wpIn_rangeFunc ?_;intro fn _;have J:=qv (N:=⟨n,Dl,[],some C.ak⟩) hr.eX L aL;obtain ⟨A,c',ha,aq,J⟩:=lO J;obtain ⟨aa,M,E⟩:=hr.cV V ab 0 (w':=w.alloc<|.loop {state:= .ready,pending:=none,fn:=fn,tmps:=(act ⟨n,Dl,[],some C.ak⟩ σ).tmps,params:=⟨ps⟩,assign:=aT,body:=body,defers:=Z}) rfl rfl rfl fun r' hle _=>by
            obtain ⟨x,a2,a3⟩:=aV;refine ⟨fn,(act ⟨n,Dl,[],some C.ak⟩ σ).tmps,Z,U,⟨x,hle _ _ a2,a3⟩,by simp [act],fun i hi=> ?_⟩;rw [iP,if_pos hi];exact kB hle<|L i hi
           have al:=fi (gY E.le ha)<|dM (show den aa (.gD h.nx)=some (.func (.yield w.heap.size) #[] #[]) from by simp only [den,M])<|gY E.le aq;have az:=s1 T aa _ _ ab E.hr al;refine ⟨w.heap.size,[],(w.alloc<|.loop {state:= .ready,pending:=none,fn:=fn,tmps:=(act ⟨n,Dl,[],some C.ak⟩ σ).tmps,params:=⟨ps⟩,assign:=aT,body:=body,defers:=Z}),{target:= .fn (.func f) c'.toArray,args:=A.toArray++ #[.func (.yield w.heap.size) #[] #[]]},(w.alloc<|.loop {state:= .ready,pending:=none,fn:=fn,tmps:=(act ⟨n,Dl,[],some C.ak⟩ σ).tmps,params:=⟨ps⟩,assign:=aT,body:=body,defers:=Z}),f,(A++(.func (.yield w.heap.size) #[] #[]::c')).toArray,_,?_,?_,fun aS _=>jW _ aS,?_,fun h0=>(by cases h0),r9<|kj az ?_⟩
           · exact run_enterLoop_inner a1 _ _ _ _ _
           · have av:(act ⟨n,Dl,[],some C.ak⟩ σ).eval g= .func (.func f) A.toArray c'.toArray:=by rw [dr]; exact J
             simp only [resolve,av];simp [go_sem]
           · have am:A.toArray++ #[.func (.yield w.heap.size) #[] #[]]++c'.toArray=(A++(.func (.yield w.heap.size) #[] #[]::c')).toArray:=by simp
             have :=ap (A++(.func (.yield w.heap.size) #[] #[]::c')).toArray<|w.alloc<|.loop {state:= .ready,pending:=none,fn:=fn,tmps:=(act ⟨n,Dl,[],some C.ak⟩ σ).tmps,params:=⟨ps⟩,assign:=aT,body:=body,defers:=Z};simp only [invoke,am];exact this
           · rintro aR aE ⟨u,rfl,ae,_,I⟩;have kf:=E.trans I;exact s2 T ae aE σ _ (some C.ak) Q ⟨w.heap.size,0,0⟩ u hT I.hr (I.le _ _ M) (L.le kf.le) (mG kf.le ar) ⟨C,kf.le _ _ aO,U⟩ fun aA aF aG ag aD aw au=>ay aA aF aG ag (kf.trans aD) aw au
         · cases he
       · cases he
     · cases he
 · cases he
theorem wT {N:Fm} {σ:Nat→ag} (hr:HR P G r T h w) {fr:Tr AV} (J:dV r N.n fr σ):∀ {l:List ResultVar} {vs:List AV},iA P N.n fr h l=some vs→∃ us,aI r vs=some us∧(l.mapM<|hZ (act N σ).tmps).run P w= .ok us w
 | [],vs,A=>by
   simp only [iA,bM] at A;subst A;exact ⟨[],by simp [aI],by simp⟩
 | .tmp t::l,vs,A=>by
   simp only [iA] at A;split at A
   · rename_i ac E;replace A:=aY A; obtain ⟨C,A⟩:=A;cases A;obtain ⟨us,h1,L⟩:=wT hr J E;have M:=J t<|cB.1 C;have U:=gA (P:=P) (w:=w)<|kT (P:=P) (N:=N) (σ:=σ) (w:=w) (t:=t);have I:ev N σ (.tmp t)=σ t:=by simp only [ev,C,cond_true]
     rw [I] at U;exact ⟨σ t::us,dM M h1,by simp [Et,U,L]⟩
   · cases A
 | .cell a t::l,vs,A=>by
   simp only [iA] at A;split at A
   · rename_i ac E;replace A:=aY A; obtain ⟨C,A⟩:=A;split at A
     · rename_i v di;cases A;obtain ⟨us,h1,L⟩:=wT hr J E;have M:=J a<|cB.1 C;have I:ev N σ (.tmp a)=σ a:=by simp only [ev,C,cond_true]
       obtain ⟨b,off,u,V,hu,Z⟩:=A3 hr di M;have aa:gU P N σ w (.cell a t) u:=by
        rcases Z with ⟨ha,O⟩ | ⟨m,cs,ha,rfl,E,O⟩
        · exact ja (I.trans V) ha O
        · exact iC (I.trans V) ha E O
       have ab:=gA aa;exact ⟨u::us,dM hu h1,by simp [Et,ab,L]⟩
     · cases A
   · cases A
theorem wU {N:Fm} {σ:Nat→ag} {fn:Func} (hr:HR P G r T h w) {fr:Tr AV} (I:dV r N.n fr σ) {vs:List AV} (M:iA P N.n fr h fn.results.toList=some vs):∃ u,den r (m4 vs)=some u∧(results fn (act N σ).tmps).run P w= .ok u w:=by
 obtain ⟨us,h1,E⟩:=wT hr I M;have O:(results fn (act N σ).tmps)=(do let vs ← fn.results.mapM (hZ (act N σ).tmps); pure (if h:vs.size=1 then vs[0] else .tuple vs)):=rfl;have C:=db h1;have A:(fn.results.mapM<|hZ (act N σ).tmps).run P w= .ok us.toArray w:=by
  have :fn.results=fn.results.toList.toArray:=by simp
  rw [this,List.mapM_toArray];simp [E]
 rw [O];unfold m4;split
 · obtain ⟨u,rfl⟩:=rf.1 (show us.length=1 from C);exact ⟨u,eF h1,by simp [A]⟩
 · rename_i L;refine ⟨.tuple us.toArray,by simp only [den,h1],?_⟩;have J:us.length≠1:=fun e=>by
    rw [C] at e;obtain ⟨v,rfl⟩:=rf.1 e;exact L v U
   simp [A,J]
end
end Go.Hb
namespace Go.Hb
section
variable {P:au} {G:Nat} {X:Xt} {ih:Tk→Rs} {n:Nat} {r:Rn} {T:Nat} {h:Hp} {w:ah}
theorem Ap:∀ (l:List AV) (k:Nat) (fr:Tr AV) (i:Nat),k+l.length≤1048574→(ix k l fr).get i=if k≤i∧i < k+l.length then l[i - k]? else fr.get i
 | [],k,fr,i,_=>by rw [ix,if_neg (fun h=>by have :=h.1; have :=h.2; simp only [lB] at this; omega)]
 | v::l,k,fr,i,h=>by
   simp only [dP] at h;rw [ix,Ap l (k+1) _ i ab,Tr.kE _ _ _ _ (cB.2 (show k < 1048574 by omega))];by_cases h1:k+1≤i∧i < k+1 +l.length
   · rw [if_pos h1,if_pos (by simp only [dP]; omega)];obtain ⟨m,hm⟩:∃ m,i - k=m+1:=⟨i - k - 1,ab⟩
     rw [hm,iJ,show i - (k+1)=m from by omega]
   · rw [if_neg h1];by_cases A:i=k
     · rw [if_pos A,if_pos (by simp only [dP]; omega),A]; simp
     · rw [if_neg A,if_neg (by simp only [dP]; omega)]
theorem vt {args:List AV} {L:List ag} (A:aI r args=some L) (hb:bf args.length n=true) (hn:aD n cm=true):dV r n (ix 0 args .nil) (du L):=by
 have hb:=bP hb;have hn:n < 1048574:=cB.1 hn;have I:=db A;intro i hi;simp only [dd,Ap args 0 .nil i ab,du,fK,true_and,cM,Nat.sub_zero];by_cases h1:i < args.length
 · rw [if_pos h1,bG h1];obtain ⟨u,C,E⟩:=n7 A<|bG h1;simp only [E,b9,C,iO]
 · rw [if_neg h1,Tr.get_nil];simp only [ir,b9];rw [gF ab]; rfl
theorem za {f:FuncId} {args:Array ag} {u:FrameMode} {R A:Ending→FrameMode→ah→Prop} (C:CallsDIn eN 0 P f args u w R) (hr:∀ e u w,R e u w→A e u w):CallsDIn eN 0 P f args u w A:=
 ⟨C.1,fun c cs hu E=>let ⟨e,u',w',fr,h1,h2⟩:=C.2 c cs hu E; ⟨e,u',w',fr,hr _ _ _ h1,h2⟩⟩
theorem FK {f:FuncId} {fn:Func} {id N d:Nat} {ty:av} {pos :String} {af:Array bT} {rest:List aB} {y:bL} {args:List ag} {R:ah→Prop}
 (I:P.funcs[f]? =some fn) (hb:fn.body=some (.seq (.region id ⟨⟨some d,.call ⟨.builtin .recover,⟨[]⟩,⟨[]⟩⟩,ty,pos,af,none⟩::rest⟩ false) y)) (ad:fn.ntmps=N) (hn:bf args.length N=true)
 (h:wpListIn (fe none) 0 P (⟨some d,.call ⟨.builtin .recover,⟨[]⟩,⟨[]⟩⟩,ty,pos,af,none⟩::rest).toArray (Exit.then (y.wpIn (fe none) 0 P fun e a w=>(e= .normal∨e= .ret)∧a.defers= []∧∃ v,(results fn a.tmps).run P w= .ok v w∧R w) fun _ _ _=>False) rest (act ⟨N,[],[],none⟩<|aU (du args) d .nilIface) w):
 CallsDIn eN 0 P f args.toArray .returning w fun e au w'=> ∃ v,e= .returned v∧au= .returning∧R w':=by
 subst ad;refine ⟨trivial,fun A cs hu _=> ?_⟩
 let b:Frame:= {(default:Frame) with fn:=f,kind:= .deferred}
 have ae:Frame.enter P f args.toArray .deferred=b.at (act ⟨fn.ntmps,[],[],none⟩<|du args) [.code (.seq (.region id ⟨⟨some d,.call ⟨.builtin .recover,⟨[]⟩,⟨[]⟩⟩,ty,pos,af,none⟩::rest⟩ false) y)]:=by
  rw [← m7 fn args [] hn];simp [Frame.enter,Frame.at,I,hb,b]
 have aq:ml (⟨⟨some d,.call ⟨.builtin .recover,⟨[]⟩,⟨[]⟩⟩,ty,pos,af,none⟩::rest⟩:Array aB).size=0::(kr 1 rest.length):=by
  rw [eB,dP,List.range_eq_range',List.range'_succ]
 have ak:=wpOpsIn_eq_wpListIn (F:=fe none) (n:=0) (P:=P) (ops:=(⟨some d,.call ⟨.builtin .recover,⟨[]⟩,⟨[]⟩⟩,ty,pos,af,none⟩::rest).toArray) (Q:=Exit.then (y.wpIn (fe none) 0 P fun e a w=>(e= .normal∨e= .ret)∧a.defers= []∧∃ v,(results fn a.tmps).run P w= .ok v w∧R w) fun _ _ _=>False) rest 1 fun j=>by simp [uf]
 rw [← ak] at h;obtain ⟨e,aw,w',Z,C⟩:=wp_opsIn _ _ _ h b [.code y] (A::cs) rfl trivial (room_wide _);have C:=(arrivesIn_iff (b:=b) (fun _ _=>stepsIn_wide) rfl).1 C;have ao:step P (lone (b.at (act ⟨fn.ntmps,[],[],none⟩<|du args) (.inRegion (⟨some d,.call ⟨.builtin .recover,⟨[]⟩,⟨[]⟩⟩,ty,pos,af,none⟩::rest).toArray (0::kr 1 rest.length)::[.code y])) (A::cs) w)=
  .next (lone (b.at (act ⟨fn.ntmps,[],[],none⟩<|aU (du args) d .nilIface) (.inRegion (⟨some d,.call ⟨.builtin .recover,⟨[]⟩,⟨[]⟩⟩,ty,pos,af,none⟩::rest).toArray (kr 1 rest.length)::[.code y])) (A::cs) w):=by
  have aj:=stepG_op (P:=P) (b:=b) (a:=act ⟨fn.ntmps,[],[],none⟩<|du args) (k:= [.code y]) (cs:=A::cs) (w:=w) (ops:=(⟨some d,.call ⟨.builtin .recover,⟨[]⟩,⟨[]⟩⟩,ty,pos,af,none⟩::rest).toArray) (i:=0) (rest:=kr 1 rest.length) (o:=⟨some d,.call ⟨.builtin .recover,⟨[]⟩,⟨[]⟩⟩,ty,pos,af,none⟩) rfl (fh _ rfl _);have ar:(execOp (act ⟨fn.ntmps,[],[],none⟩<|du args).eval ⟨some d,.call ⟨.builtin .recover,⟨[]⟩,⟨[]⟩⟩,ty,pos,af,none⟩).run P w= .ok .recover w:=by
   rw [dr];simp [execOp,resolve,invoke,builtin]
  have ab:=tryRecover_deferred (fr:=b.at (act ⟨fn.ntmps,[],[],none⟩<|du args) (.inRegion (⟨some d,.call ⟨.builtin .recover,⟨[]⟩,⟨[]⟩⟩,ty,pos,af,none⟩::rest).toArray (0::kr 1 rest.length)::[.code y])) rfl (A::cs);have al:recoverD (A::cs)=none:=by simp [recoverD,hu]
  have ai:(b.at (act ⟨fn.ntmps,[],[],none⟩<|du args) (.inRegion (⟨some d,.call ⟨.builtin .recover,⟨[]⟩,⟨[]⟩⟩,ty,pos,af,none⟩::rest).toArray (0::kr 1 rest.length)::[.code y])).finish .nilIface=b.at (act ⟨fn.ntmps,[],[],none⟩<|aU (du args) d .nilIface) (.inRegion (⟨some d,.call ⟨.builtin .recover,⟨[]⟩,⟨[]⟩⟩,ty,pos,af,none⟩::rest).toArray (kr 1 rest.length)::[.code y]):=by
   rw [Frame.finish_at];have :=eD ⟨fn.ntmps,[],[],none⟩ (du args) (some d) .nilIface;simp only [dv] at this;rw [← this]; rfl
  refine step_lone_go ?_;rw [aj,← ai];simp only [Frame.at] at ab ⊢;simp [stepG.apply,ar,ab,al]
 have M:Steps P (lone (Frame.enter P f args.toArray .deferred) (A::cs) w) (lone (b.at (act ⟨fn.ntmps,[],[],none⟩<|aU (du args) d .nilIface) (.inRegion (⟨some d,.call ⟨.builtin .recover,⟨[]⟩,⟨[]⟩⟩,ty,pos,af,none⟩::rest).toArray (kr 1 rest.length)::[.code y])) (A::cs) w):=by
  rw [ae];refine .head step_seq<|.head step_region ?_;rw [aq];exact .one ao
 cases e with
 | normal=>
   obtain ⟨ax,J,ac,am,E⟩:=Z b [] (A::cs) rfl trivial (room_wide _);have E:=(arrivesIn_iff (b:=b) (fun _ _=>stepsIn_wide) rfl).1 E;obtain ⟨Hv,O,v,aa,L⟩:=am;have V:({A with mode:= .returning} :Frame)=A:=by rw [← hu]
   rcases Hv with rfl | rfl
   · refine ⟨.returned v,.returning,ac,{b.at J [] with mode:= .returning},⟨v,U,U,L⟩,?_,U,U,U,O,fn,I,aa⟩;rw [V];exact stepsIn_wide.2<|Steps.trans M<|Steps.trans C<|Steps.trans E<|.one step_end
   · obtain ⟨todo,ap⟩:=E;refine ⟨.returned v,.returning,ac,{b.at J todo with mode:= .returning},⟨v,U,U,L⟩,?_,U,U,U,O,fn,I,aa⟩;rw [V];exact stepsIn_wide.2<|Steps.trans M<|Steps.trans C ap
 | _=>exact Z.elim
theorem vW (M:Good P G ih) (L:gq P) (V:∀ f args h v h',ih (.df f args h)= .rv v h'→∃ fn c,P.funcs[f]? =some fn∧fn.body=some c):∀ {D:List AD} {h h':Hp},jG G ih D h=some h'→h.nx≤h'.nx∧∀ (T:Nat) (r:Rn) (w:ah) (Dl:List Deferred) (fn:Func) (tmps:Array ag) (R:Ending→ah→Prop),
 h'.nx≤T→HR P G r T h w→ju r D Dl→(∀ (r':Rn) (w':ah),St P G T r h w r' h' w'→∃ v,(results fn tmps).run P w'= .ok v w'∧R (.returned v) w')→LeavesInM eN 0 P fn tmps R Dl .returning w
 | [],h,h',he=>by
   simp only [jG,bM] at he;subst he;refine ⟨aQ _,fun T r w Dl fn tmps R hT hr A C=> ?_⟩;have :Dl= []:=by cases Dl; rfl; exact A.elim
   subst this;exact C r w<|St.refl hr
 | .mark d::D,h,h',he=>by
   simp only [jG] at he;split at he
   · rename_i aa;replace he:=aY he; obtain ⟨O,he⟩:=he;simp only [a0] at O;obtain ⟨I,s1⟩:=vW M L V he;refine ⟨I,fun T r w Dl fn tmps R hT hr A C=> ?_⟩;cases Dl with
     | nil=>exact A.elim
     | cons x Dl=>
       obtain ⟨⟨q,ab,rfl⟩,A⟩:=A;obtain ⟨q',ac,E⟩:=hr.live d _ aa;rw [ab] at ac; cases ac;have E:w.heap[q.ak]? =some (.deferred<|some []):=E;have ao:=(dm.1 E).1;have st:St P G T r h w r ⟨h.t.set d (.kC false),h.nx⟩ (w.putObj q.ak<|.deferred none):=
        hr.kQ aa O.2 ab (bP O.1) (by rw [tT ao]; rfl) ⟨rfl,rfl,by simp [D9],fun k _ C=>lu C⟩
       exact ⟨DR,.inl ⟨q.ak,_,U,run_takeDeferred E,s1 T r _ Dl fn tmps R hT st.hr A fun r' w' st'=>C r' w'<|st.trans st'⟩⟩
   · cases he
 | .fn f args::D,h,h',he=>by
   simp only [jG] at he;split at he
   · rename_i v h1 Z;have J:=M<|.df f args h;rw [Z] at J;obtain ⟨ap,J⟩:=J;obtain ⟨ae,ad,am,ai⟩:=V _ _ _ _ _ Z;have aj:=L f ae ad am ai;obtain ⟨I,s1⟩:=vW M L V he;refine ⟨cS ap I,fun T r w Dl fn tmps R hT hr A C=> ?_⟩;cases Dl with
     | nil=>exact A.elim
     | cons x Dl=>
       obtain ⟨⟨a,cap,av,ha,rfl,al⟩,A⟩:=A;refine ⟨DR,.inr ⟨fun h0=>(by cases h0),.func f,cap,f,a.toArray,U,?_,fun _ _=>trivial,za (J T r w a (cS I hT) hr ha) ?_⟩⟩
       · simp only [invoke,al];exact aj a.toArray w
       · rintro e aw w' ⟨v,rfl,rfl,r',st⟩;exact s1 T r' w' Dl fn tmps R hT st.hr (mG st.le A) fun aq au ar=>C aq au<|st.trans ar
   · cases he
def yD (P:au) (G:Nat) (X:Xt) (ih:Tk→Rs):Prop := ∀ (rd:Option Nat) (n id:Nat) (ops:List aB) (fr:Tr AV) (D:List AD) (h:Hp),match rW P G X ih n ops fr D h with
 | .cd e C A h'=>dx P G rd n (fun rr Q a w=>(DM id ⟨ops⟩ true).wpIn (fe rr) 0 P Q a w) fr D h e C A h'
 | .no=>True
 | _=>False
theorem dx.bind {rd:Option Nat} {W W' I:Option Nat→(bp→Act→ah→Prop)→Act→ah→Prop} {fr M O:Tr AV} {D C E:List AD} {h h1 V:Hp} {J L:EX} (s1:dx P G rd n W fr D h J M C h1) (s2:dx P G rd n W' M C h1 L O E V)
 (ad:∀ rr Q a w,W rr (fun e a w=>e=jx J∧W' rr Q a w) a w→I rr Q a w):dx P G rd n I fr D h L O E V:=by
 obtain ⟨ao,s1⟩:=s1;obtain ⟨aa,s2⟩:=s2;refine ⟨cS ao aa,fun T r w σ Dl rr Q hT hr aj ae Z am=>ad rr Q _ w ?_⟩;exact s1 T r w σ Dl rr _ (cS aa hT) hr aj ae Z fun ap au aw ab A ak ag=>⟨U,s2 T ap au aw ab rr Q hT A.hr ak ag (BR A.le Z) fun aq av ax ac ar al ai=>am aq av ax ac (A.trans ar) al ai⟩
theorem dx.map {rd:Option Nat} {W W':Option Nat→(bp→Act→ah→Prop)→Act→ah→Prop} {fr I:Tr AV} {D A:List AD} {h h1:Hp} {C E:EX} (s1:dx P G rd n W fr D h C I A h1)
 (L:∀ rr Q a w,W rr (fun e a w=>e=jx C∧Q (jx E) a w) a w→W' rr Q a w):dx P G rd n W' fr D h E I A h1:=by
 obtain ⟨ac,s1⟩:=s1;exact ⟨ac,fun T r w σ Dl rr Q hT hr V M ab aa=>L rr Q _ w<|s1 T r w σ Dl rr _ hT hr V M ab fun ad ag ai J ae Z O=>⟨U,aa ad ag ai J ae Z O⟩⟩
theorem KJ (V:Good P G ih) (ad:gq P) (ah:∀ f args h v h',ih (.df f args h)= .rv v h'→∃ fn c,P.funcs[f]? =some fn∧fn.body=some c) (f:Nat) (args:List AV) (h:Hp):lI P G (.cl f args h) (fg P G X ih<|.cl f args h):=by
 show lI P G (.cl f args h) (match P.funcs[f]? with
  | some fn=>match fn.body with
    | some c=>cond (bf args.length fn.ntmps && aD fn.ntmps cm) (match ih (.cd none fn.ntmps c (ix 0 args .nil) [] h) with
      | .cd (.ext _) _ _ _=> .no
      | .cd _ fr D h=>match jG G ih D h with
        | some h=>match iA P fn.ntmps fr h fn.results.toList with
          | some vs=> .rv (m4 vs) h
          | none=> .no
        | none=> .no
      | _=> .no) .no
    | none=> .no
  | none=> .no)
 split
 · rename_i fn ak;split
   · rename_i c ae;cases hc:(bf args.length fn.ntmps && aD fn.ntmps cm)
     · trivial
     · simp only [cond_true];simp only [a0] at hc;have key:∀ (e:EX) (fr:Tr AV) (D:List AD) (h1 A:Hp) (vs:List AV),(e= .bw∨e= .ret)→ih (.cd none fn.ntmps c (ix 0 args .nil) [] h)= .cd e fr D h1→jG G ih D h1=some A→iA P fn.ntmps fr A fn.results.toList=some vs→lI P G (.cl f args h) (.rv (m4 vs) A):=by
        intro e fr D h1 A vs ai J C E;have M:=V<|.cd none fn.ntmps c (ix 0 args .nil) [] h;rw [J] at M;obtain ⟨am,M⟩:=M;obtain ⟨aa,s1⟩:=vW V ad ah C;refine ⟨cS am aa,fun T r w L hT hr Z=> ?_⟩;have hlen:=db Z;refine callsIn_wide.1<|callsIn_of_wp_marks (F:=eN) (n:=0) ak ae trivial ?_;rw [m7 fn L [] (by rw [hlen]; exact hc.1)];refine M T r w (du L) [] none _ (cS aa hT) hr (vt Z hc.1 hc.2) trivial trivial fun ao ac aq I ab aj ag=> ?_;have fin:LeavesInM eN 0 P fn (act ⟨fn.ntmps,I,[],none⟩ aq).tmps (fun e w'=> ∃ v,e= .returned v∧∃ r',den r' (m4 vs)=some v∧St P G T r h w r' A w') I .returning ac:=by
         refine s1 T ao ac I fn _ _ hT ab.hr ag fun ap ar O=> ?_;obtain ⟨u,hu,al⟩:=wU (N:=⟨fn.ntmps,I,[],none⟩) O.hr (aj.le O.le) E;exact ⟨u,al,u,U,ap,hu,ab.trans O⟩
        rcases ai with rfl | rfl <;> exact fin
       cases J:ih (.cd none fn.ntmps c (ix 0 args .nil) [] h) with
       | no=>trivial
       | rv v h1=>trivial
       | cd e fr D h1=>
         cases e with
         | ext i=>trivial
         | bw=>
           simp only;cases C:jG G ih D h1 with
           | none=>trivial
           | some A=>
             simp only;cases E:iA P fn.ntmps fr A fn.results.toList with
             | none=>trivial
             | some vs=>exact key .bw fr D h1 A vs (.inl rfl) J C E
         | ret=>
           simp only;cases C:jG G ih D h1 with
           | none=>trivial
           | some A=>
             simp only;cases E:iA P fn.ntmps fr A fn.results.toList with
             | none=>trivial
             | some vs=>exact key .ret fr D h1 A vs (.inr rfl) J C E
   · trivial
 · trivial
end
end Go.Hb
namespace Go.Hb
section
variable {P:au} {G:Nat} {X:Xt} {ih:Tk→Rs} {n:Nat} {r:Rn} {T:Nat} {h:Hp} {w:ah}
theorem KL (aa:Good P G ih) (ao:iq P G X) (am:gq P) (aq:∀ f args h v h',ih (.cl f args h)= .rv v h'→∃ fn c,P.funcs[f]? =some fn∧fn.body=some c) (f:Nat) (args:List AV) (h:Hp):lI P G (.df f args h) (fg P G X ih<|.df f args h):=by
 cases hs:fg P G X ih (.df f args h) with
 | no=>trivial
 | cd e fr D h1=>
   exfalso;simp only [fg] at hs;split at hs;rename_i fn ae;split at hs;rename_i c ab;cases hc:(bf args.length fn.ntmps && aD fn.ntmps cm);rw [hc] at hs; cases hs;rw [hc] at hs;simp only [cond_true] at hs;split at hs;cases hs;split at hs <;> cases hs;cases hs;cases hs;cases hs
 | rv v h'=>
   simp only [fg] at hs;split at hs;rename_i fn ae;split at hs;rename_i c ab;cases hc:(bf args.length fn.ntmps && aD fn.ntmps cm);rw [hc] at hs; cases hs;rw [hc] at hs;simp only [cond_true] at hs;simp only [a0] at hc;split at hs;cases hs;rename_i e aG h1 ag A;split at hs;rename_i vs ah;cases hs;split at A;rename_i id d ty pos af rest y;split at A;rename_i aF ax;split at A;rename_i ak V aw;obtain ⟨ay,s1⟩:=qx aa ao am aq aw;have s2:=aa<|.cd none fn.ntmps y ak [] V;rw [A] at s2;obtain ⟨M,s2⟩:=s2;refine ⟨cS ay M,fun T r w L hT hr I=> ?_⟩;have hlen:=db I;refine FK (R:=fun w'=> ∃ r',St P G T r h w r' h' w') ae ab U (by rw [hlen]; exact hc.1) ?_;have au:=oT ax (vt I hc.1 hc.2) (show den r .cN=some .nilIface from rfl);refine s1 T r w (aU (du L) d .nilIface) [] none _ (cS M hT) hr au trivial trivial fun az aA aC aj ai av ar=> ?_;refine s2 T az aA aC aj none _ hT ai.hr av ar trivial fun O aB aE E C ad ac=> ?_;have Z:E= []:=by cases E; rfl; exact ac.elim
   subst Z;obtain ⟨u,hu,J⟩:=wU (N:=⟨fn.ntmps,[],[],none⟩) C.hr ad ah;have he:jx e= .normal∨jx e= .ret:=by
    cases e with
    | bw=>exact .inl rfl
    | ret=>exact .inr rfl
    | ext i=>exact (ag i rfl).elim
   exact ⟨he,U,u,J,O,ai.trans C⟩;cases A;cases A;have s2:=aa<|.cd none fn.ntmps c (ix 0 args .nil) [] h;rw [A] at s2;obtain ⟨M,s2⟩:=s2;refine ⟨M,fun T r w L hT hr I=> ?_⟩;have hlen:=db I;have ap:=callsDIn_of_wp (F:=eN) (n:=0) (u:= .returning) (w:=w) (args:=L.toArray) (R:=fun e w'=> ∃ v,e= .returned v∧∃ r',St P G T r h w r' h' w') ae ab trivial (by
    rw [m7 fn L [] (by rw [hlen]; exact hc.1)];refine s2 T r w (du L) [] none _ hT hr (vt I hc.1 hc.2) trivial trivial fun O aB aE E C ad ac=> ?_;have Z:E= []:=by cases E; rfl; exact ac.elim
    subst Z;obtain ⟨u,hu,J⟩:=wU (N:=⟨fn.ntmps,[],[],none⟩) C.hr ad ah;cases e with
    | bw=>exact ⟨rfl,u,J,u,rfl,O,C⟩
    | ret=>exact ⟨rfl,u,J,u,rfl,O,C⟩
    | ext i=>exact (ag i rfl).elim)
   exact za ap fun e aH w' ⟨h1,v,V,al⟩=>⟨v,V,h1,al⟩
   cases hs;cases hs;cases hs;cases hs
theorem xS {c:bL} {rr:Option Nat} {Q:bp→Act→ah→Prop} {a:Act} {w:ah} (Z:c.wpIn (fe rr) 0 P (Exit.then (tH P c rr Q) Q) a w):tH P c rr Q a w:=by
 intro b k cs J hb hr;obtain ⟨e,E,I,C,A⟩:=Z b (.inLoop c::k) cs J hb hr;cases e with
 | normal=>
   obtain ⟨O,L,ab,aa,V⟩:=C b k cs J hb hr;exact ⟨O,L,ab,aa,.of_steps (StepsIn.trans A<|.one (fenced_calm hb hr U) stepR_inLoop) V⟩
 | exit id=>exact ⟨.exit id,E,I,C,.pass (x:= .inLoop c) rfl (fun _ _=> .inl<|by simp) A⟩
 | goto l=>exact ⟨.goto l,E,I,C,.pass (x:= .inLoop c) rfl (fun _ _=> .inl<|by simp) A⟩
 | ret=>exact ⟨.ret,E,I,C,.pass (x:= .inLoop c) rfl (fun _ _=> .inl<|by simp) A⟩
 | panic M=>exact ⟨.panic M,E,I,C,.pass (x:= .inLoop c) rfl (fun _ _=> .inl<|by simp) A⟩
 | outgrown=>exact ⟨.outgrown,E,I,C,.pass (x:= .inLoop c) rfl (fun _ _=> .inl<|by simp) A⟩
theorem LZ {c:bL} {rr:Option Nat} {Q:bp→Act→ah→Prop} {a:Act} {w:ah} (h:tH P c rr Q a w):(Code.loop c).wpIn (fe rr) 0 P Q a w:=by
 intro b k cs I hb hr;obtain ⟨e,A,w',E,C⟩:=h b k cs I hb hr;exact ⟨e,A,w',E,.of_steps (.one (fenced_calm hb hr U) stepR_loop) C⟩
theorem Good.mE (A:Good P G ih) {rd:Option Nat} {c:bL} {fr:Tr AV} {D:List AD} {h h':Hp} {v:AV} (C:ih (.cd rd n c fr D h)= .rv v h'):False:=by
 have :=A (.cd rd n c fr D h); rw [C] at this; exact this
theorem Good.A9 (A:Good P G ih) {rd:Option Nat} {c:bL} {fr:Tr AV} {D:List AD} {h h':Hp} {v:AV} (C:ih (.lp rd n c fr D h)= .rv v h'):False:=by
 have :=A (.lp rd n c fr D h); rw [C] at this; exact this
theorem KM (A:Good P G ih) (rd:Option Nat) (n:Nat) (c:bL) (fr:Tr AV) (D:List AD) (h:Hp):lI P G (.lp rd n c fr D h) (fg P G X ih<|.lp rd n c fr D h):=by
 simp only [fg];cases hi:ih (.cd rd n c fr D h) with
 | no=>trivial
 | rv v h1=>exact (A.mE hi).elim
 | cd e E C h1=>
   have s1:=A<|.cd rd n c fr D h;rw [hi] at s1;cases e with
   | bw=>
     simp only;have s2:=A<|.lp rd n c E C h1;cases hj:ih (.lp rd n c E C h1) with
     | no=>trivial
     | rv v I=>exact (A.A9 hj).elim
     | cd L M J I=>
       rw [hj] at s2;exact dx.bind s1 s2 fun rr Q a w hw=>xS (wpIn_mono hw fun e a w he=>by
        obtain ⟨rfl,he⟩:=he; exact he)
   | ret=>exact dx.map s1 fun rr Q a w hw=>xS<|wpIn_mono hw fun e a w he=>by obtain ⟨rfl,he⟩:=he; exact he
   | ext i=>exact dx.map s1 fun rr Q a w hw=>xS<|wpIn_mono hw fun e a w he=>by obtain ⟨rfl,he⟩:=he; exact he
theorem dx.here {rd:Option Nat} {W:Option Nat→(bp→Act→ah→Prop)→Act→ah→Prop} {fr:Tr AV} {D:List AD} {h:Hp} {e:EX} (A:∀ rr Q a w,Q (jx e) a w→W rr Q a w):dx P G rd n W fr D h e fr D h:=
 ⟨aQ _,fun T r w σ Dl rr Q hT hr E C J I=>A rr Q _ w<|I r w σ Dl (St.refl hr) E C⟩
theorem sK {rd:Option Nat} {ops:List aB} :∀ {l:List aB} {fr:Tr AV} {D:List AD} {h:Hp},(∃ C A h',jI P G X ih rd n ops l fr D h= .cd .bw C A h')∨jI P G X ih rd n ops l fr D h= .no
 | [],fr,D,h=> .inl ⟨fr,D,h,rfl⟩
 | o::l,fr,D,h=>by
   simp only [jI];split
   · split
     · split
       · split
         · exact sK
         · exact .inr U
       · split
         · split
           · exact sK
           · exact .inr U
         · exact .inr U
       · exact .inr U
     · exact .inr U
   · split
     · exact sK
     · exact .inr U
   · exact .inr U
theorem Jq (E:Good P G ih) {rd:Option Nat} {g:aW} {ps:List Nat} {aT body:bL} {fr:Tr AV} {D:List AD} {h h':Hp} {v:AV} (A:oO ih G rd n g ps aT body fr D h= .rv v h'):False:=by
 have C:∀ {fr:Tr AV} {D:List AD} {l:Nat} {h:Hp},oe G ih rd n fr D l h= .rv v h'→False:=by
  intro fr D l h A;unfold oe at A;split at A
  · split at A
    · cases A
    · rename_i J m I ps aT body d _ _;cases hc:(bf G l && aD l cm)
      · rw [hc] at A; cases A
      · rw [hc] at A;simp only [cond_true] at A;split at A
        · cases A
        · exact E.mE A
  · cases A
 unfold oO at A;split at A
 · split at A
   · split at A
     · split at A
       · split at A
         · exact C A
         · cases A
       · cases A
     · cases A
   · split at A
     · split at A
       · split at A
         · exact C A
         · cases A
       · cases A
     · cases A
 · cases A
theorem KI (A:Good P G ih) (ad:iq P G X) (Z:gq P) (ac:yD P G X ih) (aa:∀ f args h v h',ih (.cl f args h)= .rv v h'→∃ fn c,P.funcs[f]? =some fn∧fn.body=some c) (rd:Option Nat) (n:Nat) (c:bL) (fr:Tr AV) (D:List AD) (h:Hp):lI P G (.cd rd n c fr D h) (fg P G X ih<|.cd rd n c fr D h):=by
 cases c with
 | skip =>exact dx.here fun rr Q a w U=>wpIn_skip U
 | region id ops draw=>
   obtain ⟨ops⟩:=ops;simp only [fg];cases draw with
   | true =>
     simp only [cond_true];have :=ac rd n id ops fr D h;split at this
     · rename_i he; rw [he]; exact this
     · rename_i he; rw [he]; trivial
     · exact this.elim
   | false =>
     simp only [cond_false];rcases sK (P:=P) (G:=G) (X:=X) (ih:=ih) (n:=n) (rd:=rd) (ops:=ops) (l:=ops) (fr:=fr) (D:=D) (h:=h) with ⟨aj,ag,h',he⟩ | he
     · rw [he];obtain ⟨O,s1⟩:=qx A ad Z aa he;exact ⟨O,fun T r w σ Dl rr Q hT hr C J M L=>wpIn_region_lit<|s1 T r w σ Dl rr Q hT hr C J M L⟩
     · rw [he]; trivial
 | seq a b=>
   simp only [fg];cases hi:ih (.cd rd n a fr D h) with
   | no=>trivial
   | rv v h1=>exact (A.mE hi).elim
   | cd e I E h1=>
     have s1:=A<|.cd rd n a fr D h;rw [hi] at s1;cases e with
     | bw=>
       simp only;have s2:=A<|.cd rd n b I E h1;cases hj:ih (.cd rd n b I E h1) with
       | no=>trivial
       | rv v ab=>exact (A.mE hj).elim
       | cd ai ak ah ab=>
         rw [hj] at s2;exact dx.bind s1 s2 fun rr Q a w hw=>wpIn_seq<|wpIn_mono hw fun e a w he=>by obtain ⟨rfl,he⟩:=he; exact he
     | ret=>exact dx.map s1 fun rr Q a w hw=>wpIn_seq<|wpIn_mono hw fun e a w he=>by obtain ⟨rfl,he⟩:=he; exact he
     | ext i=>exact dx.map s1 fun rr Q a w hw=>wpIn_seq<|wpIn_mono hw fun e a w he=>by obtain ⟨rfl,he⟩:=he; exact he
 | cond x a b=>
   simp only [fg];split
   · rename_i V;have s1:=A<|.cd rd n a fr D h;cases hi:ih (.cd rd n a fr D h) with
     | no=>trivial
     | rv v h1=>exact (A.mE hi).elim
     | cd e I E h1=>
       rw [hi] at s1;obtain ⟨O,s1⟩:=s1;exact ⟨O,fun T r w σ Dl rr Q hT hr C J M L=>wpIn_cond_true (by rw [dr]; exact iT<|qv (N:=⟨n,Dl,[],rr⟩) hr.eX C V)<|s1 T r w σ Dl rr Q hT hr C J M L⟩
   · rename_i V;have s1:=A<|.cd rd n b fr D h;cases hi:ih (.cd rd n b fr D h) with
     | no=>trivial
     | rv v h1=>exact (A.mE hi).elim
     | cd e I E h1=>
       rw [hi] at s1;obtain ⟨O,s1⟩:=s1;exact ⟨O,fun T r w σ Dl rr Q hT hr C J M L=>wpIn_cond_false (by rw [dr]; exact iT<|qv (N:=⟨n,Dl,[],rr⟩) hr.eX C V)<|s1 T r w σ Dl rr Q hT hr C J M L⟩
   · trivial
 | block id c=>
   simp only [fg];cases hi:ih (.cd rd n c fr D h) with
   | no=>trivial
   | rv v h1=>exact (A.mE hi).elim
   | cd e I E h1=>
     have s1:=A<|.cd rd n c fr D h;rw [hi] at s1;cases e with
     | bw=>exact dx.map s1 fun rr Q a w hw=>wpIn_block<|wpIn_mono hw fun e a w he=>by obtain ⟨rfl,he⟩:=he; exact he
     | ret=>exact dx.map s1 fun rr Q a w hw=>wpIn_block<|wpIn_mono hw fun e a w he=>by obtain ⟨rfl,he⟩:=he; exact he
     | ext j=>
       simp only;cases hj:aN j id
       · have ae:j≠id:=fun e=>by subst e; simp at hj
         exact dx.map s1 fun rr Q a w hw=>wpIn_block (wpIn_mono hw fun e a w he=>by
          obtain ⟨rfl,he⟩:=he;simp only [jx,ph,if_neg ae]; exact he)
       · obtain rfl :=bO hj;exact dx.map s1 fun rr Q a w hw=>wpIn_block (wpIn_mono hw fun e a w he=>by
          obtain ⟨rfl,he⟩:=he;simp only [jx,ph,if_true]; exact he)
 | loop c=>
   simp only [fg];cases hi:ih (.lp rd n c fr D h) with
   | no=>trivial
   | rv v h1=>exact (A.A9 hi).elim
   | cd e I E h1=>
     have s1:=A<|.lp rd n c fr D h;rw [hi] at s1;obtain ⟨O,s1⟩:=s1;exact ⟨O,fun T r w σ Dl rr Q hT hr C J M L=>LZ<|s1 T r w σ Dl rr Q hT hr C J M L⟩
 | rangeFunc g ps aT body=>
   obtain ⟨ps⟩:=ps;simp only [fg];cases hi:oO ih G rd n g ps aT body fr D h with
   | no=>trivial
   | rv v h1=>exact (Jq A hi).elim
   | cd e I E h1=>exact Jp A Z aa hi
 | exit id=>exact dx.here fun rr Q a w U=>wpIn_exit U
 | ret=>exact dx.here fun rr Q a w U=>wpIn_ret U
 | scope c=>trivial
 | label l=>trivial
 | goto l=>trivial
 | refuse s=>trivial
theorem KN (A:Good P G ih) (l:Nat) (args:List AV) (h:Hp):lI P G (.yl l args h) (fg P G X ih<|.yl l args h):=by
 simp only [fg];cases hi:qP G ih l args h with
 | no=>trivial
 | rv v h1=>exact L6 A hi
 | cd e fr D h1=>
   exfalso;unfold qP at hi;split at hi
   · split at hi
     · split at hi
       · split at hi
         · rename_i L J I M C E d1 _;cases hc:(bf G l && aD l cm)
           · rw [hc] at hi; cases hi
           · rw [hc] at hi;simp only [cond_true] at hi;split at hi
             · split at hi
               · split at hi <;> cases hi
               · cases hi
             · cases hi
         · cases hi
       · cases hi
     · cases hi
   · cases hi
end
end Go.Hb
namespace Go.Hb
mutual
theorem og:∀ {a b:AV},eG a b=true→a=b
 | .bool a,.bool b,h=>by simp only [eG,beq_iff_eq] at h; rw [h]
 | .int k a,.int k' b,h=>by
   simp only [eG] at h;cases hk:aN (dG k) (dG k')
   · rw [hk] at h; cases h
   · rw [hk] at h;simp only [cond_true,decide_eq_true_iff] at h;rw [mQ hk,h]
 | .str l,.str m,h=>by simp only [eG,oh,decide_eq_true_iff] at h; rw [h]
 | .ptr b o,.ptr b' o',h=>by
   simp only [eG,a0] at h;rw [bO h.1,bO h.2]
 | .gJ,.gJ,_=>rfl
 | .sl b o n c x,.sl b' o' n' c' x',h=>by
   simp only [eG,a0,beq_iff_eq] at h;obtain ⟨⟨h1,A⟩,h3,h4,h5⟩:=h;rw [bO h1,bO A,bO h3,bO h4,h5]
 | .an,.an,_=>rfl
 | .map b,.map b',h=>by simp only [eG] at h; rw [bO h]
 | .j4,.j4,_=>rfl
 | .fn f a c,.fn f' a' c',h=>by
   simp only [eG,a0] at h;rw [bO h.1,mJ h.2.1,mJ h.2.2]
 | .gD l,.gD l',h=>by simp only [eG] at h; rw [bO h]
 | .iz,.iz,_=>rfl
 | .fk t v,.fk t' v',h=>by
   simp only [eG,a0] at h;rw [bO h.1,og h.2]
 | .cN,.cN,_=>rfl
 | .agg l,.agg m,h=>by simp only [eG] at h; rw [mJ h]
 | .bV l,.bV m,h=>by simp only [eG] at h; rw [mJ h]
theorem mJ:∀ {a b:List AV},jv a b=true→a=b
 | [],[],_=>rfl
 | a::l,b::m,h=>by
   simp only [jv] at h;cases hk:eG a b
   · rw [hk] at h; cases h
   · rw [hk] at h; rw [og hk,mJ h]
 | [],_::_,h=>by simp [jv] at h
 | _::_,[],h=>by simp [jv] at h
end
theorem uL {c p:Bool} (h:cond c p false =true):c=true∧p=true :=by
 cases c
 · cases h
 · exact ⟨U,h⟩
theorem wb {t:Nat} :∀ {l:List Nat},qp t l=true↔t∈l
 | []=>by simp [qp]
 | u::l=>by
   simp only [qp,ei];cases hb:aN t u
   · have :t≠u:=fun e=>by subst e; simp at hb
     simp only [cond_false,wb,this,false_or]
   · have :=bO hb;simp [this]
theorem zR {i:Nat} :∀ {l:List bT},pU i l=true→∀ e∈l,dE .any e=true→e.on < i
 | [],_,e,he,_=>by cases he
 | x::l,h,e,he,hb=>by
   simp only [pU] at h;cases hx:(dE .any x && !(aD x.on i))
   · rw [hx] at h;rcases ei.1 he with rfl | he
     · rw [hb] at hx;simp only [Bool.true_and,Bool.not_eq_false'] at hx;exact cB.1 hx
     · exact zR h e he hb
   · rw [hx] at h; cases h
def nW (ops:List aB) (X:Nat→Prop):Prop := ∀ i o,X i→ops[i]? =some o→∀ e∈o.after.toList,dE .any e=true→X e.on
theorem wq {l:List Nat} {i:Nat} :lZ l i=(l[i]?).getD 0:=by
 unfold lZ
 induction l generalizing i with
 | nil=>simp [kO]
 | cons a l ih=>
   cases i with
   | zero=>simp [kO]
   | succ i=>simp [kO,ih]
theorem vZ {acc:List Nat} {j:Nat} :∀ {l:List bT},rp (lW acc l) j=true→∃ e∈l,dE .any e=true∧e.on < acc.length∧(j=e.on∨rp (lZ acc e.on) j=true)
 | [],h=>by simp [lW] at h
 | e::l,h=>by
   simp only [lW] at h;cases hb:(dE .any e && aD e.on acc.length)
   · rw [hb] at h;obtain ⟨e',h1,A⟩:=vZ h;exact ⟨e',gR _ h1,A⟩
   · rw [hb] at h;simp only [a0] at hb;simp only [cond_true] at h;have h':((2 ^ e.on ||| lZ acc e.on) ||| lW acc l).testBit j=true :=h;simp only [Nat.testBit_or,nG,Nat.testBit_two_pow,decide_eq_true_iff] at h';rcases h' with (h' | h') | h'
     · exact ⟨e,gS,hb.1,cB.1 hb.2,.inl h'.symm⟩
     · exact ⟨e,gS,hb.1,cB.1 hb.2,.inr h'⟩
     · obtain ⟨e',h1,A⟩:=vZ h';exact ⟨e',gR _ h1,A⟩
theorem zJ {ops:List aB} {X:Nat→Prop} (A:nW ops X):∀ (l:List aB) (acc:List Nat),(∀ k,l[k]? =ops[acc.length+k]?)→(∀ i j,i < acc.length→rp (lZ acc i) j=true→j < i∧(X i→X j))→
 ∀ i j,rp (lZ (gZ l acc) i) j=true→j < i∧(X i→X j)
 | [],acc,_,ha,i,j,h=>by
   simp only [gZ] at h;rcases dF i acc.length with hi | hi
   · exact ha i j hi h
   · rw [wq,gF hi] at h; simp at h
 | o::l,acc,hl,ha,i,j,h=>by
   simp only [gZ] at h;refine zJ A l (acc++ [lW acc o.after.toList]) (fun k=> ?_) (fun i j hi hb=> ?_) i j h
   · have :=hl<|k+1;simp only [iJ] at this;rw [this]; congr 1; simp; omega
   · rw [wq] at hb;rcases dF i acc.length with h1 | h1
     · rw [fJ h1,← wq] at hb; exact ha i j h1 hb
     · have :i=acc.length:=by simp at hi; omega
       subst this;rw [gk (aQ _)] at hb;simp only [Nat.sub_self,iK,iO] at hb;obtain ⟨e,he,I,J,C⟩:=vZ hb;have L:ops[acc.length]? =some o:=by
        have :=hl 0;simpa using this.symm
       rcases C with rfl | C
       · exact ⟨J,fun E=>A _ _ E L e he I⟩
       · obtain ⟨O,M⟩:=ha _ _ J C;exact ⟨ab,fun E=>M<|A _ _ E L e he I⟩
theorem pL {ops:List aB} {X:Nat→Prop} (A:nW ops X) {i j:Nat} (h:jn (gZ ops []) i j=true):j < i∧(X i→X j):=
 zJ A ops [] (fun k=>by simp) (fun i j hi=>by simp at hi) i j h
structure uq (ops:List aB) (dp:List Nat) (i j:Nat) (oi oj:aB):Prop where
 ne:∀ t,oi.dst=some t→oj.dst≠some t
 ap:jn dp i j=true∨((∀ t,oj.dst=some t→t∉oN ops oi)∧∀ t,oi.dst=some t→t∉oN ops oj)
theorem zg {ops:List aB} {I:List Nat} {i:Nat} {J:aB} :∀ {l:List aB} {b:Nat},rL ops I i J b l=true→∀ k C,l[k]? =some C→b+k < i→uq ops I i (b+k) J C
 | [],b,_,k,C,hk,_=>by simp at hk
 | o::l,b,h,k,C,hk,hlt=>by
   simp only [rL] at h;rw [cB.2 (show b < i by omega)] at h;simp only [cond_true,a0,ki,nG] at h;cases k with
   | zero=>
     simp only [iK,bM] at hk;subst hk;refine ⟨fun t h1 A=> ?_,?_⟩
     · have :=h.1.1;rw [h1,A] at this;simp [z7] at this
     · rcases h.1.2 with h1 | ⟨h1,A⟩
       · exact .inl h1
       · refine .inr ⟨fun t E hm=> ?_,fun t E hm=> ?_⟩
         · rw [E] at h1; simp only [sB] at h1; rw [wb.2 hm] at h1; cases h1
         · rw [E] at A; simp only [sB] at A; rw [wb.2 hm] at A; cases A
   | succ k=>
     simp only [iJ] at hk;have :=zg h.2 k C hk ab;rwa [show b+1 +k=b+(k+1) from by omega] at this
theorem uI {ops:List aB} {E:List Nat} :∀ {l:List aB} {b:Nat},n6 ops E b l=true→∀ k A,l[k]? =some A→pU (b+k) A.after.toList=true∧∀ j C,ops[j]? =some C→j < b+k→uq ops E (b+k) j A C
 | [],b,_,k,A,hk=>by simp at hk
 | o::l,b,h,k,A,hk=>by
   simp only [n6,a0] at h;cases k with
   | zero=>
     simp only [iK,bM] at hk;subst hk;refine ⟨h.1.1,fun j C I J=> ?_⟩;have :=zg h.1.2 j C I ab;rwa [cM] at this
   | succ k=>
     simp only [iJ] at hk;have :=uI h.2 k A hk;rwa [show b+1 +k=b+(k+1) from by omega] at this
theorem z9 {a:Option AV} {v:AV} (h:u5 a v=true):a=some v:=by
 cases a with
 | none=>cases h
 | some a=>rw [og h]
theorem Bz {P:au} {C:List Nat} {i:Nat} {o:Op} {xs:List AV} {v:AV} :∀ {l:List Rec} {b:Nat},qt P C i o xs v b l=true→∀ k q,l[k]? =some q→
 (q.k= .c→(b+k < i→jn C i (b+k)=true∨iZ P o xs q.hb=some v)∧(¬b+k < i→jn C (b+k) i=true∨iZ P o xs q.ha=some v))∧(q.k= .a→¬b+k < i)
 | [],b,_,k,q,hk=>by simp at hk
 | x::l,b,h,k,q,hk=>by
   simp only [qt] at h;obtain ⟨h1,E⟩:=uL h;cases k with
   | succ k=>
     simp only [iJ] at hk;have :=Bz E k q hk;rwa [show b+1 +k=b+(k+1) from by omega] at this
   | zero=>
     simp only [iK,bM] at hk;subst hk;rw [lC];refine ⟨fun I=> ?_,fun ha A=> ?_⟩
     · rw [I] at h1;simp only at h1;refine ⟨fun A=> ?_,fun A=> ?_⟩
       · rw [cB.2 A] at h1;simp only [cond_true,nG] at h1;exact h1.imp id z9
       · have :aD b i=false :=by cases hb:aD b i; rfl; exact absurd (cB.1 hb) A
         rw [this] at h1;simp only [cond_false,nG] at h1;exact h1.imp id z9
     · rw [ha,cB.2 A] at h1; cases h1
theorem By {C:List Nat} {i:Nat} :∀ {l:List Rec} {b:Nat},qs C i b l=true→∀ k q,l[k]? =some q→(q.k= .c∨q.k= .a)→b+k < i→jn C i (b+k)=true
 | [],b,_,k,q,hk,_,_=>by simp at hk
 | x::l,b,h,k,q,hk,A,E=>by
   simp only [qs] at h;obtain ⟨h1,I⟩:=uL h;cases k with
   | succ k=>
     simp only [iJ] at hk;have :=By I k q hk A ab;rwa [show b+1 +k=b+(k+1) from by omega] at this
   | zero=>
     simp only [iK,bM] at hk;subst hk;rw [lC] at E ⊢;rcases A with A | A <;> (rw [A] at h1; simp only at h1; rw [cB.2 E] at h1; exact h1)
theorem BA {P:au} {E:List Nat} {rs:List Rec} :∀ {l:List aB} {m:List Rec} {b:Nat},kP P E rs b l m=true→l.length=m.length∧∀ k o q,l[k]? =some o→m[k]? =some q→(q.k= .l→qt P E (b+k) o.op q.xs q.v 0 rs=true)∧(q.k= .c→qs E (b+k) 0 rs=true)
 | [],[],b,_=>⟨rfl,fun k o q A=>by simp at A⟩
 | [],_::_,b,h=>by simp [kP] at h
 | _::_,[],b,h=>by simp [kP] at h
 | o::l,q::m,b,h=>by
   simp only [kP] at h;obtain ⟨h1,J⟩:=uL h;obtain ⟨L,M⟩:=BA J;refine ⟨by simp [L],fun k O q' A C=> ?_⟩;cases k with
   | succ k=>
     simp only [iJ] at A C;have :=M k O q' A C;rwa [show b+1 +k=b+(k+1) from by omega] at this
   | zero=>
     simp only [iK,bM] at A C;subst A; subst C;rw [lC];exact ⟨fun I=>by rw [I] at h1; exact h1,fun I=>by rw [I] at h1; exact h1⟩
end Go.Hb
namespace Go.Hb
section
variable {P:au} {G:Nat} {X:Xt} {ih:Tk→Rs} {n:Nat}
inductive Cl (P:au) (G:Nat) (o:Op) (q:Rec):Prop
 | p:q.k= .p→mX P o q.xs=some q.v→q.ha=q.hb→Cl P G o q
 | l:q.k= .l→iZ P o q.xs q.hb=some q.v→q.ha=q.hb→Cl P G o q
 | a (e:av) (l:List AV):q.k= .a→o= .alloc e→rD P e=some l→cV q.hb (.cells l e 0 .x)=some q.ha→q.v= .ptr q.hb.nx 0→Cl P G o q
 | c:q.k= .c→jS P G o q.xs q.hb q.v q.ha→Cl P G o q
structure nZ (P:au) (G n:Nat) (ops:List aB) (o:aB) (q:Rec) (fr fr':Tr AV) (h h':Hp):Prop where
 hb:q.hb=h
 ha:q.ha=h'
 set :fF n fr o.dst q.v=some fr'
 run:(jz n ops fr o.guard= .y∧j8 G n fr (gh o.op)=some q.xs∧Cl P G o.op q)∨(jz n ops fr o.guard= .n∧q.k= .s∧q.v= .bV []∧q.ha=q.hb)
theorem Jh (J:Good P G ih) (L:iq P G X) (I:gq P) (M:∀ f args h v h',ih (.cl f args h)= .rv v h'→∃ fn c,P.funcs[f]? =some fn∧fn.body=some c) {E:Bool} {o:Op} {xs:List AV} {h:Hp} {q:Rec} (A:wP P G X ih E o xs h=some q):q.xs=xs∧q.hb=h∧Cl P G o q:=by
 unfold wP at A;split at A
 · rename_i v hp; cases A; exact ⟨rfl,rfl,.p rfl hp rfl⟩
 · split at A
   · rename_i v C; cases A; exact ⟨rfl,rfl,.l rfl C rfl⟩
   · split at A
     · rename_i e _ _;split at A
       · rename_i l C;split at A
         · rename_i h' hn; cases A; exact ⟨rfl,rfl,.a e l rfl rfl C hn rfl⟩
         · cases A
       · cases A
     · split at A
       · rename_i v h' O; cases A; exact ⟨rfl,rfl,.c rfl (BH J L I M O)⟩
       · cases A
theorem Cl.nx {o:Op} {q:Rec} (h:Cl P G o q):q.hb.nx≤q.ha.nx:=by
 cases h with
 | p _ _ h=>rw [h]; exact aQ _
 | l _ _ h=>rw [h]; exact aQ _
 | a e l _ _ _ h _=>have :=j3 h; omega
 | c _ h=>exact h.1
theorem nZ.nx {ops:List aB} {o:aB} {q:Rec} {fr C:Tr AV} {h h':Hp} (A:nZ P G n ops o q fr C h h'):h.nx≤h'.nx:=by
 rw [← A.hb,← A.ha];rcases A.run with ⟨_,_,h⟩ | ⟨_,_,_,h⟩
 · exact h.nx
 · rw [h]; exact aQ _
theorem BU (ac:Good P G ih) (ad:iq P G X) (ab:gq P) (ae:∀ f args h v h',ih (.cl f args h)= .rv v h'→∃ fn c,P.funcs[f]? =some fn∧fn.body=some c) {ops:List aB} {aa:List Nat} :∀ {l:List aB} {i:Nat} {last:Option Nat} {fr C:Tr AV} {h E:Hp} {rs:List Rec},kS P G X ih n ops aa i last l fr h=some (rs,C,E)→
 ∃ (F:Nat→Tr AV) (H:Nat→Hp),F 0=fr∧H 0=h∧F l.length=C∧H l.length=E∧rs.length=l.length∧∀ k o q,l[k]? =some o→rs[k]? =some q→nZ P G n ops o q (F k) (F<|k+1) (H k) (H<|k+1)
 | [],i,last,fr,C,h,E,rs,hr=>by
   simp only [kS,bM,gT] at hr;obtain ⟨rfl,rfl,rfl⟩:=hr;exact ⟨fun _=>fr,fun _=>h,U,U,U,U,U,fun k o q I=>by simp at I⟩
 | o::l,i,last,fr,C,h,E,rs,hr=>by
   have key:∀ (q:Rec) (A:Tr AV) (j:Nat) (la:Option Nat) (ja:List Rec),nZ P G n ops o q fr A h q.ha→kS P G X ih n ops aa j la l A q.ha=some (ja,C,E)→rs=q::ja→
    ∃ (F:Nat→Tr AV) (H:Nat→Hp),F 0=fr∧H 0=h∧F (o::l).length=C∧H (o::l).length=E∧rs.length=(o::l).length∧∀ k M q,(o::l)[k]? =some M→rs[k]? =some q→nZ P G n ops M q (F k) (F<|k+1) (H k) (H<|k+1):=by
    intro q A j la ja aq L ag;obtain ⟨F,H,h1,O,al,am,ao,ap⟩:=BU ac ad ab ae L;refine ⟨fun k=>match k with | 0=>fr | k+1=>F k,fun k=>match k with | 0=>h | k+1=>H k,U,U,al,am,by rw [ag]; simp [ao],fun k M q' I J=> ?_⟩;subst ag;cases k with
    | zero=>
      simp only [iK,bM] at I J;subst I; subst J;simp only [h1,O]; exact aq
    | succ k=>exact ap k M q' (by simpa using I)<|by simpa using J
   simp only [kS] at hr;split at hr
   · rename_i V;split at hr
     · rename_i xs ar;split at hr
       · rename_i q J;split at hr
         · rename_i A Z;split at hr
           · rename_i ja ak O L;cases hr;obtain ⟨ah,ai,aj⟩:=Jh ac ad ab ae J;exact key q A _ _ ja ⟨ai,U,Z,.inl ⟨V,by rw [ah]; exact ar,aj⟩⟩ L U
           · cases hr
         · cases hr
       · cases hr
     · cases hr
   · rename_i V;split at hr
     · rename_i A Z;split at hr
       · rename_i ja ak O L;cases hr;exact key ⟨.s,[],.bV [],h,h⟩ A _ _ ja ⟨U,U,Z,.inr ⟨V,U,U,U⟩⟩ L U
       · cases hr
     · cases hr
   · cases hr
structure Sq (P:au) (G n:Nat) (ops:List aB) (rs:List Rec) (F:Nat→Tr AV) (H:Nat→Hp):Prop where
 len:rs.length=ops.length
 line:∀ k o q,ops[k]? =some o→rs[k]? =some q→nZ P G n ops o q (F k) (F<|k+1) (H k) (H<|k+1)
 pair:∀ i j oi oj,ops[i]? =some oi→ops[j]? =some oj→j < i→uq ops (gZ ops []) i j oi oj
 GK:∀ i o,ops[i]? =some o→∀ e∈o.after.toList,dE .any e=true→e.on < i
theorem Cn {fr C:Tr AV} {d:Option Nat} {v:AV} (A:fF n fr d v=some C) (t:Nat):dd C t=if d=some t then v else dd fr t:=by
 cases d with
 | none=>simp only [fF,bM] at A; subst A; simp
 | some d=>
   simp only [fF] at A;replace A:=aY A; obtain ⟨E,A⟩:=A;simp only [a0] at E;cases A;simp only [dd,Tr.kE _ _ _ _ E.2,bM];by_cases e:t=d
   · subst e; simp
   · rw [if_neg e,if_neg (fun x=>e x.symm)]
variable {ops:List aB} {rs:List Rec} {F:Nat→Tr AV} {H:Nat→Hp}
theorem Sq.get (s:Sq P G n ops rs F H) {i:Nat} {o:aB} (A:ops[i]? =some o):∃ q,rs[i]? =some q:=by
 have :=(cK.1 A).1;exact ⟨rs[i]'(by rw [s.len]; exact this),bG _⟩
theorem Sq.get' (s:Sq P G n ops rs F H) {i:Nat} {q:Rec} (A:rs[i]? =some q):∃ o,ops[i]? =some o:=by
 have :=(cK.1 A).1;exact ⟨ops[i]'(by rw [← s.len]; exact this),bG _⟩
theorem Sq.slot (s:Sq P G n ops rs F H) (t:Nat):∀ k,k≤ops.length→(∃ j o q,j < k∧ops[j]? =some o∧o.dst=some t∧rs[j]? =some q∧dd (F k) t=q.v)∨((∀ j o,j < k→ops[j]? =some o→o.dst≠some t)∧dd (F k) t=dd (F 0) t)
 | 0,_=> .inr ⟨fun j o h=>by omega,rfl⟩
 | k+1,hk=>by
   have A:ops[k]? =some (ops[k]'ab):=bG _;generalize ops[k]'ab=o at A;obtain ⟨q,L⟩:=s.get A;have V:=s.line k o q A L;rw [Cn V.set t];by_cases e:o.dst=some t
   · rw [if_pos e]; exact .inl ⟨k,o,q,mr _,A,e,L,rfl⟩
   · rw [if_neg e];rcases s.slot t k ab with ⟨j,J,q',h1,C,M,O,U⟩ | ⟨h1,C⟩
     · exact .inl ⟨j,J,q',ab,C,M,O,U⟩
     · refine .inr ⟨fun j J E I=> ?_,C⟩;rcases EE.1 E with E | rfl
       · exact h1 j J E I
       · rw [A] at I; cases I; exact e
def mA (ops:List aB) (rs:List Rec) (f0:Tr AV) (Y:Nat→Prop) (fx:Tr AV):Prop := ∀ t,(∃ j o q,Y j∧ops[j]? =some o∧o.dst=some t∧rs[j]? =some q∧dd fx t=q.v)∨((∀ j o,Y j→ops[j]? =some o→o.dst≠some t)∧dd fx t=dd f0 t)
theorem mA.set {f0 fx J:Tr AV} {Y:Nat→Prop} (O:mA ops rs f0 Y fx) {i:Nat} {o:aB} {q:Rec} (L:ops[i]? =some o) (M:rs[i]? =some q) (h:fF n fx o.dst q.v=some J):mA ops rs f0 (fun j=>Y j∨j=i) J:=by
 intro t;rw [Cn h t];by_cases e:o.dst=some t
 · rw [if_pos e]; exact .inl ⟨i,o,q,.inr rfl,L,e,M,rfl⟩
 · rw [if_neg e];rcases O t with ⟨j,I,q',h1,A⟩ | ⟨h1,A⟩
   · exact .inl ⟨j,I,q',.inl h1,A⟩
   · refine .inr ⟨fun j I C E=> ?_,A⟩;rcases C with C | rfl
     · exact h1 j I C E
     · rw [L] at E; cases E; exact e
theorem JU {fr C:Tr AV} {d:Option Nat} {v:AV} (A:fF n fr d v=some C) (fx:Tr AV):∃ E,fF n fx d v=some E:=by
 cases d with
 | none=>exact ⟨fx,rfl⟩
 | some d=>
   simp only [fF] at A ⊢;replace A:=aY A; obtain ⟨I,A⟩:=A;rw [I]; exact ⟨_,rfl⟩
theorem Sq.E4 (s:Sq P G n ops rs F H) {Y:Nat→Prop} (ah:nW ops Y) {i:Nat} {o:aB} (Z:ops[i]? =some o) (hi:¬Y i) (hr:nW ops (fun j=>Y j∨j=i)) {fx:Tr AV} (ac:mA ops rs (F 0) Y fx) {t:Nat} (ad:t∈oN ops o):dd fx t=dd (F i) t:=by
 have aj:=(cK.1 Z).1;rcases s.slot t i ab with ⟨j,U,ak,h1,J,O,ae,ag⟩ | ⟨h1,J⟩
 · have hp:=s.pair i j o U Z J h1;have ai:Y j:=by
    rcases hp.ap with hb | ⟨hb,_⟩
    · rcases (pL hr hb).2 (.inr rfl) with h | h
      · exact h
      · omega
    · exact absurd ad<|hb t O
   rcases ac t with ⟨C,M,q',I,A,L,V,aa⟩ | ⟨I,A⟩
   · have :C=j:=by
      rcases rk C j with E | he | E
      · exact absurd L<|(s.pair j C U M J A E).ne t O
      · exact he
      · exact absurd O<|(s.pair C j M U A J E).ne t L
     subst this;rw [ae] at V; cases V;rw [aa,ag]
   · exact absurd O<|I j U ai J
 · rcases ac t with ⟨C,M,q',I,A,L,V,aa⟩ | ⟨I,A⟩
   · exfalso;rcases rk C i with E | he | E
     · exact h1 C M E A L
     · subst he; exact hi I
     · rcases (s.pair C i M o A Z E).ap with hb | ⟨_,hb⟩
       · exact hi<|(pL ah hb).2 I
       · exact hb t L ad
   · rw [A,J]
theorem I3 {fr fx:Tr AV} {x:aW} (h:∀ t,x= .tmp t→dd fx t=dd fr t):j7 G n fx x=j7 G n fr x:=by
 cases x with
 | tmp t=>simp only [j7,h t rfl]
 | const v=>rfl
 | func f=>rfl
 | global g=>rfl
theorem BD {fr fx:Tr AV} :∀ {l:List aW},(∀ t∈oY l,dd fx t=dd fr t)→j8 G n fx l=j8 G n fr l
 | [],_=>rfl
 | x::l,h=>by
   simp only [j8];rw [I3 (fr:=fr) (fx:=fx) fun t e=>h t (by subst e; simp [oY]),BD (fr:=fr) (fx:=fx) (l:=l) fun t A=>h t (by cases x <;> simp [oY,A])]
theorem Hm {fr fx:Tr AV} {g:Option (Nat×Bool)} (h:∀ t∈vz ops g,dd fx t=dd fr t):jz n ops fx g=jz n ops fr g:=by
 unfold jz;cases g with
 | none=>rfl
 | some p=>
   obtain ⟨j,want⟩:=p;simp only;cases hj:ops[j]? with
   | none=>rfl
   | some q=>
     simp only;cases hd:q.dst with
     | none=>rfl
     | some t=>
       simp only;rw [h t (by simp [vz,hj,hd])]
theorem Sq.done (s:Sq P G n ops rs F H) {Y:Nat→Prop} (ad:∀ j,j < ops.length→Y j) {fx:Tr AV} (aa:mA ops rs (F 0) Y fx) (t:Nat):dd fx t=dd (F ops.length) t:=by
 rcases s.slot t ops.length (aQ _) with ⟨j,V,ae,h1,E,O,ab,ac⟩ | ⟨h1,E⟩
 · rcases aa t with ⟨C,L,q',I,A,J,M,Z⟩ | ⟨I,A⟩
   · have :C=j:=by
      rcases rk C j with U | he | U
      · exact absurd J<|(s.pair j C V L E A U).ne t O
      · exact he
      · exact absurd O<|(s.pair C j L V A E U).ne t J
     subst this;rw [ab] at M; cases M;rw [Z,ac]
   · exact absurd O<|I j V (ad j h1) E
 · rcases aa t with ⟨C,L,q',I,A,J,M,Z⟩ | ⟨I,A⟩
   · exact absurd J<|h1 C L (cK.1 A).1 A
   · rw [A,E]
theorem Sq.mono (s:Sq P G n ops rs F H) {i:Nat} :∀ {k:Nat},i≤k→k≤ops.length→(H i).nx≤(H k).nx
 | 0,h,_=>by have :i=0:=ab
             subst this; exact aQ _
 | k+1,h,hk=>by
   rcases dF k i with E | hle
   · have :i=k+1:=ab;subst this; exact aQ _
   · have A:ops[k]? =some (ops[k]'ab):=bG _;obtain ⟨q,C⟩:=s.get A;exact cS (s.mono hle ab) (s.line k _ q A C).nx
theorem E6 {e:av} {l:List AV} (ha:rD P e=some l):dS l=true∧∃ us:List ag,(∀ r,aI r l=some us)∧∀ (N:Fm) (σ:Nat→ag) (dst:Option Nat) (ty:av) (pos :String) (af:Array bT) (g:Option (Nat×Bool)) (w:ah),
 (execOp (ev N σ) ⟨dst,.alloc e,ty,pos,af,g⟩).run P w= .ok (.value<|.pointer<|some ⟨w.heap.size,0,none⟩) {w with heap:=w.heap.push<|.cells us.toArray e (0,0)} :=by
 unfold rD at ha;split at ha
 · rename_i J A;split at ha
   · rename_i L E;replace ha:=aY ha; obtain ⟨C,ha⟩:=ha;cases ha;refine ⟨C,J,fun r=>oE (r:=r) (fun v a=>l4 4) E,fun N σ dst ty pos af g w=> ?_⟩;unfold zeroOf at A;simp only [gG] at A;obtain ⟨i,hi,zv,I,rfl⟩:=A;simp [execOp,tP,zeroValue,de hi,I,newVar,newRow]
   · cases ha
 · cases ha
end
end Go.Hb
namespace Go.Hb
section
variable {P:au} {G n T:Nat} {ops:List aB} {rs:List Rec} {F:Nat→Tr AV} {H:Nat→Hp} {r0 r:Rn} {w0 w:ah} {h0:Hp} {Y:Nat→Prop} {lo:Nat}
structure HD (P:au) (G T:Nat) (ops:List aB) (rs:List Rec) (H:Nat→Hp) (r0:Rn) (w0:ah) (h0:Hp) (Y:Nat→Prop) (lo:Nat) (r:Rn) (w:ah):Prop where
 hi:lo≤rs.length
 lc:∀ j q,rs[j]? =some q→q.k= .c→(Y j↔j < lo)
 la:∀ j q,rs[j]? =some q→q.k= .a→j < lo→Y j
 hr:HR P G r 0 (H lo) w
 new:∀ i,(H lo).nx≤i→i < T→r i=none∨∃ j q,Y j∧lo≤j∧rs[j]? =some q∧q.k= .a∧q.hb.nx=i
 kR:∀ j q,Y j→lo≤j→rs[j]? =some q→q.k= .a→∃ k,r q.hb.nx=some ⟨k,0,0⟩∧w0.heap.size≤k∧(∀ i o q',(H lo).t.get i=some o→r i=some q'→q'.ak≠k)∧
  ∃ e l us,cV q.hb (.cells l e 0 .x)=some q.ha∧(∀ r,aI r l=some us)∧dS l=true∧w.heap[k]? =some (.cells us.toArray e (0,0))
 oK:∀ j j' q q' x x',Y j→lo≤j→rs[j]? =some q→q.k= .a→Y j'→lo≤j'→rs[j']? =some q'→q'.k= .a→r q.hb.nx=some x→r q'.hb.nx=some x'→x.ak=x'.ak→j=j'
 le:r0.le r
 md:Md (Fr G r0 h0) w0 w
 dR:∀ g,g≤G→∀ k,k < w0.heap.size→Fr g r (H lo) k→Fr g r0 h0 k
 out:∀ i,(H ops.length).nx≤i→r i=r0 i
theorem Sq.fresh (s:Sq P G n ops rs F H) {j:Nat} {q:Rec} (E:rs[j]? =some q) (C:q.k= .a):q.hb=H j∧q.ha=H (j+1)∧(H<|j+1).nx=(H j).nx+1:=by
 obtain ⟨o,I⟩:=s.get' E;have A:=s.line j o q I E;refine ⟨A.hb,A.ha,?_⟩;rw [← A.hb,← A.ha];rcases A.run with ⟨_,_,h⟩ | ⟨_,h,_,_⟩
 · cases h with
   | p h _ _=>rw [C] at h; cases h
   | l h _ _=>rw [C] at h; cases h
   | a e l _ _ _ h _=>exact j3 h
   | c h _=>rw [C] at h; cases h
 · rw [C] at h; cases h
theorem Sq.alt (s:Sq P G n ops rs F H) {j i:Nat} {q q':Rec} (J:rs[j]? =some q) (E:q.k= .a) (A:rs[i]? =some q') (I:q'.k= .a) (V:j < i):q.hb.nx < q'.hb.nx:=by
 obtain ⟨h1,O,U⟩:=s.fresh J E;obtain ⟨C,L,M⟩:=s.fresh A I;have :=s.mono (i:=j+1) (k:=i) ab<|by have :=(cK.1 A).1; have :=s.len; omega
 rw [h1,C]; omega
theorem Sq.E5 (s:Sq P G n ops rs F H) {j i:Nat} {q q':Rec} (E:rs[j]? =some q) (A:q.k= .a) (I:rs[i]? =some q') (C:q'.k= .a) (he:q.hb.nx=q'.hb.nx):j=i:=by
 rcases rk j i with h | h | h
 · have :=s.alt E A I C h; omega
 · exact h
 · have :=s.alt I C E A h; omega
theorem HD.xJ (A:HD P G T ops rs H r0 w0 h0 Y lo r w) {q:Rec} (U:rs[lo]? =some q) (he:H (lo+1)=H lo) (aa:q.k≠.c) (ha:q.k≠.a):HD P G T ops rs H r0 w0 h0 Y (lo+1) r w:=by
 have E:∀ j q',rs[j]? =some q'→(q'.k= .c∨q'.k= .a)→j≠lo:=fun j q' E ac e=>by
  subst e; rw [U] at E; cases E;rcases ac with h | h
  · exact aa h
  · exact ha h
 refine ⟨(cK.1 U).1,fun j q' h1 C=> ?_,fun j q' h1 C O=>A.la j q' h1 C (by have :=E j q' h1 (.inr C); omega),by rw [he]; exact A.hr,fun i h1 C=> ?_,fun j q' h1 C O Z=>by rw [he]; exact A.kR j q' h1 ab O Z,fun j ad ae ag x ah L V I J M ai=>A.oK j ad ae ag x ah L ab I J M ab,A.le,A.md,by rw [he]; exact A.dR,A.out⟩
 · rw [A.lc j q' h1 C]; have :=E j q' h1 (.inl C); omega
 · rw [he] at h1;rcases A.new i h1 C with h | ⟨j,q',L,V,I,J,M⟩
   · exact .inl h
   · exact .inr ⟨j,q',L,by have :=E j q' I (.inr J); omega,I,J,M⟩
theorem HD.K6 (s:Sq P G n ops rs F H) (A:HD P G T ops rs H r0 w0 h0 Y lo r w) {q:Rec} (L:rs[lo]? =some q) (ha:q.k= .a) (Z:Y lo):HD P G T ops rs H r0 w0 h0 Y (lo+1) r w:=by
 obtain ⟨f1,f2,f3⟩:=s.fresh L ha;obtain ⟨k,M,az,ap,e,l,us,hn,aq,h1,hw⟩:=A.kR lo q Z (aQ _) L ha;rw [f1] at M;rw [f1,f2] at hn;unfold cV at hn;replace hn:=aY hn; obtain ⟨U,hn⟩:=hn;simp only [bM] at hn;have aA:(H<|lo+1).nx=(H lo).nx+1:=f3;refine ⟨(cK.1 L).1,fun j q' h1 E=> ?_,fun j q' h1 E aj=> ?_,?_,fun i h1 E=> ?_,fun j q' I ac C J=> ?_,fun j ar av aw x ax I ac C J O ay=>A.oK j ar av aw x ax I ab C J O ab,A.le,A.md,?_,A.out⟩
 · rw [A.lc j q' h1 E];have :j≠lo:=fun e=>by subst e; rw [L] at h1; cases h1; rw [ha] at E; cases E
   omega
 · rcases EE.1 aj with h | rfl
   · exact A.la j q' h1 E h
   · exact Z
 · rw [← hn];exact A.hr.put (r':=r) (w':=w) (q:=⟨k,0,0⟩) (Rn.le_refl r) U M (by rw [hw]; exact wz (aq r) h1) (fun _ _ _=>rfl) (fun j au q' _ al hr=>ap j au q' al hr) (lD _) fun _ _ am=>absurd am<|uh _
 · rcases A.new i ab E with h | ⟨j,q',I,ac,C,J,O⟩
   · exact .inl h
   · refine .inr ⟨j,q',I,?_,C,J,O⟩;rcases dF lo j with h | h
     · exact h
     · have :j=lo:=ab;subst this;rw [L] at C; cases C;rw [f1] at O; omega
 · obtain ⟨aa,ad,ag,ah,ai⟩:=A.kR j q' I ab C J;refine ⟨aa,ad,ag,fun i o x hi V=> ?_,ai⟩;rw [← hn] at hi;simp only [Tr.kE _ _ _ _ U] at hi;split at hi
   · rename_i e; subst e;intro hb;rw [M] at V; cases V;have :=A.oK lo j q q' _ _ Z (aQ _) L ha I ab C J (by rw [f1]; exact M) ad hb;omega
   · exact ah i o x hi V
 · intro g ak aa ao ae;rw [← hn] at ae;rcases Fr.set U M (Rn.le_refl r) A.hr ae with h | h
   · simp only at h; omega
   · exact A.dR g ak aa ao h
theorem HD.up (s:Sq P G n ops rs F H) (E:HD P G T ops rs H r0 w0 h0 Y lo r w) {q:Rec} (A:rs[lo]? =some q) (C:q.k≠.c) (ha:q.k= .a→Y lo):HD P G T ops rs H r0 w0 h0 Y (lo+1) r w:=by
 obtain ⟨o,J⟩:=s.get' A;have I:=s.line lo o q J A;have same:q.ha=q.hb→H (lo+1)=H lo:=fun h=>by rw [← I.hb,← I.ha,h]
 rcases I.run with ⟨_,_,h⟩ | ⟨_,h,_,h'⟩
 · cases h with
   | p h _ h'=>exact E.xJ A (same h') C<|by rw [h]; intro h; cases h
   | l h _ h'=>exact E.xJ A (same h') C<|by rw [h]; intro h; cases h
   | a e l h _ _ _ _=>exact E.K6 s A h<|ha h
   | c h _=>exact absurd h C
 · exact E.xJ A (same h') C<|by rw [h]; intro h; cases h
theorem HD.xK (s:Sq P G n ops rs F H) (A:HD P G T ops rs H r0 w0 h0 Y lo r w):∀ (i:Nat),lo≤i→i≤rs.length→(∀ j q,lo≤j→j < i→rs[j]? =some q→q.k≠.c∧(q.k= .a→Y j))→HD P G T ops rs H r0 w0 h0 Y i r w
 | 0,h,_,_=>by have :lo=0:=ab
               subst this; exact A
 | i+1,h,hi,hall=>by
   rcases dF i lo with E | hle
   · have :lo=i+1:=ab;subst this; exact A
   · have h':=HD.xK s A i hle ab fun j q a b c=>hall j q a ab c;have C:rs[i]? =some (rs[i]'ab):=bG _;exact h'.up s C (hall i _ hle (mr _) C).1 (hall i _ hle (mr _) C).2
theorem HD.skip (A:HD P G T ops rs H r0 w0 h0 Y lo r w) {i:Nat} {q:Rec} (ah:rs[i]? =some q) (ae:q.k≠.c) (ha:q.k≠.a):HD P G T ops rs H r0 w0 h0 (fun j=>Y j∨j=i) lo r w:=by
 have C:∀ j q',rs[j]? =some q'→(q'.k= .c∨q'.k= .a)→(Y j∨j=i)→Y j:=fun j q' C ag ai=>by
  rcases ai with h | rfl
  · exact h
  · rw [ah] at C; cases C;rcases ag with h | h
    · exact absurd h ae
    · exact absurd h ha
 refine ⟨A.hi,fun j q' h1 E=> ?_,fun j q' h1 E ad=> .inl (A.la j q' h1 E ad),A.hr,fun i h1 E=> ?_,fun j q' I J L M=>A.kR j q' (C j q' L (.inr M) I) J L M,fun j V Z aa x aj I J L M ab ac O U=>A.oK j V Z aa x aj (C j Z L (.inr M) I) J L M (C V aa O (.inr U) ab) ac O U,A.le,A.md,A.dR,A.out⟩
 · rw [← A.lc j q' h1 E]; exact ⟨C j q' h1 (.inl E),.inl⟩
 · rcases A.new i h1 E with h | ⟨j,q',I,J⟩
   · exact .inl h
   · exact .inr ⟨j,q',.inl I,J⟩
theorem HR.grow {h:Hp} {r':Rn} {w':ah} (hr:HR P G r 0 h w) (hle:r.le r') (hw:∀ k,k < w.heap.size→w'.heap[k]? =w.heap[k]?):HR P G r' 0 h w':=by
 refine ⟨fun i o hi=> ?_,fun i j o J q q' hi I h1 A he=> ?_,fun i _ h=>absurd h (uh _),hr.eX.le hle,hr.base⟩
 · obtain ⟨q,h1,A⟩:=hr.live i o hi;refine ⟨q,hle _ _ h1,?_⟩;rw [hw _ (hr.lt hi h1)];exact A.le hle
 · obtain ⟨x,C,_⟩:=hr.live i o hi;obtain ⟨L,E,_⟩:=hr.live j J I;rw [hle _ _ C] at h1; cases h1;rw [hle _ _ E] at A; cases A;exact hr.inj i j o J _ _ hi I C E he
theorem HD.early (s:Sq P G n ops rs F H) (A:HD P G T ops rs H r0 w0 h0 Y lo r w) (hT:(H ops.length).nx≤T) {i:Nat} {q:Rec} {e:av} {l:List AV} {us:List ag} (M:rs[i]? =some q) (V:q.k= .a) (aE:¬Y i) (hn:cV q.hb (.cells l e 0 .x)=some q.ha) (aP:∀ r,aI r l=some us) (h1:dS l=true):
 r.le (r.ext q.hb.nx ⟨w.heap.size,0,0⟩)∧HD P G T ops rs H r0 w0 h0 (fun j=>Y j∨j=i) lo (r.ext q.hb.nx ⟨w.heap.size,0,0⟩) {w with heap:=w.heap.push<|.cells us.toArray e (0,0)} :=by
 obtain ⟨f1,f2,f3⟩:=s.fresh M V;have aO:i < ops.length:=by rw [← s.len]; exact (cK.1 M).1
 have aG:lo≤i:=by
  rcases dF i lo with h | h
  · exact absurd (A.la i q M V h) aE
  · exact h
 have m1:=s.mono aG<|Nat.le_of_lt aO;have aR:=s.mono (i:=i+1) (k:=ops.length) ab<|aQ _;have aL:r q.hb.nx=none:=by
  rw [f1];rcases A.new (H i).nx m1 ab with h | ⟨j,q',E,Z,I,aa,L⟩
  · exact h
  · have :=s.E5 I aa M V<|by rw [L,f1]
    subst this; exact absurd E aE
 have hle:=Rn.qk (r:=r) (i:=q.hb.nx) ⟨w.heap.size,0,0⟩ aL;have aF:∀ k,k < w.heap.size→({w with heap:=w.heap.push<|.cells us.toArray e (0,0)} :ah).heap[k]? =w.heap[k]? :=fun k V=>by
  simp only [tK]; rw [if_neg ab]
 have live:∀ j o x,(H lo).t.get j=some o→(r.ext q.hb.nx ⟨w.heap.size,0,0⟩) j=some x→r j=some x:=fun j o x h1 aD=>by
  obtain ⟨am,C,_⟩:=A.hr.live j o h1;rw [hle _ _ C] at aD; cases aD; exact C
 refine ⟨hle,A.hi,fun j q' C J=> ?_,fun j q' C J ai=> .inl (A.la j q' C J ai),A.hr.grow hle aF,fun al C J=> ?_,fun j q' E Z I aa=> ?_,fun j ax O ay x am E Z I aa L ao ac ap aq ae ar=> ?_,Rn.le_trans A.le hle,Md.trans' A.md (IE w _ fun _=>False) (fun _ _ h=>h.elim),fun g aM k V aK=> ?_,fun al aN=> ?_⟩
 · rw [← A.lc j q' C J];refine ⟨fun h=> ?_,.inl⟩;rcases h with h | rfl
   · exact h
   · rw [M] at C; cases C; rw [V] at J; cases J
 · by_cases he:al=q.hb.nx
   · exact .inr ⟨i,q,.inr U,aG,M,V,he.symm⟩
   · rw [Rn.jy _ _ he];rcases A.new al C J with h | ⟨j,q',E,Z⟩
     · exact .inl h
     · exact .inr ⟨j,q',.inl E,Z⟩
 · rcases E with E | rfl
   · obtain ⟨k,C,J,ai,e',aH,aJ,aA,aB,aC,aj⟩:=A.kR j q' E Z I aa;exact ⟨k,hle _ _ C,J,fun i o x hi aw=>ai i o x hi (live i o x hi aw),e',aH,aJ,aA,aB,aC,by rw [aF k (dm.1 aj).1]; exact aj⟩
   · rw [M] at I; cases I;refine ⟨w.heap.size,Rn.gI _ _ _,A.md.size,fun i o x hi aw=> ?_,e,l,us,hn,aP,h1,by simp⟩;have :=A.hr.lt hi<|live i o x hi aw;omega
 · have dR:∀ j O x,Y j→lo≤j→rs[j]? =some O→O.k= .a→(r.ext q.hb.nx ⟨w.heap.size,0,0⟩) O.hb.nx=some x→r O.hb.nx=some x∧x.ak < w.heap.size:=fun j O x ad c2 c3 au az=>by
    obtain ⟨k,C,J,ai,e',aH,aJ,aA,aB,aC,aj⟩:=A.kR j O ad c2 c3 au;rw [hle _ _ C] at az; cases az;exact ⟨C,(dm.1 aj).1⟩
   rcases E with E | rfl
   · obtain ⟨ad,c2⟩:=dR j O x E Z I aa aq;rcases L with L | rfl
     · obtain ⟨d1,d2⟩:=dR ax ay am L ao ac ap ae;exact A.oK j ax O ay x am E Z I aa L ao ac ap ad d1 ar
     · rw [M] at ac; cases ac;rw [Rn.gI] at ae; cases ae;simp only at ar; omega
   · rw [M] at I; cases I;rw [Rn.gI] at aq; cases aq;rcases L with L | rfl
     · obtain ⟨d1,d2⟩:=dR ax ay am L ao ac ap ae;simp only at ar; omega
     · rfl
 · obtain ⟨j,o,x,ad,c2,c3,au⟩:=aK;exact A.dR g aM k V ⟨j,o,x,ad,c2,live j o x c2 c3,au⟩
 · rw [Rn.jy _ _ (by rw [f1]; omega)]; exact A.out al aN
theorem HD.Hz (s:Sq P G n ops rs F H) (A:HD P G T ops rs H r0 w0 h0 Y lo r w) (hT:(H ops.length).nx≤T) {q:Rec} (I:rs[lo]? =some q) (L:q.k= .c):HR P G r (H<|lo+1).nx (H lo) w:=by
 have V:lo < ops.length:=by rw [← s.len]; exact (cK.1 I).1
 have Z:=s.mono (i:=lo+1) (k:=ops.length) ab<|aQ _;refine ⟨A.hr.live,A.hr.inj,fun i h1 U=> ?_,A.hr.eX,A.hr.base⟩;rcases A.new i h1 ab with h | ⟨j,q',M,O,C,E,J⟩
 · exact h
 · exfalso;obtain ⟨f1,f2,f3⟩:=s.fresh C E;have :j≠lo:=fun e=>by subst e; rw [I] at C; cases C; rw [L] at E; cases E
   have :=s.mono (i:=lo+1) (k:=j) ab<|by have :=(cK.1 C).1; have :=s.len; omega
   rw [f1] at J; omega
theorem HD.KV (s:Sq P G n ops rs F H) (A:HD P G T ops rs H r0 w0 h0 Y lo r w) {q:Rec} (am:rs[lo]? =some q) (M:q.k= .c) {r':Rn} {w':ah} (st:St P G (H<|lo+1).nx r (H lo) w r' (H<|lo+1) w'):HD P G T ops rs H r0 w0 h0 (fun j=>Y j∨j=lo) (lo+1) r' w':=by
 have aI:lo < ops.length:=by rw [← s.len]; exact (cK.1 am).1
 have aE:=s.mono (i:=lo+1) (k:=ops.length) ab<|aQ _;have al:∀ j q',rs[j]? =some q'→q'.k= .a→j≠lo:=fun j q' h1 aa e=>by subst e; rw [am] at h1; cases h1; rw [M] at aa; cases aa
 have O:∀ j q',rs[j]? =some q'→q'.k= .a→(Y j∨j=lo)→Y j:=fun j q' h1 aa aA=>aA.resolve_right<|al j q' h1 aa;refine ⟨(cK.1 am).1,fun j q' C J=> ?_,fun j q' C J ai=> ?_,⟨st.hr.live,st.hr.inj,fun i _ h=>absurd h (uh _),st.hr.eX,st.hr.base⟩,fun i C J=> ?_,fun j q' L ao E I=> ?_,fun j ac ad ae x aK L ao E I U aH V Z ap aq aw=> ?_,Rn.le_trans A.le st.le,Md.trans' A.md st.md (fun k M aj=>A.dR G (aQ _) k M aj),fun g av k M aj=>A.dR g av k M (st.dR g av k (mq M A.md.size) aj),fun i hi=>(st.out i<|cS aE hi).trans<|A.out i hi⟩
 · rw [A.lc j q' C J]; omega
 · have :=al j q' C J;exact .inl<|A.la j q' C J ab
 · rw [st.out i C];rcases A.new i (cS st.nx C) J with h | ⟨j,q',L,ao,E,I,U⟩
   · exact .inl h
   · have :=al j q' E I;exact .inr ⟨j,q',.inl L,ab,E,I,U⟩
 · obtain ⟨k,C,J,ai,e',aD,aG,ax,ay,az,au⟩:=A.kR j q' (O j q' E I L) ab E I;have aB:=(dm.1 au).1;refine ⟨k,st.le _ _ C,J,fun i o x hi aC hb=> ?_,e',aD,aG,ax,ay,az,st.md.ak au fun ⟨i,o,x,_,c2,c3,ag⟩=>ai i o x c2 c3 ag⟩;obtain ⟨i2,aF,x2,_,c2,c3,ag⟩:=st.dR 0 (fK _) k aB ⟨i,o,x,fK _,hi,aC,hb⟩;exact ai i2 aF x2 c2 c3 ag
 · obtain ⟨k,C,_⟩:=A.kR j ad (O j ad E I L) ab E I;obtain ⟨aJ,ar,_⟩:=A.kR ac ae (O ac ae V Z U) ab V Z;rw [st.le _ _ C] at ap; cases ap;rw [st.le _ _ ar] at aq; cases aq;exact A.oK j ac ad ae _ _ (O j ad E I L) ab E I (O ac ae V Z U) ab V Z C ar aw
theorem HD.done (s:Sq P G n ops rs F H) (E:HD P G T ops rs H r0 w0 (H 0) Y lo r w) (hT:(H ops.length).nx≤T) (I:∀ j,j < ops.length→Y j):St P G T r0 (H 0) w0 r (H ops.length) w:=by
 have A:=E.xK s ops.length (by have :=E.hi; rw [s.len] at this; exact this) (by rw [s.len]; exact aQ _) fun j q h1 C L=>⟨fun M=>by have :=(E.lc j q L M).1 (I j C); omega,fun _=>I j C⟩
 refine ⟨A.le,⟨A.hr.live,A.hr.inj,fun i h1 C=> ?_,A.hr.eX,A.hr.base⟩,s.mono (fK _) (aQ _),A.md,A.dR,A.out⟩;rcases A.new i h1 C with h | ⟨j,q',O,U,J,V,Z⟩
 · exact h
 · have :=(cK.1 J).1; have :=s.len; omega
theorem HD.start (s:Sq P G n ops rs F H) (hr:HR P G r0 T (H 0) w0) (A:∀ j,¬Y j):HD P G T ops rs H r0 w0 (H 0) Y 0 r0 w0:=
 ⟨fK _,fun j q _ _=>⟨fun h=>absurd h (A j),fun h=>by omega⟩,fun j q _ _ h=>by omega,⟨hr.live,hr.inj,fun i _ h=>absurd h (uh _),hr.eX,hr.base⟩,fun i h1 C=> .inl (hr.new i h1 C),fun j q h=>absurd h (A j),fun j E q q' x I h=>absurd h (A j),Rn.le_refl _,Md.refl _ _,fun _ _ _ _ h=>h,fun _ _=>rfl⟩
end
end Go.Hb
namespace Go.Hb
section
variable {P:au} {G n T:Nat} {ops:List aB} {rs:List Rec} {F:Nat→Tr AV} {H:Nat→Hp}
def Yl (listed:Array Bool) (j:Nat):Prop :=listed[j]? =some true
theorem EZ {listed:Array Bool} {i:Nat} (hi:i < listed.size):Yl (listed.setIfInBounds i true)=fun j=>Yl listed j∨j=i:=by
 funext j;apply propext;unfold Yl;rw [qR];by_cases e:i=j
 · subst e; simp [hi]
 · rw [if_neg e];exact ⟨.inl,fun h=>h.resolve_right fun x=>e x.symm⟩
theorem filter_le {p p':Nat→Bool} (h:∀ j,p' j=true→p j=true):∀ l:List Nat,(l.filter p').length≤(l.filter p).length
 | []=>aQ _
 | a::l=>by
   have :=filter_le h l;simp only [Ei];cases hp:p' a
   · cases p a
     · simpa using this
     · simp only [if_true,nF,if_false,dP]; omega
   · rw [h a hp]; simp only [if_true,dP]; omega
theorem filter_lt {p p':Nat→Bool} (h:∀ j,p' j=true→p j=true) {i:Nat} (hp:p i=true) (A:p' i=false):∀ {l:List Nat},i∈l→(l.filter p').length < (l.filter p).length
 | a::l,hm=>by
   simp only [Ei];rcases ei.1 hm with rfl | hm
   · rw [hp,A];have :=filter_le h l;simp only [if_true,nF,if_false,dP]; omega
   · have :=filter_lt h hp A hm;cases hq:p' a
     · cases p a
       · simpa using this
       · simp only [if_true,nF,if_false,dP]; omega
     · rw [h a hq]; simp only [if_true,dP]; omega
def un (m:Nat) (listed:Array Bool):Nat:=((ml m).filter fun i=> !listed.getD i true).length
theorem K5 {m:Nat} {listed:Array Bool} {i:Nat} (hm:i < m) (hi:listed[i]? =some false):un m (listed.setIfInBounds i true) < un m listed:=by
 have C:=(dm.1 hi).1;refine filter_lt (i:=i) (fun j A=> ?_) ?_ ?_ (mj.2 hm)
 · simp only [ki] at A ⊢;rw [iG,qR] at A;rw [iG];by_cases e:i=j
   · subst e; rw [if_pos rfl,if_pos C] at A; simp at A
   · rw [if_neg e] at A; exact A
 · simp [iG,hi]
 · simp [iG,C]
theorem Jg {listed:Array Bool} {i:Nat} (J:listed.size=ops.length) (h:i∈dw .any ops.toArray listed):∃ o,ops[i]? =some o∧listed[i]? =some false∧∀ e∈o.after.toList,dE .any e=true→Yl listed e.on:=by
 unfold dw at h;rw [pC] at h;obtain ⟨h1,A⟩:=h;simp only [mj,eB] at h1;simp only [a0,ki,lA] at A;have C:ops[i]? =some ops[i]:=bG _;generalize ops[i]=o at C;rw [C] at A;simp only [fu,iO] at A;have I:listed[i]? =some (listed[i]'ab):=nD _;refine ⟨o,C,?_,fun e he hb=> ?_⟩
 · have :=A.1;rw [iG,I] at this;rw [I]; simp at this; rw [this]
 · have E:=A.2;rw [Dr] at E;have :=E e<|by simpa using he
   rw [hb] at this;simp only [Bool.not_true,Bool.false_or] at this;unfold Yl;rw [iG] at this;cases hx:listed[e.on]? with
   | none=>rw [hx] at this; simp at this
   | some b=>rw [hx] at this; simp at this; rw [this]
theorem BT (s:Sq P G n ops rs F H) {listed:Array Bool} (J:listed.size=ops.length) (h:dw .any ops.toArray listed= []):∀ j,j < ops.length→Yl listed j:=by
 intro j
 induction j using Nat.strongRecOn with
 | ind j ih=>
   intro E;have C:listed[j]? =some (listed[j]'ab):=nD _;cases hb:listed[j]'ab with
   | true =>unfold Yl; rw [C,hb]
   | false =>
     exfalso;have A:ops[j]? =some ops[j]:=bG _;generalize ops[j]=o at A;have :j∈dw .any ops.toArray listed:=by
      unfold dw;rw [pC];refine ⟨by simpa using E,?_⟩;simp only [a0,ki,lA,A,fu,iO];refine ⟨by rw [iG,C,hb]; rfl,?_⟩;rw [Dr];intro e he;cases hbd:dE .any e
      · simp
      · have I:=s.GK j o A e (by simpa using he) hbd;have :=ih e.on I ab;unfold Yl at this;rw [iG,this]; simp
     rw [h] at this; cases this
variable {r0:Rn} {w0:ah} {rr:Option Nat} {Dl:List Deferred} {Q:bp→Act→ah→Prop}
theorem GI (s:Sq P G n ops rs F H) (bl:kP P (gZ ops []) rs 0 ops rs=true) (hT:(H ops.length).nx≤T) (aG:∀ r w σ,St P G T r0 (H 0) w0 r (H ops.length) w→dV r n (F ops.length) σ→Q .normal (act ⟨n,Dl,[],rr⟩ σ) w):
 ∀ (fuel:Nat) (listed:Array Bool) (lo:Nat) (fx:Tr AV) (σ:Nat→ag) (r:Rn) (w:ah),listed.size=ops.length→un ops.length listed≤fuel→nW ops (Yl listed)→mA ops rs (F 0) (Yl listed) fx→HD P G T ops rs H r0 w0 (H 0) (Yl listed) lo r w→
   (lo=0∨∃ j q,lo=j+1∧rs[j]? =some q∧q.k= .c∧Yl listed j)→dV r n fx σ→wpAnyIn (fe rr) 0 P .any ops.toArray Q fuel listed (act ⟨n,Dl,[],rr⟩ σ) w:=by
 have fin:∀ (listed:Array Bool) (lo:Nat) (fx:Tr AV) (σ:Nat→ag) (r:Rn) (w:ah),(∀ j,j < ops.length→Yl listed j)→mA ops rs (F 0) (Yl listed) fx→HD P G T ops rs H r0 w0 (H 0) (Yl listed) lo r w→dV r n fx σ→Q .normal (act ⟨n,Dl,[],rr⟩ σ) w:=by
  intro listed lo fx σ r w aS ac C M;refine aG r w σ (C.done s hT aS) fun i hi=> ?_;rw [← s.done aS ac i];exact M i hi
 intro fuel
 induction fuel with
 | zero=>
   intro listed lo fx σ r w ap a4 ax ac C aI M;have a1:(ml ops.length).filter (fun i=> !listed.getD i true)= []:=List.length_eq_zero_iff.1<|Nat.le_zero.1 a4;have hr:dw .any ops.toArray listed= []:=by
    unfold dw;rw [List.filter_eq_nil_iff] at a1 ⊢;intro a ha;have :=a1 a<|by simpa using ha
    simp only [ki,Bool.not_eq_false,a0,not_and] at this ⊢;intro h; rw [this] at h; cases h
   exact ⟨hr,fin listed lo fx σ r w (BT s ap hr) ac C M⟩
 | succ fuel ih=>
   intro listed lo fx σ r w ap a4 ax ac C aI M;refine ⟨fun hr=>fin listed lo fx σ r w (BT s ap hr) ac C M,fun i hi=> ?_⟩;obtain ⟨o,Z,aZ,bc⟩:=Jg ap hi;have bf:=(cK.1 Z).1;have ao:¬Yl listed i:=fun h=>by unfold Yl at h; rw [aZ] at h; cases h
   obtain ⟨q,J⟩:=s.get Z;have aj:=s.line i o q Z J;have ay:nW ops (fun j=>Yl listed j∨j=i):=by
    intro j au al aa e he hb;rcases al with al | rfl
    · exact .inl<|ax j au al aa e he hb
    · rw [Z] at aa; cases aa; exact .inl<|bc e he hb
   have aw:=EZ (listed:=listed) (i:=i) ab;have br:(listed.setIfInBounds i true).size=ops.length:=by simpa using ap
   have bt:un ops.length (listed.setIfInBounds i true)≤fuel:=by have :=K5 bf aZ; omega
   have aR:∀ t∈oN ops o,dd fx t=dd (F i) t:=fun t aq=>s.E4 ax Z ao ay ac aq;obtain ⟨a5,a3⟩:=JU aj.set fx;have bq:=ac.set Z J a3;have next :∀ (ar:Nat) (r':Rn) (u:ag) (w':ah),r.le r'→den r' q.v=some u→HD P G T ops rs H r0 w0 (H 0) (fun j=>Yl listed j∨j=i) ar r' w'→(ar=0∨∃ j q,ar=j+1∧rs[j]? =some q∧q.k= .c∧(Yl listed j∨j=i))→
    wpAnyIn (fe rr) 0 P .any ops.toArray Q fuel (listed.setIfInBounds i true) ((act ⟨n,Dl,[],rr⟩ σ).put o.dst u) w':=by
    intro ar r' u w' hle hu aE bg;rw [eD];refine ih _ ar a5 _ r' w' br bt ?_ ?_ ?_ ?_ (oT a3 (M.le hle) hu)
    · rw [aw]; exact ay
    · rw [aw]; exact bq
    · rw [aw]; exact aE
    · rcases bg with h | ⟨j,q,h1,I,V,ai⟩
      · exact .inl h
      · exact .inr ⟨j,q,h1,I,V,by rw [aw]; exact ai⟩
   have az:lo=0∨∃ j q,lo=j+1∧rs[j]? =some q∧q.k= .c∧(Yl listed j∨j=i):=aI.imp id fun ⟨j,q,h1,I,V,ai⟩=>⟨j,q,h1,I,V,.inl ai⟩
   have aV:=Hm (n:=n) (ops:=ops) (g:=o.guard) (fr:=F i) (fx:=fx) fun t aq=>aR t<|List.mem_append_left _ aq;have bm:=BD (G:=G) (n:=n) (l:=gh o.op) (fr:=F i) (fx:=fx) fun t aq=>aR t<|List.mem_append_right _ aq;have bn:=BA bl;have aA:=bn.2 i o q Z J;rw [cM] at aA;show wpOpIn (fe rr) 0 P ops.toArray Q i _ _ w;unfold wpOpIn;rw [lA,Z];show if _ then _ else _
   rcases aj.run with ⟨aF,bx,L⟩ | ⟨aF,aY,bv,bC⟩
   · rw [if_pos (vy (N:=⟨n,Dl,[],rr⟩) (aV.trans aF) M)];have aB:=sG (N:=⟨n,Dl,[],rr⟩) C.hr.eX M<|bm.trans bx;have bo:=aj.set;obtain ⟨d,op,ty,pos,af,g⟩:=o;simp only at aB L next aA
     cases L with
     | p E O aN=>
       have aK:∀ c,op≠.defer c:=fun c e=>by subst e; simp [mX] at O
       obtain ⟨u,h1,I⟩:=BG (N:=⟨n,Dl,[],rr⟩) (dst:=d) (ty:=ty) (pos :=pos) (af:=af) (g:=g) O aB;exact tG aK (.inl<|I w)<|next lo r u w (Rn.le_refl r) h1 (C.skip J (by rw [E]; intro h; cases h)<|by rw [E]; intro h; cases h) az
     | l E O aN=>
       have aK:∀ c,op≠.defer c:=fun c e=>by subst e; simp [iZ] at O
       have aD:=Bz<|aA.1 E;have bh:iZ P op q.xs (H lo)=some q.v:=by
        rcases dF i lo with aJ | aW
        · rcases aI with h0 | ⟨j,A,h1,I,V,ai⟩
          · omega
          · have am:=(aD j A I).1 V;rw [cM] at am;have aX:¬j < i:=ab;have bD:j≠i:=fun e=>by subst e; exact ao ai
            rcases am.2 aX with hb | hb
            · exact absurd ((pL ax hb).2 ai) ao
            · obtain ⟨au,aa⟩:=s.get' I;rw [(s.line j au A aa I).ha,← h1] at hb;exact hb
        ·
         have aO:∀ (m:Nat),lo≤m→m≤i→(∀ j A,lo≤j→j < m→rs[j]? =some A→A.k≠.c)→H m=H lo:=by
          intro m
          induction m with
          | zero=>intro h _ _; have :lo=0:=ab
                  subst this; rfl
          | succ m aM=>
            intro h1 I V;rcases dF m lo with aJ | hle
            · have :lo=m+1:=ab;subst this; rfl
            · have hm:=aM hle ab fun j A a b c=>V j A a ab c;have a2:ops[m]? =some (ops[m]'ab):=bG _;obtain ⟨ak,aL⟩:=s.get a2;have aH:=s.line m _ ak a2 aL;have bj:=V m ak hle (mr _) aL;have bi:ak.k≠.a:=fun ha=>by
               have :=(aD m ak aL).2 ha;omega
              have he:ak.ha=ak.hb:=by
               rcases aH.run with ⟨_,_,L⟩ | ⟨_,_,_,L⟩
               · cases L with
                 | p _ _ h=>exact h
                 | l _ _ h=>exact h
                 | a e l h _ _ _ _=>exact absurd h bi
                 | c h _=>exact absurd h bj
               · exact L
              rw [← aH.ha,he,aH.hb,hm]
         by_cases hex:∃ j A,lo≤j∧j < i∧rs[j]? =some A∧A.k= .c
         ·
          have first :∀ (m:Nat),lo≤m→m≤i→(∃ j A,lo≤j∧j < m∧rs[j]? =some A∧A.k= .c)→∃ j A,lo≤j∧j < i∧rs[j]? =some A∧A.k= .c∧∀ ad q',lo≤ad→ad < j→rs[ad]? =some q'→q'.k≠.c:=by
           intro m
           induction m with
           | zero=>rintro _ _ ⟨j,_,_,h,_⟩; omega
           | succ m aM=>
             intro h1 I ⟨j,A,aC,aP,ae,av⟩;by_cases hex:∃ j A,lo≤j∧j < m∧rs[j]? =some A∧A.k= .c
             · obtain ⟨ad,bB,a6,a7,a8,a9⟩:=hex;exact aM ab ab ⟨ad,bB,a6,a7,a8,a9⟩
             · refine ⟨j,A,aC,ab,ae,av,fun ad q' a b c d=>hex ⟨ad,q',a,ab,c,d⟩⟩
          obtain ⟨j,A,aC,aP,ae,av,ba⟩:=first i aW (aQ _) hex
          have am:=(aD j A ae).1 av;rw [cM] at am;rcases am.1 aP with hb | hb
          · rcases (pL ay hb).2 (.inr rfl) with h | h
            · have :=(C.lc j A ae av).1 h; omega
            · omega
          · obtain ⟨au,aa⟩:=s.get' ae;rw [(s.line j au A aa ae).hb,aO j aC ab ba] at hb;exact hb
         · have :=aO i aW (aQ _) fun j A a b c d=>hex ⟨j,A,a,b,c,d⟩;rw [← this,← aj.hb]; exact O
       obtain ⟨u,h1,I⟩:=BE (N:=⟨n,Dl,[],rr⟩) (dst:=d) (ty:=ty) (pos :=pos) (af:=af) (g:=g) C.hr bh aB;exact tG aK (.inl I)<|next lo r u w (Rn.le_refl r) h1 (C.skip J (by rw [E]; intro h; cases h)<|by rw [E]; intro h; cases h) az
     | a e l E O aN bz bA=>
       subst O;obtain ⟨h1,us,bu,bp⟩:=E6 aN;obtain ⟨hle,aE⟩:=C.early s hT J E ao bz bu h1;refine tG (fun c e=>by cases e) (.inl<|bp ⟨n,Dl,[],rr⟩ σ d ty pos af g w)<|next lo _ _ _ hle ?_ aE az
       rw [bA];simp only [den,Rn.gI,cM]
     | c E O=>
       have bb:=By<|aA.2 E;have aJ:lo≤i:=by
        rcases dF i lo with h | h
        · exact absurd ((C.lc i q J E).2 h) ao
        · exact h
       have aT:∀ j A,j < i→rs[j]? =some A→(A.k= .c∨A.k= .a)→Yl listed j:=fun j A aX al aG=>by
        have hb:=bb j A al aG ab;rw [cM] at hb;rcases (pL ay hb).2 (.inr rfl) with h | h
        · exact h
        · omega
       have aU:=C.xK s i aJ (by rw [s.len]; omega) fun j A a b c=>⟨fun L=>by have :=(C.lc j A c L).1 (aT j A b c<|.inl L); omega,fun ha=>aT j A b c<|.inr ha⟩
       have bd:=aU.Hz s hT J E;obtain ⟨bE,s1⟩:=O;rw [aj.hb,aj.ha] at s1;refine s1 _ r w ⟨n,Dl,[],rr⟩ σ d ty pos af g _ Q (aQ _) bd aB fun r' u w' hu bo=> ?_;exact next (i+1) r' u w' bo.le hu (aU.KV s J E bo)<|.inr ⟨i,q,U,J,E,.inr U⟩
   · rw [if_neg (by rw [Aw (N:=⟨n,Dl,[],rr⟩) (aV.trans aF) M]; simp)];refine ⟨fun f _=>jW _ f,next lo r undef w (Rn.le_refl r) (by rw [bv]; exact ir r) (C.skip J (by rw [aY]; intro h; cases h)<|by rw [aY]; intro h; cases h) az⟩
theorem GG {X:Xt} {ih:Tk→Rs} (ac:Good P G ih) (ad:iq P G X) (aa:gq P) (ae:∀ f args h v h',ih (.cl f args h)= .rv v h'→∃ fn c,P.funcs[f]? =some fn∧fn.body=some c) (hm:P.follows .mixedOrders=true):yD P G X ih:=by
 intro rd n id ops fr D h;show match rW P G X ih n ops fr D h with
  | .cd e Z E h'=>dx P G rd n (fun rr Q a w=>(DM id ⟨ops⟩ true).wpIn (fe rr) 0 P Q a w) fr D h e Z E h'
  | .no=>True
  | _=>False
 have ah:rW P G X ih n ops fr D h=cond (n6 ops (gZ ops []) 0 ops) (match kS P G X ih n ops (gZ ops []) 0 none ops fr h with
  | some (rs,fr,h)=>cond (kP P (gZ ops []) rs 0 ops rs) (.cd .bw fr D h) .no
  | none=> .no) .no:=rfl
 rw [ah];cases hc1:n6 ops (gZ ops []) 0 ops
 · exact trivial
 · rw [cond_true];cases hrec:kS P G X ih n ops (gZ ops []) 0 none ops fr h with
   | none=>exact trivial
   | some x=>
     obtain ⟨rs,ap,aq⟩:=x;simp only;cases hok:kP P (gZ ops []) rs 0 ops rs
     · exact trivial
     · rw [cond_true];obtain ⟨F,H,I,J,L,M,O,V⟩:=BU ac ad aa ae hrec;have s:Sq P G n ops rs F H:=⟨O,V,fun i j am ao hi A ar=>by
        have :=(uI hc1 i am hi).2 j ao A ab;rwa [cM] at this,fun i o al=>by
        have :=zR (uI hc1 i o al).1;rwa [cM] at this⟩
       subst I; subst J; subst L; subst M;refine ⟨s.mono (fK _) (aQ _),fun T r w σ Dl rr Q hT hr ai ag au ak=> ?_⟩;refine wpIn_region_any hm ?_;have C:∀ j,¬Yl (Array.replicate ops.length false) j:=fun j A=>by
        unfold Yl at A;rw [Array.getElem?_replicate] at A;split at A <;> cases A
       refine GI s hok hT (r0:=r) (w0:=w.drew) (fun r' w' σ' st aj=>ak r' w' σ' Dl st.drew aj<|mG st.le ag) _ _ 0 (F 0) σ r w.drew (by simp) ?_ (fun j o A=>absurd A<|C j) (fun t=> .inr ⟨fun j o A=>absurd A (C j),U⟩) (HD.start s hr.drew C) (.inl U) ai;unfold un;exact cS (List.length_filter_le _ _)<|by simp
end
end Go.Hb
namespace Go.Hb
section
variable {P:au} {G:Nat} {X:Xt} {w:ah}
theorem L4 {f:Nat} (E:∀ v w,(callFunc f #[v]).run P w= .ok (.value v) w) {xs:List AV} {h h':Hp} {v:AV} (he:xV xs h=some (v,h')):h.nx≤h'.nx∧∀ (T:Nat) (r:Rn) (w:ah) (us:List ag),h'.nx≤T→HR P G r T h w→aI r xs=some us→
 ∃ r' u w',den r' v=some u∧(callFunc f us.toArray).run P w= .ok (.value u) w'∧St P G T r h w r' h' w':=by
 unfold xV at he;split at he
 · cases he;refine ⟨aQ _,fun T r w us hT hr C=> ?_⟩;obtain ⟨u,I,rfl,h1,A⟩:=dQ C;obtain rfl :=jV A;exact ⟨r,u,w,h1,E u w,St.refl hr⟩
 · cases he
theorem AF {c:Nat} (C:c < 256):∀ (l:List UInt8) (i:Nat),qf c l i=if l.idxOf (eR c) < l.length then kp (i+l.idxOf (eR c)) else -1
 | [],i=>by simp [qf]
 | b::l,i=>by
   have E:(eR c).toNat=c:=by simp; omega
   simp only [qf,List.idxOf_cons];cases hb:aN b.toNat c
   · have I:(b==eR c)=false :=by
      cases A:(b==eR c)
      · rfl
      · have :=eq_of_beq A;subst this;rw [E] at hb; simp at hb
     rw [I];simp only [cond_false,dP,AF C l (i+1)];by_cases h1:l.idxOf (eR c) < l.length
     · rw [if_pos h1,if_pos ab];congr 1; omega
     · rw [if_neg h1,if_neg ab]
   · have :=bO hb;have A:(b==eR c)=true :=by
      rw [← this]; simp
     rw [A];simp
theorem L5 {f:Nat} (O:∀ l c w,(callFunc f #[str l,.int .u8 (EL c)]).run P w= .ok (.value<|.int .i64<|kH c l) w) {xs:List AV} {h h':Hp} {v:AV} (he:xW xs h=some (v,h')):h.nx≤h'.nx∧∀ (T:Nat) (r:Rn) (w:ah) (us:List ag),h'.nx≤T→HR P G r T h w→aI r xs=some us→
 ∃ r' u w',den r' v=some u∧(callFunc f us.toArray).run P w= .ok (.value u) w'∧St P G T r h w r' h' w':=by
 unfold xW at he;split at he
 · rename_i l c;replace he:=aY he; obtain ⟨A,he⟩:=he;have A:=cB.1 A;split at he
   · rename_i aa hm;cases he;refine ⟨aQ _,fun T r w us hT hr M=> ?_⟩;obtain ⟨u,V,rfl,h1,E⟩:=dQ M;obtain ⟨U,Z,rfl,I,J⟩:=dQ E;obtain rfl :=jV J;obtain rfl :=gH h1;obtain rfl :=cP I;have L:(eR c).toNat=c:=by simp; omega
     have C:=O l (eR c) w;rw [L] at C;refine ⟨r,_,w,?_,C,St.refl hr⟩;rw [AF A l 0] at hm;simp only [cM] at hm;have :kH (eR c) l=if l.idxOf (eR c) < l.length then kp (l.idxOf<|eR c) else -1:=rfl
     rw [← this] at hm;rw [fB] at hm;cases hm;simp only [den]
   · cases he
 · cases he
def x2 (a b:Nat):Xt:=fun f=>cond (aN f a) (some xV)<|cond (aN f b) (some xW) none
theorem L3 {a b:Nat} (h1:∀ v w,(callFunc a #[v]).run P w= .ok (.value v) w) (C:∀ l c w,(callFunc b #[str l,.int .u8 (EL c)]).run P w= .ok (.value<|.int .i64<|kH c l) w):iq P G (x2 a b):=by
 intro f e he xs h v h' A;unfold x2 at he;cases ha:aN f a
 · rw [ha] at he;simp only [cond_false] at he;cases hb:aN f b
   · rw [hb] at he; cases he
   · rw [hb] at he;cases he;have :=bO hb;subst this;exact L5 C A
 · rw [ha] at he;cases he;have :=bO ha;subst this;exact L4 h1 A
theorem F3 (h:P.funcs.toList.all (fun fn=> !(fn.name== "runtime.NumGoroutine") || fn.body.isNone)=true):gq P:=by
 intro f fn c A hb;have hm:fn∈P.funcs.toList:=by
  rw [dm] at A;obtain ⟨C,rfl⟩:=A;simp
 have :=List.all_eq_true.1 h fn hm;rw [hb] at this;simp only [Option.isNone_some,Bool.or_false,ki] at this;exact uG A this<|by rw [hb]; rfl
def sH (G T:Nat) (E:Nat→Nat):List Nat→Tr AO
 | []=> .nil
 | g::l=>(sH G T E l).set g<|.cells [.fk T (.ptr (G+g) 0)] (E g) 0 .x
theorem qC {T:Nat} {E:Nat→Nat} :∀ {l:List Nat},(∀ g∈l,aD g cm=true)→∀ {i:Nat} {o:AO},(sH G T E l).get i=some o→i∈l∧o= .cells [.fk T (.ptr (G+i) 0)] (E i) 0 .x
 | [],_,i,o,h=>by simp only [sH] at h; cases h
 | g::l,hl,i,o,h=>by
   simp only [sH] at h;rw [Tr.kE _ _ _ _ (hl g<|gS)] at h;split at h
   · rename_i e; subst e; cases h; exact ⟨gS,rfl⟩
   · obtain ⟨h1,A⟩:=qC (fun g C=>hl g<|gR _ C) h;exact ⟨gR _ h1,A⟩
def cO (T:Nat) (l:List Nat) (w:ah):Prop := ∀ g,g∈l→∃ (a:Addr) (e:Nat),a.spot=none∧w.heap[g]? =some (.cells #[.iface T (.pointer<|some a)] e (0,0))
theorem cO.mono {T:Nat} {l:List Nat} {w w':ah} {F:Nat→Prop} (h:cO T l w) (hm:Md F w w') (E:∀ g∈l,¬F g):cO T l w':=fun g A=>by
 obtain ⟨a,e,h1,C⟩:=h g A;exact ⟨a,e,h1,hm.ak C<|E g A⟩
theorem HR.xf {T:Nat} {l:List Nat} (I:∀ g∈l,g < G) (ag:G≤1000) (h:cO T l w):∃ (E:Nat→Nat) (r:Rn),∀ O,HR P G r O ⟨sH G T E l,G+G⟩ w:=by
 classical
 let A:Nat→Addr:=fun g=>if C:g∈l then (h g C).choose else ⟨0,0,none⟩
 let E:Nat→Nat:=fun g=>if C:g∈l then (h g C).choose_spec.choose else 0
 have aa:∀ g,g∈l→(A g).spot=none∧w.heap[g]? =some (.cells #[.iface T (.pointer<|some<|A g)] (E g) (0,0)):=fun g C=>by
  have :=(h g C).choose_spec.choose_spec;simp only [A,E,dif_pos C];exact this
 let r:Rn:=fun i=>if i < G then some ⟨i,0,0⟩ else if i < G+G then some ⟨(A<|i - G).block,(A<|i - G).off,0⟩ else none
 have J:∀ i,i < G→r i=some ⟨i,0,0⟩:=fun i hi=>if_pos hi;have ae:∀ g,g < G→r (G+g)=some ⟨(A g).block,(A g).off,0⟩:=fun g C=>by
  show (if G+g < G then _ else _)=_;rw [if_neg ab,if_pos ab,show G+g - G=g from by omega]
 have M:∀ g∈l,aD g cm=true :=fun g C=>cB.2 (by have :=I g C; have :cm=1048574:=rfl; omega);refine ⟨E,r,fun O=>⟨fun i o hi=> ?_,fun i j o ah q q' hi ac h1 L he=> ?_,fun i h1 L=> ?_,fun g C=>⟨0,J g C⟩,Nat.le_add_right _ _⟩⟩
 · obtain ⟨hm,rfl⟩:=qC M hi;have U:=I i hm;obtain ⟨V,Z⟩:=aa i hm;refine ⟨⟨i,0,0⟩,J i U,?_⟩;rw [Z];refine wz (us:= [.iface T (.pointer<|some<|A i)]) ?_ rfl;have e:(⟨(A i).block,(A i).off,none⟩:Addr)=A i:=by
    have :A i=⟨(A i).block,(A i).off,(A i).spot⟩:=rfl;rw [this,V]
   simp only [aI,den,ae i U,lC,e]
 · obtain ⟨hm,rfl⟩:=qC M hi;obtain ⟨ad,rfl⟩:=qC M ac;rw [J i (I i hm)] at h1;rw [J j (I j ad)] at L;cases h1; cases L;exact he
 · show (if i < G then _ else _)=_;simp only at h1;rw [if_neg ab,if_neg ab]
theorem St.wk {T C:Nat} {E:Nat→Nat} {l:List Nat} {r r':Rn} {h':Hp} {w':ah} (A:∀ g∈l,g < G) (M:G≤1000) (st:St P G C r ⟨sH G T E l,G+G⟩ w r' h' w'):Wk w w':=by
 refine ⟨st.md.os,st.md.output,st.md.size,fun k L _=>st.md.dH k L fun ⟨i,o,q,h1,I,_⟩=> ?_⟩;obtain ⟨hm,_⟩:=qC (fun g J=>cB.2 (by have :=A g J; have :cm=1048574:=rfl; omega)) I;have :=A i hm;omega
end
end Go.Hb
end
