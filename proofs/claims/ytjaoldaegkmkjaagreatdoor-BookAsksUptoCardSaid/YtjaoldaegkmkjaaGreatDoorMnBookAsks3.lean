/-
  Walks and plain laws that the law rests on, laid together. No conditions but those that each theorem names.
-/
import Derived.Test.YtjaoldaegkmkjaaGreatDoorMnBookAsks2
set_option linter.unusedVariables false
open Array renaming all_eq_true_iff_forall_mem→CV,foldl_toList→CX,getD_eq_getD_getElem?→ij,getElem?_eq_getElem→mU,getElem?_eq_some_iff→eM,getElem?_modify→C0,getElem?_push→tc,getElem?_setIfInBounds→qD,getElem?_setIfInBounds_ne→xK,getElem?_setIfInBounds_self_of_lt→xL,getElem?_toList→oM,length_toList→kC,range→oN,toList_inj→qE,toList_map→iO,toList_modify→C4,toList_push→C5
open BitVec renaming ofInt→gH
open Bool renaming and_eq_true→bg,false_eq_true→qF,noConfusion→cQ,not_eq_true'→jU,or_eq_true→mV,or_eq_true_iff→C9
open Go.Builtin renaming append_→jv,clear_→th,delete_→xN,firstCells→tj,zeroCells→Db
open Go.Calls renaming mono→jV
open Go renaming Code→bJ,Edge→cH,Exit→bt,IntKind→bC,Oper→aE,Operand→aY,Program→av,TypeId→au,Value→ag,World→ai
open Go.Code renaming region→De
open Go.Deferred renaming ofValue→lL
open Go.Exit renaming inBlock→Dj
open Go.Fence renaming wide→iP
open Go.FrameMode renaming noConfusion→Dk
open Go.Instr renaming alloc→tk,buildSlice→tl,fill→jX,keyThatStays→qH,mapUpdate→xR
open Go.Lib renaming run_unsafeString_none→Du
open Go.Op renaming equal→lM,equalIn→gI
open Go.Oper renaming semAt_eq→xW,uponIn→tt
open Go.Region renaming binds→dw,ready→dM,wanted→jw
open Go.Result renaming andThen_ok→gJ
open Go.Sem renaming run→kD,run_bind→ik,run_pure→kE
open Go.World renaming freeze→kF,putObj→DC,putObj_heap_other→DD,putObj_heap_same→DE
open Int renaming natCast_nonneg→fc,natCast_pos→DG,ofNat→jZ,toNat_natCast→j0
open List.Sublist renaming map→Lo
open List renaming append_assoc→gk,eq_nil_of_length_eq_zero→kH,ext_getElem?→tz,filter_cons→DO,flatten_cons→oV,getD_eq_getElem?_getD→b9,getElem?_append_left→ey,getElem?_append_right→ez,getElem?_cons_succ→gK,getElem?_cons_zero→gL,getElem?_drop→iS,getElem?_eq_getElem→bK,getElem?_eq_none→iT,getElem?_eq_some_iff→cI,getElem?_map→fG,getElem?_take→il,getElem?_toArray→kJ,length→oZ,length_append→bL,length_cons→dx,length_drop→gM,length_eq_one_iff→qM,length_nil→iU,length_take→cN,mapM_cons→DT,map_append→lN,map_cons→eA,map_map→DU,mem_append→ff,mem_cons→fQ,mem_cons_of_mem→kK,mem_cons_self→kL,mem_filter→DW,mem_map→o7,mem_of_getElem?→gn,mem_of_mem_drop→tH,mem_of_mem_take→tI,mem_range→qO,nodup_cons→DX,range→ir,range'→lO,replicate→cJ,replicate_succ→D3,size_toArray→eh
open List.cons renaming injEq→kG
open Nat renaming add_assoc→iu,add_comm→tK,add_mul→lP,add_zero→jy,beq→aM,ble→bj,ble_eq→qQ,ble_eq_true_of_le→ye,blt→aF,eq_of_beq_eq_true→bO,le_of_ble_eq_true→bQ,le_refl→aV,le_succ→kM,le_trans→cX,lt_of_lt_of_le→lQ,lt_or_ge→dk,lt_succ_iff_lt_or_eq→Eb,lt_succ_self→lR,lt_trichotomy→qR,mul_le_mul_right→kN,not_lt_zero→tL,pos_of_ne_zero→Ed,pow_succ→tM,succ_le_iff→qU,succ_pos→Ef,testBit→qV,zero_add→cK,zero_le→j2,zero_mul→pb
open Option renaming getD_none→ph,getD_some→iw,map_eq_some_iff→fg,map_some→eV
open Option.some renaming inj→gN,injEq→bH
open Prod renaming fst→gp,snd→tO
open Prod.mk renaming injEq→gq
open UInt8 renaming lt_iff_toNat_lt→Eh,ofNat→eB,toNat→Ei,toNat_inj→jz
open Go.Proofs.Tryz
open Go.RowKit

section
namespace Go.Hb
inductive Tr (α:Type) | nil | nd (l:Tr α) (v:Option α) (r:Tr α)
def Tr.get {α:Type} :Tr α→Nat→Option α
 | .nil,_=>none
 | .nd _ v _,0=>v
 | .nd l _ r,n+1=>cond (aM (n % 2) 0) (l.get<|n / 2)<|r.get<|n / 2
def Tr.put {α:Type} (v:Option α):Nat→Tr α→Nat→Tr α
 | 0,t,_=>t
 | _+1,.nil,0=> .nd .nil v .nil
 | _+1,.nd l _ r,0=> .nd l v r
 | k+1,.nil,n+1=>cond (aM (n % 2) 0) (.nd (Tr.put v k .nil<|n / 2) none .nil)<|.nd .nil none<|Tr.put v k .nil<|n / 2
 | k+1,.nd l u r,n+1=>cond (aM (n % 2) 0) (.nd (Tr.put v k l<|n / 2) u r)<|.nd l u<|Tr.put v k r<|n / 2
theorem Tr.get_nil {α:Type} (n:Nat):(Tr.nil:Tr α).get n=none:=by unfold Tr.get; rfl
theorem Co {n:Nat} {b:Bool} (h:aM (n % 2) 0=b):n % 2=cond b 0 1:=by
 cases b
 · have :n % 2≠0:=fun e=>by rw [e] at h; cases h
   simp only [cond_false]; omega
 · exact bO h
theorem sQ {n m:Nat} {b:Bool} (hn:aM (n % 2) 0=b) (hm:aM (m % 2) 0=b) (e:m / 2=n / 2):m+1=n+1:=by
 have :=Co hn;have :=Co hm;omega
theorem Tr.n8 {α:Type} (v:Option α):∀ (k:Nat) (t:Tr α) (n m:Nat),m≠n→(Tr.put v k t n).get m=t.get m
 | 0,t,n,m,_=>by simp [Tr.put]
 | k+1,.nil,0,m,h=>by
   obtain ⟨m,rfl⟩:∃ j,m=j+1:=⟨m - 1,U⟩
   simp [Tr.put,Tr.get]
 | k+1,.nd l u r,0,m,h=>by
   obtain ⟨m,rfl⟩:∃ j,m=j+1:=⟨m - 1,U⟩
   simp [Tr.put,Tr.get]
 | k+1,.nil,n+1,0,h=>by
   simp only [Tr.put];cases aM (n % 2) 0 <;> rfl
 | k+1,.nd l u r,n+1,0,h=>by
   simp only [Tr.put];cases aM (n % 2) 0 <;> rfl
 | k+1,.nil,n+1,m+1,h=>by
   simp only [Tr.put];cases hn:aM (n % 2) 0 <;> cases hm:aM (m % 2) 0 <;> simp only [cond_true,cond_false,Tr.get,hm]
   · rw [Tr.n8 v k .nil _ _ (fun e=>h<|sQ hn hm e)]; rfl
   · rw [Tr.n8 v k .nil _ _ (fun e=>h<|sQ hn hm e)]; rfl
 | k+1,.nd l u r,n+1,m+1,h=>by
   simp only [Tr.put];cases hn:aM (n % 2) 0 <;> cases hm:aM (m % 2) 0 <;> simp only [cond_true,cond_false,Tr.get,hm]
   · rw [Tr.n8 v k r _ _ (fun e=>h<|sQ hn hm e)]
   · rw [Tr.n8 v k l _ _ (fun e=>h<|sQ hn hm e)]
theorem Tr.put_eq {α:Type} (v:Option α):∀ (k:Nat) (t:Tr α) (n:Nat),n+1 < 2 ^ k→(Tr.put v k t n).get n=v
 | 0,t,n,h=>U
 | k+1,.nil,0,_=>by simp [Tr.put,Tr.get]
 | k+1,.nd l u r,0,_=>by simp [Tr.put,Tr.get]
 | k+1,.nil,n+1,h=>by
   have A:n / 2 +1 < 2 ^ k:=by rw [tM] at h; omega
   simp only [Tr.put];cases hn:aM (n % 2) 0 <;> simp only [cond_true,cond_false,Tr.get,hn] <;> exact Tr.put_eq v k _ _ A
 | k+1,.nd l u r,n+1,h=>by
   have A:n / 2 +1 < 2 ^ k:=by rw [tM] at h; omega
   simp only [Tr.put];cases hn:aM (n % 2) 0 <;> simp only [cond_true,cond_false,Tr.get,hn] <;> exact Tr.put_eq v k _ _ A
def bX:Nat:=1048574
def Tr.set {α:Type} (t:Tr α) (n:Nat) (v:α):Tr α:=Tr.put (some v) 20 t n
def Tr.del {α:Type} (t:Tr α) (n:Nat):Tr α:=Tr.put none 20 t n
theorem Tr.kg {α:Type} (t:Tr α) (n m:Nat) (v:α) (h:aF n bX=true):(t.set n v).get m=if m=n then some v else t.get m:=by
 have h':n < 1048574:=by simpa [bX,aF,qQ,qU] using h
 unfold Tr.set;split
 · rename_i e; subst e; exact Tr.put_eq _ _ _ _ U
 · rename_i e; exact Tr.n8 _ _ _ _ _ e
theorem Tr.nJ {α:Type} (t:Tr α) (n m:Nat) (h:aF n bX=true):(t.del n).get m=if m=n then none else t.get m:=by
 have h':n < 1048574:=by simpa [bX,aF,qQ,qU] using h
 unfold Tr.del;split
 · rename_i e; subst e; exact Tr.put_eq _ _ _ _ U
 · rename_i e; exact Tr.n8 _ _ _ _ _ e
inductive AV
 | bool (b:Bool) | int (k:bC) (n:Int) | str (l:List UInt8)
 | ptr (b o:Nat) | fY
 | sl (b o n c:Nat) (x:Bool)
 | aC
 | map (b:Nat) | jK
 | fn (f:Nat) (a c:List AV) | fO (l:Nat) | gZ
 | eR (t:Nat) (v:AV) | db
 | agg (l:List AV) | bU (l:List AV)
structure Loc where
 ax:Nat
 sh:Nat
 room:Nat
abbrev Rn:=Nat→Option Loc
def Rn.le (r s:Rn):Prop := ∀ i x,r i=some x→s i=some x
theorem Rn.le_refl (r:Rn):r.le r:=fun _ _ h=>h
theorem Rn.le_trans {r s t:Rn} (h:r.le s) (h':s.le t):r.le t:=fun i x A=>h' i x<|h i x A
mutual
def den (r:Rn):AV→Option ag
 | .bool b=>some<|.bool b
 | .int k n=>some<|.int k n
 | .str l=>some<|Hb.str l
 | .ptr b o=>match r b with
   | some q=>some<|.pointer<|some ⟨q.ax,q.sh+o,none⟩
   | none=>none
 | .fY=>some<|.pointer none
 | .sl b o n c x=>match r b with
   | some q=>cond x (cond (bj n c) (some<|.slice (some ⟨q.ax,q.sh+o,none⟩) n c) none)<|cond (bj (c+n) q.room) (some<|.slice (some ⟨q.ax,q.sh+o,none⟩) n<|q.room - c) none
   | none=>none
 | .aC=>some<|.slice none 0 0
 | .map b=>match r b with
   | some q=>some<|.map<|some q.ax
   | none=>none
 | .jK=>some<|.map none
 | .fn f a c=>match aK r a,aK r c with
   | some a,some c=>some<|.func (.func f) a.toArray c.toArray
   | _,_=>none
 | .fO l=>match r l with
   | some q=>some<|.func (.yield q.ax) #[] #[]
   | none=>none
 | .gZ=>some .nilFunc
 | .eR t v=>match den r v with
   | some v=>some<|.iface t v
   | none=>none
 | .db=>some .nilIface
 | .agg l=>match aK r l with
   | some l=>some<|.agg l.toArray
   | none=>none
 | .bU l=>match aK r l with
   | some l=>some<|.tuple l.toArray
   | none=>none
def aK (r:Rn):List AV→Option (List ag)
 | []=>some []
 | v::l=>match den r v,aK r l with
   | some v,some l=>some (v::l)
   | _,_=>none
end
mutual
theorem ka {r s:Rn} (h:r.le s):∀ {v:AV} {u:ag},den r v=some u→den s v=some u
 | .bool _,_,hu | .int _ _,_,hu | .str _,_,hu | .fY,_,hu | .aC,_,hu | .jK,_,hu | .gZ,_,hu | .db,_,hu=>by
   simp only [den] at hu ⊢; exact hu
 | .ptr b o,u,hu | .sl b o n c x,u,hu | .map b,u,hu | .fO b,u,hu=>by
   simp only [den] at hu ⊢;cases hb:r b with
   | none=>rw [hb] at hu; cases hu
   | some q=>rw [hb] at hu; rw [h b q hb]; exact hu
 | .fn f a c,u,hu=>by
   simp only [den] at hu ⊢;cases ha:aK r a with
   | none=>rw [ha] at hu; cases hu
   | some A=>
     cases hc:aK r c with
     | none=>rw [ha,hc] at hu; cases hu
     | some c'=>rw [ha,hc] at hu; rw [gw h ha,gw h hc]; exact hu
 | .eR t v,u,hu=>by
   simp only [den] at hu ⊢;cases hv:den r v with
   | none=>rw [hv] at hu; cases hu
   | some E=>rw [hv] at hu; rw [ka h hv]; exact hu
 | .agg l,u,hu | .bU l,u,hu=>by
   simp only [den] at hu ⊢;cases hl:aK r l with
   | none=>rw [hl] at hu; cases hu
   | some C=>rw [hl] at hu; rw [gw h hl]; exact hu
theorem gw {r s:Rn} (h:r.le s):∀ {v:List AV} {u:List ag},aK r v=some u→aK s v=some u
 | [],_,hu=>by simp only [aK] at hu ⊢; exact hu
 | v::l,u,hu=>by
   simp only [aK] at hu ⊢;cases hv:den r v with
   | none=>rw [hv] at hu; cases hu
   | some C=>
     cases hl:aK r l with
     | none=>rw [hv,hl] at hu; cases hu
     | some A=>rw [hv,hl] at hu; rw [ka h hv,gw h hl]; exact hu
end
theorem dE {r:Rn} {v:AV} {l:List AV} {us:List ag} (h:aK r (v::l)=some us):∃ u A,us=u::A∧den r v=some u∧aK r l=some A:=by
 simp only [aK] at h;split at h
 · rename_i u A h1 C; exact ⟨u,A,(gN h).symm,h1,C⟩
 · cases h
theorem jD {r:Rn} {us:List ag} (h:aK r []=some us):us= []:=by simpa [aK] using h.symm
theorem dB {r:Rn} {v:AV} {l:List AV} {u:ag} {us:List ag} (h1:den r v=some u) (A:aK r l=some us):aK r (v::l)=some (u::us):=by simp only [aK,h1,A]
theorem c7 {r:Rn} :∀ {l:List AV} {us:List ag},aK r l=some us→us.length=l.length
 | [],_,h=>by rw [jD h]; rfl
 | v::l,us,h=>by obtain ⟨u,C,rfl,_,A⟩:=dE h; simp [c7 A]
theorem nu {r:Rn} :∀ {l:List AV} {us:List ag} {i:Nat} {v:AV},aK r l=some us→l[i]? =some v→∃ u,us[i]? =some u∧den r v=some u
 | [],_,i,v,h,hv=>by simp at hv
 | a::l,us,0,v,h,hv=>by
   obtain ⟨u,J,rfl,h1,_⟩:=dE h;simp only [gL,bH] at hv;subst hv; exact ⟨u,rfl,h1⟩
 | a::l,us,i+1,v,h,hv=>by
   obtain ⟨u,J,rfl,_,A⟩:=dE h;simp only [gK] at hv;obtain ⟨I,C,E⟩:=nu A hv;exact ⟨I,by simpa using C,E⟩
theorem eO {r:Rn} :∀ {l m:List AV} {us vs:List ag},aK r l=some us→aK r m=some vs→aK r (l++m)=some (us++vs)
 | [],m,us,vs,h,h'=>by rw [jD h]; exact h'
 | a::l,m,us,vs,h,h'=>by
   obtain ⟨u,C,rfl,h1,A⟩:=dE h;exact dB h1<|eO A h'
theorem iz {r:Rn} :∀ {l:List AV} {us:List ag} (n:Nat),aK r l=some us→aK r (l.take n)=some (us.take n)
 | _,_,0,_=>by simp [aK]
 | [],us,n+1,h=>by rw [jD h]; simp [aK]
 | a::l,us,n+1,h=>by
   obtain ⟨u,C,rfl,h1,A⟩:=dE h;exact dB h1<|iz n A
theorem jc {r:Rn} :∀ {l:List AV} {us:List ag} (n:Nat),aK r l=some us→aK r (l.drop n)=some (us.drop n)
 | _,_,0,h=>h
 | [],us,n+1,h=>by rw [jD h]; simp [aK]
 | a::l,us,n+1,h=>by
   obtain ⟨u,C,rfl,h1,A⟩:=dE h;exact jc n A
inductive Ck | a | z | x
inductive AO
 | cells (l:List AV) (e:Nat) (fz:Nat) (ex:Ck)
 | map (l:List (AV×AV))
 | loop (st:LoopState) (pe:Option bJ) (n:Nat) (fr:Tr AV) (ps:List Nat) (aQ body:bJ) (D:Nat)
 | kd (b:Bool)
 | xh (l:List UInt8) (p:Nat)
structure Hp where
 t:Tr AO
 nx:Nat
def c8 (fr:Tr AV) (i:Nat):AV:=match fr.get i with
 | some v=>v
 | none=> .bU []
def dN (r:Rn) (n:Nat) (fr:Tr AV) (s:Nat→ag):Prop := ∀ i,i < n→den r (c8 fr i)=some (s i)
def fw (r:Rn):List (AV×AV)→List MapEntry→Prop
 | [],[]=>True
 | p::l,m::es=>den r p.1=some m.key∧den r p.2=some m.val∧fw r l es
 | _,_=>False
def OR (P:av) (r:Rn) (q:Loc):AO→Option Obj→Prop
 | .cells l e fz ex,o=> ∃ c fr us,o=some (.cells c e fr)∧aK r l=some us∧q.sh+l.length≤c.size∧(∀ j u,us[j]? =some u→c[q.sh+j]? =some u)∧fr.2≤q.sh+fz∧
  (∀ u∈us,u.oneCell'=true)∧((ex= .x→q.sh=0∧c.size=l.length∧fr=(0,fz))∧(ex≠.a→q.sh=0))∧∀ s,cr P e=some s→q.sh+q.room*s≤c.size
 | .map l,o=> ∃ es c,o=some (.map es c)∧fw r l es.toList∧(es.toList.map fun e=>e.key).Nodup
 | .loop st E n fr ps aQ body D,o=> ∃ fn A C,o=some (.loop {state:=st,pending:=E,fn:=fn,tmps:=A,params:=ps.toArray,assign:=aQ,body:=body,defers:=C})∧(∃ x,r D=some x∧x.ax=C)∧A.size=n∧∀ i,i < n→den r (c8 fr i)=A[i]?
 | .kd b,o=>o=some (.deferred<|cond b (some []) none)
 | .xh l p,o=>o=some (.stringIter ⟨⟨l⟩⟩ p)
end Go.Hb
namespace Go.Hb
def jL (f:ag→Option AV):List ag→Option (List AV)
 | []=>some []
 | v::l=>match f v with
   | some a=>match jL f l with
     | some b=>some (a::b)
     | none=>none
   | none=>none
def iE:Nat→ag→Option AV
 | 0,_=>none
 | d+1,v=>match v with
   | .bool b=>some<|.bool b
   | .int k n=>some<|.int k n
   | .string ⟨⟨l⟩⟩=>some<|.str l
   | .pointer none=>some .fY
   | .slice none 0 0=>some .aC
   | .map none=>some .jK
   | .nilFunc=>some .gZ
   | .nilIface=>some .db
   | .agg ⟨l⟩=>match jL (iE d) l with
     | some l=>some<|.agg l
     | none=>none
   | .tuple ⟨l⟩=>match jL (iE d) l with
     | some l=>some<|.bU l
     | none=>none
   | _=>none
theorem nV {f:ag→Option AV} {r:Rn} (A:∀ v a,f v=some a→den r a=some v):∀ {l:List ag} {m:List AV},jL f l=some m→aK r m=some l
 | [],m,h=>by simp only [jL,bH] at h; subst h; simp [aK]
 | v::l,m,h=>by
   simp only [jL] at h;split at h
   · rename_i a ha;split at h
     · rename_i b hb;cases h;exact dB (A v a ha)<|nV A hb
     · cases h
   · cases h
theorem lA {r:Rn} :∀ (d:Nat) {v:ag} {a:AV},iE d v=some a→den r a=some v
 | 0,v,a,h=>by simp [iE] at h
 | d+1,v,a,h=>by
   simp only [iE] at h;split at h <;> first
    | (cases h; simp [den,str]; done)
    | (split at h
       · rename_i C A;cases h;simp only [den,nV (fun v a=>lA d) A]
       · cases h)
    | cases h
def jM (G n:Nat) (fr:Tr AV):aY→Option AV
 | .tmp t=>cond (aF t n) (some<|c8 fr t) none
 | .const v=>iE 4 v
 | .func f=>some<|.fn f [] []
 | .global g=>cond (aF g G) (some<|.ptr g 0) none
def jN (G n:Nat) (fr:Tr AV):List aY→Option (List AV)
 | []=>some []
 | x::l=>match jM G n fr x with
   | some a=>match jN G n fr l with
     | some b=>some (a::b)
     | none=>none
   | none=>none
def nh (G:Nat) (r:Rn):Prop := ∀ g,g < G→∃ m,r g=some ⟨g,0,m⟩
section
variable {G:Nat} {fr:Tr AV} {r:Rn} {N:Fm} {σ:Nat→ag}
theorem p7 (C:nh G r) (A:dN r N.n fr σ) {x:aY} {a:AV} (h:jM G N.n fr x=some a):den r a=some (ev N σ x):=by
 cases x with
 | tmp t=>
   simp only [jM] at h;cases hb:aF t N.n
   · rw [hb] at h; cases h
   · rw [hb] at h;simp only [cond_true,bH] at h;subst h;simp only [ev,hb,cond_true];exact A t<|by simpa [aF,qQ,qU] using hb
 | const v=>exact lA 4 h
 | func f=>simp only [jM,bH] at h; subst h; simp [den,aK,ev]
 | global g=>
   simp only [jM] at h;cases hb:aF g G
   · rw [hb] at h; cases h
   · rw [hb] at h;simp only [cond_true,bH] at h;subst h;obtain ⟨m,hm⟩:=C g<|by simpa [aF,qQ,qU] using hb
     simp only [den,hm,ev,jy]
theorem sd (C:nh G r) (A:dN r N.n fr σ):∀ {l:List aY} {m:List AV},jN G N.n fr l=some m→aK r m=some (l.map<|ev N σ)
 | [],m,h=>by simp only [jN,bH] at h; subst h; simp [aK]
 | x::l,m,h=>by
   simp only [jN] at h;split at h
   · rename_i a ha;split at h
     · rename_i b hb;cases h;exact dB (p7 C A ha)<|sd C A hb
     · cases h
   · cases h
end
def fy:Op→List aY
 | .move x | .assign x | .box _ x | .load _ x | .nilCheck x | .unOp _ _ x | .convert _ _ x | .makeInterface _ x | .fieldAddr _ x _ | .field _ x _ | .range _ x | .next x _ | .typeAssert x _ _ _ | .extract x _=> [x]
 | .pick c a b=> [c,a,b]
 | .build _ ⟨ps⟩=>ps.map (·.2)
 | .buildSlice _ _ ⟨ps⟩=>ps.map (·.2)
 | .store _ a v | .binOp _ _ a v _ | .makeSlice _ a v | .indexAddr _ a v | .index _ a v | .lookup _ a v _=> [a,v]
 | .makeFunc _ ⟨a⟩ ⟨c⟩=>a++c
 | .slice _ x l h m=>x::(l.toList++(h.toList++m.toList))
 | .mapUpdate _ m k v | .insert _ m k v=> [m,k,v]
 | .call ⟨.value f,⟨l⟩,_⟩ | .defer ⟨.value f,⟨l⟩,_⟩=>f::l
 | .call ⟨.builtin _,⟨l⟩,_⟩=>l
 | _=> []
theorem et {r:Rn} {a:AV} {u:ag} (h:aK r [a]=some [u]):den r a=some u:=by
 obtain ⟨A,us,he,h1,_⟩:=dE h;cases he; exact h1
theorem gv {r:Rn} {a b:AV} {u v:ag} (h:aK r [a,b]=some [u,v]):den r a=some u∧den r b=some v:=by
 obtain ⟨C,us,he,h1,A⟩:=dE h;cases he; exact ⟨h1,et A⟩
theorem kT {r:Rn} {a b c:AV} {u v t:ag} (h:aK r [a,b,c]=some [u,v,t]):den r a=some u∧den r b=some v∧den r c=some t:=by
 obtain ⟨C,us,he,h1,A⟩:=dE h;cases he; exact ⟨h1,gv A⟩
section
variable {r:Rn} {u:ag}
theorem cO {k:bC} {n:Int} (h:den r (.int k n)=some u):u= .int k n:=by simpa [den] using h.symm
theorem iA {b:Bool} (h:den r (.bool b)=some u):u= .bool b:=by simpa [den] using h.symm
theorem fU {l:List UInt8} (h:den r (.str l)=some u):u=str l:=by simpa [den] using h.symm
theorem nz (h:den r .fY=some u):u= .pointer none:=by simpa [den] using h.symm
theorem gz (h:den r .aC=some u):u= .slice none 0 0:=by simpa [den] using h.symm
theorem zn (h:den r .jK=some u):u= .map none:=by simpa [den] using h.symm
theorem pE (h:den r .gZ=some u):u= .nilFunc:=by simpa [den] using h.symm
theorem ny (h:den r .db=some u):u= .nilIface:=by simpa [den] using h.symm
theorem gT {b o:Nat} (h:den r (.ptr b o)=some u):∃ q,r b=some q∧u= .pointer (some ⟨q.ax,q.sh+o,none⟩):=by
 simp only [den] at h;split at h
 · rename_i q A; exact ⟨q,A,(gN h).symm⟩
 · cases h
theorem ma {b:Nat} (h:den r (.map b)=some u):∃ q,r b=some q∧u= .map (some q.ax):=by
 simp only [den] at h;split at h
 · rename_i q A; exact ⟨q,A,(gN h).symm⟩
 · cases h
theorem uA {b:Nat} (h:den r (.fO b)=some u):∃ q,r b=some q∧u= .func (.yield q.ax) #[] #[]:=by
 simp only [den] at h;split at h
 · rename_i q A; exact ⟨q,A,(gN h).symm⟩
 · cases h
theorem zo {b o n c:Nat} (h:den r (.sl b o n c true)=some u):∃ q,r b=some q∧n≤c∧u= .slice (some ⟨q.ax,q.sh+o,none⟩) n c:=by
 simp only [den] at h;split at h
 · rename_i q A;cases hb:bj n c
   · rw [hb] at h; cases h
   · rw [hb] at h;exact ⟨q,A,bQ hb,(gN h).symm⟩
 · cases h
theorem ru {b o n c:Nat} (h:den r (.sl b o n c false)=some u):∃ q,r b=some q∧c+n≤q.room∧u= .slice (some ⟨q.ax,q.sh+o,none⟩) n (q.room - c):=by
 simp only [den] at h;split at h
 · rename_i q A;cases hb:bj (c+n) q.room
   · rw [hb] at h; cases h
   · rw [hb] at h;exact ⟨q,A,bQ hb,(gN h).symm⟩
 · cases h
theorem gU {b o n c:Nat} {x:Bool} (h:den r (.sl b o n c x)=some u):∃ q cap,r b=some q∧n≤cap∧u= .slice (some ⟨q.ax,q.sh+o,none⟩) n cap∧(x=true→cap=c)∧(x=false→cap=q.room - c∧c+n≤q.room):=by
 cases x
 · obtain ⟨q,C,A,he⟩:=ru h;exact ⟨q,q.room - c,C,U,he,(fun e=>by cases e),fun _=>⟨J,A⟩⟩
 · obtain ⟨q,C,A,he⟩:=zo h;exact ⟨q,c,C,A,he,fun _=>rfl,fun e=>by cases e⟩
theorem kV {f:Nat} {a c:List AV} (h:den r (.fn f a c)=some u):∃ A c',aK r a=some A∧aK r c=some c'∧u= .func (.func f) A.toArray c'.toArray:=by
 simp only [den] at h;split at h
 · rename_i A c' ha C; exact ⟨A,c',ha,C,(gN h).symm⟩
 · cases h
theorem rq {t:Nat} {v:AV} (h:den r (.eR t v)=some u):∃ A,den r v=some A∧u= .iface t A:=by
 simp only [den] at h;split at h
 · rename_i A C; exact ⟨A,C,(gN h).symm⟩
 · cases h
theorem pD {l:List AV} (h:den r (.agg l)=some u):∃ us,aK r l=some us∧u= .agg us.toArray:=by
 simp only [den] at h;split at h
 · rename_i C A; exact ⟨C,A,(gN h).symm⟩
 · cases h
theorem zq {l:List AV} (h:den r (.bU l)=some u):∃ us,aK r l=some us∧u= .tuple us.toArray:=by
 simp only [den] at h;split at h
 · rename_i C A; exact ⟨C,A,(gN h).symm⟩
 · cases h
end
def vd (k:bC):Int→Bool
 | .ofNat m=>match k with
   | .i64=>aF m 9223372036854775808
   | .u8=>aF m 256
   | .u64=>aF m 18446744073709551616
   | .i32=>aF m 2147483648
   | .u32=>aF m 4294967296
   | .u16=>aF m 65536
   | _=>false
 | .negSucc m=>match k with
   | .i64=>aF m 9223372036854775808
   | .i32=>aF m 2147483648
   | _=>false
def mT (k:bC) (n:Int):Int:=cond (vd k n) n<|k.wrap n
theorem cz {a b:Nat} :aF a b=true↔a < b:=by simp [aF,qQ,qU]
theorem u16_in (n:Int) (h:0≤n∧n≤65535):IntKind.u16.wrap n=n:=by
 unfold IntKind.wrap;simp only [IntKind.bits,IntKind.signed];simp;omega
theorem Hg {k:bC} {n:Int} (h:vd k n=true):k.wrap n=n:=by
 cases n with
 | ofNat m=>
   show k.wrap (m:Int)=(m:Int)
   cases k with
   | i64=>have :=cz.1 (show aF m 9223372036854775808=true from h); exact iN ⟨U,U⟩
   | u8=>have :=cz.1 (show aF m 256=true from h); exact xF ⟨U,U⟩
   | u64=>have :=cz.1 (show aF m 18446744073709551616=true from h); exact gi ⟨U,U⟩
   | i32=>have :=cz.1 (show aF m 2147483648=true from h); exact xC ⟨U,U⟩
   | u32=>have :=cz.1 (show aF m 4294967296=true from h); exact CN ⟨U,U⟩
   | u16=>have :=cz.1 (show aF m 65536=true from h); exact u16_in _ ⟨U,U⟩
   | i8=>exact cQ (show false =true from h)
   | i16=>exact cQ (show false =true from h)
 | negSucc m=>
   rw [Int.negSucc_eq];cases k with
   | i64=>have :=cz.1 (show aF m 9223372036854775808=true from h); exact iN ⟨U,U⟩
   | i32=>have :=cz.1 (show aF m 2147483648=true from h); exact xC ⟨U,U⟩
   | _=>exact cQ (show false =true from h)
theorem qB (k:bC) (n:Int):mT k n=k.wrap n:=by
 unfold mT;cases h:vd k n
 · rfl
 · exact (Hg h).symm
def eJ (k:bC):Int→Option AV
 | .ofNat 0=>some<|.int k 0
 | .ofNat (m+1)=>some<|.int k<|.ofNat<|m+1
 | .negSucc 0=>some<|.int k<|-1
 | .negSucc (m+1)=>some<|.int k<|.negSucc<|m+1
theorem eZ (k:bC) (n:Int):eJ k n=some (.int k n):=by
 unfold eJ;split <;> rfl
def gB:List UInt8→List UInt8→Bool
 | [],[]=>true
 | a::l,b::m=>cond (aM a.toNat b.toNat) (gB l m) false
 | _,_=>false
theorem nC:∀ l m:List UInt8,gB l m=decide (l=m)
 | [],[]=>by simp [gB]
 | [],_::_=>by simp [gB]
 | _::_,[]=>by simp [gB]
 | a::l,b::m=>by
   have ih:=nC l m;simp only [gB];cases h:aM a.toNat b.toNat
   · have :a≠b:=fun e=>by subst e; simp at h
     simp [this]
   · have :a=b:=jz.1<|bO h;simp [this,ih]
def mu:List UInt8→List UInt8→Bool
 | _,[]=>false
 | [],_::_=>true
 | a::l,b::m=>cond (aF a.toNat b.toNat) true<|cond (aM a.toNat b.toNat) (mu l m) false
theorem AE:∀ l m:List UInt8,mu l m=mB l m
 | [],[]=>rfl
 | _::_,[]=>rfl
 | [],_::_=>rfl
 | a::l,b::m=>by
   have ih:=AE l m;rw [JC];simp only [mu];rcases qR a.toNat b.toNat with h | h | h
   · have A:a < b:=Eh.2 h;simp [cz.2 h,A]
   · have e:a=b:=jz.1 h;subst e;have A:¬a < a:=UInt8.lt_irrefl a;have C:aF a.toNat a.toNat=false :=by cases hb:aF a.toNat a.toNat; rfl; exact absurd (cz.1 hb)<|Nat.lt_irrefl _
     simp [C,A,ih]
   · have A:¬a < b:=fun h'=>by have :=Eh.1 h'; omega
     have C:aF a.toNat b.toNat=false :=by cases hb:aF a.toNat b.toNat; rfl; exact absurd (cz.1 hb) U
     have E:aM a.toNat b.toNat=false :=by cases hb:aM a.toNat b.toNat; rfl; exact absurd (bO hb) U
     have I:a≠b:=fun e=>by subst e; omega
     simp [C,E,A,I]
end Go.Hb
namespace Go.Hb
def rM (op:BinOp) (k:bC) (a b:Int):Option AV:=match op with
 | .add=>eJ k<|mT k<|Int.add a b
 | .sub=>eJ k<|mT k<|Int.sub a b
 | .mul=>eJ k<|mT k<|Int.mul a b
 | .lss=>some<|.bool<|decide (a < b)
 | .leq=>some<|.bool<|decide (a≤b)
 | .gtr=>some<|.bool<|decide (b < a)
 | .geq=>some<|.bool<|decide (b≤a)
 | .eql=>some<|.bool<|decide (a=b)
 | .neq=>some<|.bool<|decide (a≠b)
 | .quo=>match a,b with
   | .ofNat a,.ofNat (b+1)=>eJ k<|mT k<|.ofNat<|a / (b+1)
   | _,_=>none
 | .rem=>match a,b with
   | .ofNat a,.ofNat (b+1)=>eJ k<|.ofNat<|a % (b+1)
   | _,_=>none
 | .or =>eJ k<|k.wrap (gH k.bits a ||| gH k.bits b).toNat
 | .and =>eJ k<|k.wrap (gH k.bits a &&& gH k.bits b).toNat
 | _=>none
def wP (op:BinOp) (k:bC) (a:Int) (b:Nat):Option AV:=match op with
 | .shr=>eJ k<|a.fdiv<|2 ^ min b k.bits
 | .shl=>eJ k<|k.wrap<|a*2 ^ min b k.bits
 | _=>none
def xg (op:BinOp) (l m:List UInt8):Option AV:=match op with
 | .eql=>some<|.bool<|gB l m
 | .neq=>some<|.bool<|!gB l m
 | .lss=>some<|.bool<|mu l m
 | .gtr=>some<|.bool<|!(mu l m || gB l m)
 | .leq=>some<|.bool (mu l m || gB l m)
 | .geq=>some<|.bool<|!mu l m
 | .add=>cond (bj (l.length+m.length) 9223372036854775807) (some<|.str<|l++m) none
 | _=>none
def pR (P:av) (t:au):Bool:=match P.underlying t with
 | some (.pointer e)=>(P.info? e).isSome
 | _=>false
def jl (P:av) (t:au):Bool:=match P.underlying t with
 | some (.slice _)=>true
 | _=>false
def rN (P:av) (t:au):Bool:=match P.underlying t with
 | some (.func _ _ _)=>true
 | _=>false
def vg (P:av) (t:au):Bool:=match P.underlying t with
 | some .bool=>true
 | _=>false
def rO (P:av) (t:au):Bool:=match P.underlying t with
 | some (.interface _)=>true
 | _=>false
def isStr (P:av) (t:au):Bool:=match P.underlying t with
 | some .string=>true
 | _=>false
def rA (P:av) (A:Bool) (t:au) (x y:AV):Option Bool:=match x,y with
 | .ptr _ _,.fY=>cond (pR P t) (some false) none
 | .fY,.fY=>cond (pR P t) (some true) none
 | .ptr b o,.ptr b' o'=>cond (pR P t && (aM b b' && aM o o')) (some true) none
 | .sl _ _ _ _ _,.aC=>cond (jl P t) (some false) none
 | .aC,.aC=>cond (jl P t) (some true) none
 | .fn _ _ _,.gZ=>cond (rN P t) (some false) none
 | .gZ,.gZ=>cond (rN P t) (some true) none
 | .bool a,.bool b=>cond (vg P t) (some<|a==b) none
 | .eR _ _,.db=>cond (rO P t) (some false) none
 | .db,.db=>cond (rO P t && A) (some true) none
 | _,_=>none
def ub (P:av) (A:Bool) (op:BinOp) (t:au) (x y:AV):Option AV:=match x,y with
 | .int k a,.int k' b=>match op with
   | .shl | .shr=>match b with
     | .ofNat b=>wP op k a b
     | _=>none
   | _=>cond (aM (dz k)<|dz k') (rM op k a b) none
 | .str l,.str m=>xg op l m
 | x,y=>match op with
   | .eql=>match rA P A t x y with
     | some b=>some<|.bool b
     | none=>none
   | .neq=>match rA P A t x y with
     | some b=>some<|.bool<|!b
     | none=>none
   | _=>none
section
variable {P:av} {r:Rn} {N:Fm} {σ:Nat→ag} {dst:Option Nat} {ty:au} {pos :String} {af:Array cH} {g:Option (Nat×Bool)} {x y z:aY}
def YP (P:av) (r:Rn) (N:Fm) (σ:Nat→ag) (o:aE) (v:AV):Prop := ∃ u,den r v=some u∧∀ w,(execOp (ev N σ) o).run P w= .ok (.value u) w
theorem Hj {op:BinOp} {k:bC} {a b:Int} {t t':au} {v:AV} (h:rM op k a b=some v) (A:ev N σ x= .int k a) (C:ev N σ y= .int k b):YP P r N σ ⟨dst,.binOp op t x y t',ty,pos,af,g⟩ v:=by
 unfold rM at h;split at h
 · rw [eZ,qB] at h; cases h; exact ⟨_,rfl,fun w=>tX _ A C rfl⟩
 · rw [eZ,qB] at h; cases h; exact ⟨_,rfl,fun w=>wo _ A C rfl⟩
 · rw [eZ,qB] at h; cases h; exact ⟨_,rfl,fun w=>vF _ A C rfl⟩
 · cases h; exact ⟨_,rfl,fun w=>lt A C⟩
 · cases h; exact ⟨_,rfl,fun w=>le A C⟩
 · cases h; exact ⟨_,rfl,fun w=>gt A C⟩
 · cases h; exact ⟨_,rfl,fun w=>ge A C⟩
 · cases h; exact ⟨_,rfl,fun w=>zI A C⟩
 · cases h; exact ⟨_,rfl,fun w=>AN A C⟩
 · split at h
   · rename_i a b;rw [eZ,qB] at h; cases h;exact ⟨_,J,fun w=>IM _ A C ⟨fc _,DG.2<|Ef _⟩ J⟩
   · cases h
 · split at h
   · rename_i a b;rw [eZ] at h; cases h;exact ⟨_,J,fun w=>rm A C ⟨fc _,DG.2<|Ef _⟩⟩
   · cases h
 · rw [eZ] at h; cases h; exact ⟨_,rfl,fun w=>yG A C rfl⟩
 · rw [eZ] at h; cases h; exact ⟨_,rfl,fun w=>cR A C rfl⟩
 · cases h
theorem Ju {op:BinOp} {k E:bC} {a:Int} {b:Nat} {t t':au} {v:AV} (h:wP op k a b=some v) (A:ev N σ x= .int k a) (C:ev N σ y= .int E (jZ b)):YP P r N σ ⟨dst,.binOp op t x y t',ty,pos,af,g⟩ v:=by
 unfold wP at h;split at h
 · rw [eZ] at h; cases h; exact ⟨_,rfl,fun w=>shr A C (fc _) rfl⟩
 · rw [eZ] at h; cases h; exact ⟨_,rfl,fun w=>shl A C (fc _) rfl⟩
 · cases h
theorem J3 {op:BinOp} {l m:List UInt8} {t t':au} {v:AV} (h:xg op l m=some v) (A:ev N σ x=str l) (C:ev N σ y=str m):YP P r N σ ⟨dst,.binOp op t x y t',ty,pos,af,g⟩ v:=by
 unfold xg at h;simp only [nC,AE] at h;split at h
 · cases h; exact ⟨_,rfl,fun w=>zK A C⟩
 · cases h; exact ⟨.bool (decide (l≠m)),by simp [den],fun w=>AP A C⟩
 · cases h; exact ⟨_,rfl,fun w=>HW A C⟩
 · cases h; exact ⟨_,rfl,fun w=>GX A C⟩
 · cases h; exact ⟨_,rfl,fun w=>HK A C⟩
 · cases h; exact ⟨_,rfl,fun w=>GS A C⟩
 · cases hb:bj (l.length+m.length) 9223372036854775807
   · rw [hb] at h; cases h
   · rw [hb] at h; cases h; exact ⟨_,rfl,fun w=>cc A C<|bQ hb⟩
 · cases h
def cW:aY→Bool
 | .const _=>true
 | _=>false
def tQ (P:av) (t:au) (x y:aY) (u v:ag) (q:Bool):Prop :=
 (∀ w,(binOp .eql t u v).run P w= .ok (.bool q) w)∧(∀ w,(binOp .neq t u v).run P w= .ok (.bool<|!q) w)∧∀ op w,(eqGuard op t x y u v).run P w= .ok () w
theorem tQ.of {t:au} {u v:ag} {q:Bool} (h:∀ d w,(gI (d+1) t u v).run P w= .ok q w) (h1:∀ w,(binOp .eql t u v).run P w=((lM t u v).run P w).andThen fun q w=> .ok (.bool q) w)
 (A:∀ w,(binOp .neq t u v).run P w=((lM t u v).run P w).andThen fun q w=> .ok (.bool<|!q) w) (C:∀ op w,(eqGuard op t x y u v).run P w= .ok () w):tQ P t x y u v q:=by
 have e:∀ w,(lM t u v).run P w= .ok q w:=h 9999;exact ⟨fun w=>by rw [h1,e]; rfl,fun w=>by rw [A,e]; rfl,C⟩
theorem zE {Z:Bool} {t:au} {a b:AV} {u v:ag} {q:Bool} (ac:Z=true→(cW x || cW y)=true) (h:rA P Z t a b=some q) (hu:den r a=some u) (E:den r b=some v):tQ P t x y u v q:=by
 have L:pR P t=true→∃ e i,P.underlying t=some (.pointer e)∧P.info? e=some i:=by
  intro hp;unfold pR at hp;split at hp
  · rename_i e he;obtain ⟨i,hi⟩:=Option.isSome_iff_exists.1 hp;exact ⟨e,i,he,hi⟩
  · cases hp
 have U:jl P t=true→∃ e,P.underlying t=some (.slice e):=by
  intro hp; unfold jl at hp; split at hp
  · exact ⟨_,by assumption⟩
  · cases hp
 have M:rN P t=true→∃ a b c,P.underlying t=some (.func a b c):=by
  intro hp; unfold rN at hp; split at hp
  · exact ⟨_,_,_,by assumption⟩
  · cases hp
 have O:rO P t=true→∃ m,P.underlying t=some (.interface m):=by
  intro hp; unfold rO at hp; split at hp
  · exact ⟨_,by assumption⟩
  · cases hp
 have B1:vg P t=true→P.underlying t=some .bool:=by
  intro hp; unfold vg at hp; split at hp
  · assumption
  · cases hp
 have I:∀ {c:Bool} {p:Option Bool} {q:Bool},cond c p none=some q→c=true∧p=some q:=by
  intro c p q h; cases c
  · cases h
  · exact ⟨J,h⟩
 unfold rA at h;split at h
 · obtain ⟨y,V,rfl⟩:=gT hu;obtain rfl :=nz E;obtain ⟨A,C⟩:=I h;cases C;obtain ⟨e,i,he,hi⟩:=L A;exact .of (fun d w=>uE d he) (fun w=>by simp [binOp]) (fun w=>by simp [binOp]) fun op w=>by simp [eqGuard]
 · obtain rfl :=nz hu;obtain rfl :=nz E;obtain ⟨A,C⟩:=I h;cases C;obtain ⟨e,i,he,hi⟩:=L A;exact .of (fun d w=>uE d he) (fun w=>by simp [binOp]) (fun w=>by simp [binOp]) fun op w=>by simp [eqGuard]
 · rename_i b o ah aj;obtain ⟨A,C⟩:=I h;cases C;simp only [bg] at A;obtain ⟨hp,h1,ab⟩:=A;obtain rfl :=bO h1;obtain rfl :=bO ab;rw [hu] at E; cases E;obtain ⟨y,V,rfl⟩:=gT hu;obtain ⟨e,i,he,hi⟩:=L hp;exact .of (fun d w=>by simp [gI,bu he,sizeOf,c9 hi,sameAddr]) (fun w=>by simp [binOp]) (fun w=>by simp [binOp]) fun op w=>by simp [eqGuard]
 · obtain ⟨y,cap,V,_,rfl,_⟩:=gU hu;obtain rfl :=gz E;obtain ⟨A,C⟩:=I h;cases C;obtain ⟨e,he⟩:=U A;exact .of (fun d w=>zL d he) (fun w=>by simp [binOp]) (fun w=>by simp [binOp]) fun op w=>by simp [eqGuard]
 · obtain rfl :=gz hu;obtain rfl :=gz E;obtain ⟨A,C⟩:=I h;cases C;obtain ⟨e,he⟩:=U A;exact .of (fun d w=>zL d he) (fun w=>by simp [binOp]) (fun w=>by simp [binOp]) fun op w=>by simp [eqGuard]
 · obtain ⟨ae,c',ha,_,rfl⟩:=kV hu;obtain rfl :=pE E;obtain ⟨A,C⟩:=I h;cases C;obtain ⟨_,_,_,he⟩:=M A;exact .of (fun d w=>by simp [gI,bu he]) (fun w=>by simp [binOp]) (fun w=>by simp [binOp]) fun op w=>by simp [eqGuard]
 · obtain rfl :=pE hu;obtain rfl :=pE E;obtain ⟨A,C⟩:=I h;cases C;obtain ⟨_,_,_,he⟩:=M A;exact .of (fun d w=>by simp [gI,bu he]) (fun w=>by simp [binOp]) (fun w=>by simp [binOp]) fun op w=>by simp [eqGuard]
 · obtain rfl :=iA hu;obtain rfl :=iA E;obtain ⟨A,C⟩:=I h;cases C;exact .of (fun d w=>zG d<|B1 A) (fun w=>by simp [binOp]) (fun w=>by simp [binOp]) fun op w=>by simp [eqGuard]
 · obtain ⟨ak,ai,rfl⟩:=rq hu;obtain rfl :=ny E;obtain ⟨A,C⟩:=I h;cases C;obtain ⟨_,he⟩:=O A;exact .of (fun d w=>by simp [gI,bu he]) (fun w=>by simp [binOp]) (fun w=>by simp [binOp]) fun op w=>by simp [eqGuard]
 · obtain rfl :=ny hu;obtain rfl :=ny E;obtain ⟨A,C⟩:=I h;cases C;simp only [bg] at A;obtain ⟨_,he⟩:=O A.1;have ad:=ac A.2;exact .of (fun d w=>by simp [gI,bu he]) (fun w=>by simp [binOp]) (fun w=>by simp [binOp]) (fun op w=>by
    cases x <;> cases y <;> first | (cases ad; done) | simp [eqGuard])
 · cases h
theorem EV {V:Bool} {op:BinOp} {t t':au} {a b v:AV} (A:V=true→(cW x || cW y)=true) (h:ub P V op t a b=some v) (E:den r a=some (ev N σ x)) (I:den r b=some (ev N σ y)):YP P r N σ ⟨dst,.binOp op t x y t',ty,pos,af,g⟩ v:=by
 unfold ub at h;split at h
 · rename_i k a U b;have h1:=cO E;have O:=cO I;have key:(cond (aM (dz k)<|dz U) (rM op k a b) none)=some v→YP P r N σ ⟨dst,.binOp op t x y t',ty,pos,af,g⟩ v:=by
    intro C;cases A:aM (dz k) (dz U)
    · rw [A] at C; cases C
    · rw [A] at C;obtain rfl :=mi A;exact Hj C h1 O
   cases op <;> first
    | exact key h
    | (dsimp only at h
       split at h
       · exact Ju h h1 O
       · cases h)
 · exact J3 h (fU E)<|fU I
 · split at h
   · split at h
     · rename_i q M;cases h;obtain ⟨h1,_,L⟩:=zE A M E I;exact ⟨_,J,fun w=>by simp [execOp,h1,L]⟩
     · cases h
   · split at h
     · rename_i q M;cases h;obtain ⟨_,h1,L⟩:=zE A M E I;exact ⟨_,J,fun w=>by simp [execOp,h1,L]⟩
     · cases h
   · cases h
end
def wU (e b o n c:Nat) (x:Bool) (i j:Nat):Option AV:=
 cond (bj i j) (cond x (cond (bj j c) (cond (aM c i) (some<|.sl b o (j - i) (c - i) true)<|some<|.sl b (o+i*e) (j - i) (c - i) true) none)
  (cond (bj j n && (aM i 0 || aF i n)) (some<|.sl b (o+i*e) (j - i) (c+i) false) none)) none
def oC (P:av) (t:au) (x:AV) (lo hi:Option Nat):Option AV:=match x with
 | .str l=>cond (isStr P t && (bj (lo.getD 0) (hi.getD l.length) && bj (hi.getD l.length) l.length)) (some<|.str<|(l.take<|hi.getD l.length).drop<|lo.getD 0) none
 | .sl b o n c q=>match cV P t with
   | some e=>wU e b o n c q (lo.getD 0)<|hi.getD n
   | none=>none
 | .aC=>match cV P t with
   | some _=>cond (aM (lo.getD 0) 0 && aM (hi.getD 0) 0) (some .aC) none
   | none=>none
 | _=>none
def wT (P:av) (t:au) (lo hi mx:Option aY) (xs:List AV):Option AV:=match lo,hi,mx with
 | none,some _,none=>match xs with
   | [x,.int _ (.ofNat j)]=>oC P t x none<|some j
   | _=>none
 | some _,none,none=>match xs with
   | [x,.int _ (.ofNat i)]=>oC P t x (some i) none
   | _=>none
 | some _,some _,none=>match xs with
   | [x,.int _ (.ofNat i),.int _ (.ofNat j)]=>oC P t x (some i)<|some j
   | _=>none
 | none,some _,some _=>match xs with
   | [.sl b o n c q,.int _ (.ofNat j),.int _ (.ofNat m)]=>match cV P t with
     | some e=>cond (aM j m && bj m n) (some<|.sl b o j j true) none
     | none=>none
   | _=>none
 | some _,some _,some _=>match xs with
   | [.sl b o n c q,.int _ (.ofNat i),.int _ (.ofNat j),.int _ (.ofNat m)]=>match cV P t with
     | some e=>cond (bj i j && (bj j m && bj m n)) (cond (aM m i) (some<|.sl b o (j - i) (m - i) true)<|some<|.sl b (o+i*e) (j - i) (m - i) true) none
     | none=>none
   | _=>none
 | _,_,_=>none
section
variable {P:av} {r:Rn} {N:Fm} {σ:Nat→ag} {dst:Option Nat} {ty:au} {pos :String} {af:Array cH} {g:Option (Nat×Bool)} {x y z:aY}
theorem a0 {α:Type} {c:Bool} {p:Option α} {q:α} (h:cond c p none=some q):c=true∧p=some q:=by
 cases c
 · cases h
 · exact ⟨J,h⟩
theorem kU {b o n c:Nat} {q:Loc} (A:r b=some q) (h:n≤c):den r (.sl b o n c true)=some (.slice (some ⟨q.ax,q.sh+o,none⟩) n c):=by
 simp only [den,A,cond_true,ye h]
theorem nw {b o n c:Nat} {q:Loc} (A:r b=some q) (h:c+n≤q.room):den r (.sl b o n c false)=some (.slice (some ⟨q.ax,q.sh+o,none⟩) n<|q.room - c):=by
 simp only [den,A,cond_true,cond_false,ye h]
theorem wV {e b o n c i j:Nat} {q:Bool} {v:AV} {u:ag} (h:wU e b o n c q i j=some v) (hu:den r (.sl b o n c q)=some u):
 ∃ a cap,u= .slice a n cap∧n≤cap∧i≤j∧j≤cap∧den r v=some (.slice (dS a cap i e) (j - i)<|cap - i):=by
 unfold wU at h;replace h:=a0 h; obtain ⟨h1,h⟩:=h;have h1:=bQ h1;cases q
 · simp only [cond_false] at h;replace h:=a0 h; obtain ⟨A,h⟩:=h;simp only [bg,mV] at A;obtain ⟨q,C,E,rfl⟩:=ru hu;have M:=bQ A.1;cases h;refine ⟨_,_,J,U,h1,U,?_⟩;have L:dS (some ⟨q.ax,q.sh+o,none⟩) (q.room - c) i e=some ⟨q.ax,q.sh+(o+i*e),none⟩:=by
    unfold dS;rcases A.2 with A | A
    · obtain rfl :=bO A;split
      · simp
      · simp [dY]
    · have :=cz.1 A;rw [if_neg U];simp [dY,iu]
   rw [L,nw C U,show q.room - (c+i)=q.room - c - i from by omega]
 · simp only [cond_true] at h;replace h:=a0 h; obtain ⟨A,h⟩:=h;have A:=bQ A;obtain ⟨q,C,E,rfl⟩:=zo hu;refine ⟨_,_,J,E,h1,A,?_⟩;cases hb:aM c i
   · rw [hb] at h; cases h;have I:c≠i:=fun e=>by subst e; simp at hb
     rw [kU C U];simp only [dS,if_neg I,eV,dY,iu]
   · rw [hb] at h; cases h;obtain rfl :=bO hb;rw [kU C U];simp only [dS,if_true]
theorem lk {t:au} (h:isStr P t=true):P.underlying t=some .string:=by
 unfold isStr at h; split at h
 · assumption
 · cases h
theorem BJ (c i e:Nat):dS none c i e=none:=by unfold dS; split <;> rfl
theorem Jx (a:Option Addr) (c e:Nat):dS a c 0 e=a:=by
 unfold dS; split
 · rfl
 · cases a <;> simp [Addr.add]
theorem JB {t:au} {lo hi mx:Option aY} {xs:List AV} {v:AV} (h:wT P t lo hi mx xs=some v) (V:aK r xs=some ((x::(lo.toList++(hi.toList++mx.toList))).map<|ev N σ)):
 YP P r N σ ⟨dst,.slice t x lo hi mx,ty,pos,af,g⟩ v:=by
 unfold wT at h;split at h
 · rename_i z;split at h
   · rename_i a k j;obtain ⟨h1,E⟩:=gv (u:=ev N σ x) (v:=ev N σ z) V;have C:=cO E;unfold oC at h;split at h
     · replace h:=a0 h; obtain ⟨A,h⟩:=h;simp only [bg,ph,iw] at A;cases h;refine ⟨_,J,fun w=>(xc (lk A.1) (fU h1) C ⟨fc _,?_⟩).trans ?_⟩
       · have :=bQ A.2.2; simp; omega
       · simp
     · split at h
       · rename_i e he;obtain ⟨a,cap,hu,ab,I,L,M⟩:=wV h h1;simp only [ph,iw] at I L M;refine ⟨_,M,fun w=>(wZ he hu C ⟨fc _,by simp; omega⟩).trans ?_⟩;simp [Jx]
       · cases h
     · split at h
       · rename_i e he;replace h:=a0 h; obtain ⟨A,h⟩:=h;simp only [bg,ph,iw] at A;obtain rfl :=bO A.2;cases h;exact ⟨_,J,fun w=>wZ he (gz h1) C ⟨fc _,by simp⟩⟩
       · cases h
     · cases h
   · cases h
 · rename_i z;split at h
   · rename_i a k j;obtain ⟨h1,E⟩:=gv (u:=ev N σ x) (v:=ev N σ z) V;have C:=cO E;unfold oC at h;split at h
     · replace h:=a0 h; obtain ⟨A,h⟩:=h;simp only [bg,ph,iw] at A;cases h;refine ⟨_,J,fun w=>(BN (lk A.1) (fU h1) C ⟨fc _,?_⟩).trans ?_⟩
       · have :=bQ A.2.1; simp; omega
       · simp
     · split at h
       · rename_i e he;obtain ⟨a,cap,hu,ab,I,L,M⟩:=wV h h1;simp only [ph,iw] at I L M;exact ⟨_,M,fun w=>xa he hu C ⟨fc _,by simp; omega⟩⟩
       · cases h
     · split at h
       · rename_i e he;replace h:=a0 h; obtain ⟨A,h⟩:=h;simp only [bg,ph,iw] at A;obtain rfl :=bO A.1;cases h;exact ⟨_,J,fun w=>(xa he (gz h1) C ⟨fc _,by simp⟩).trans<|by simp [BJ]⟩
       · cases h
     · cases h
   · cases h
 · rename_i y z;split at h
   · rename_i a k i ag j;obtain ⟨h1,E,I⟩:=kT (u:=ev N σ x) (v:=ev N σ y) (t:=ev N σ z) V;have O:=cO E;have C:=cO I;unfold oC at h;split at h
     · replace h:=a0 h; obtain ⟨A,h⟩:=h;simp only [bg,iw] at A;cases h;have :=bQ A.2.1;have :=bQ A.2.2;exact ⟨_,J,fun w=>sJ (lk A.1) (fU h1) O C ⟨fc _,by simp; omega,by simp; omega⟩⟩
     · split at h
       · rename_i e he;obtain ⟨a,cap,hu,ab,L,M,ad⟩:=wV h h1;simp only [iw] at L M ad;exact ⟨_,ad,fun w=>wX he hu O C ⟨fc _,by simp; omega,by simp; omega⟩⟩
       · cases h
     · split at h
       · rename_i e he;replace h:=a0 h; obtain ⟨A,h⟩:=h;simp only [bg,iw] at A;obtain rfl :=bO A.1;obtain rfl :=bO A.2;cases h;exact ⟨_,J,fun w=>(wX he (gz h1) O C ⟨fc _,by simp,by simp⟩).trans<|by simp [BJ]⟩
       · cases h
     · cases h
   · cases h
 · rename_i y z;split at h
   · rename_i b o n c q k j ag m;obtain ⟨h1,E,I⟩:=kT (u:=ev N σ x) (v:=ev N σ y) (t:=ev N σ z) V;have O:=cO E;have C:=cO I;split at h
     · rename_i e he;replace h:=a0 h; obtain ⟨A,h⟩:=h;simp only [bg] at A;obtain rfl :=bO A.1;have :=bQ A.2;cases h;obtain ⟨q,cap,ac,ab,hu,_⟩:=gU h1;exact ⟨_,kU ac (aV _),fun w=>Fl he hu O C U⟩
     · cases h
   · cases h
 · rename_i y z u;split at h
   · rename_i b o n c q k i ag j al m;obtain ⟨_,_,Z,h1,L⟩:=dE V;obtain ⟨E,I,L⟩:=kT (u:=ev N σ y) (v:=ev N σ z) (t:=ev N σ u)<|by simp at Z; rw [L,← Z.2]
     have O:=cO E;have C:=cO I;have hu:=cO L;simp at Z;rw [← Z.1] at h1;split at h
     · rename_i e he;replace h:=a0 h; obtain ⟨A,h⟩:=h;simp only [bg] at A;have aj:=bQ A.1;have ak:=bQ A.2.1;have am:=bQ A.2.2;obtain ⟨q,cap,ac,ab,ai,_⟩:=gU h1;have ae:=fun w=>JA (dst:=dst) (ty:=ty) (pos :=pos) (af:=af) (g:=g) (w:=w) he ai O C hu ⟨aj,ak,U⟩;cases hb:aM m i
       · rw [hb] at h; cases h;have ah:m≠i:=fun e=>by subst e; simp at hb
         refine ⟨_,kU ac U,fun w=>(ae w).trans ?_⟩;simp only [dS,if_neg ah,eV,dY,iu]
       · rw [hb] at h; cases h;obtain rfl :=bO hb;refine ⟨_,kU ac U,fun w=>(ae w).trans ?_⟩;simp only [dS,if_true]
     · cases h
   · cases h
 · cases h
end
end Go.Hb
namespace Go.Hb
def j7:AV→List AV
 | .agg l=>l
 | v=> [v]
theorem uh {r:Rn} {v:AV} {u:ag} (h:den r v=some u):aK r (j7 v)=some u.cells.toList:=by
 cases v with
 | agg l=>
   obtain ⟨us,C,rfl⟩:=pD h;simpa [j7,Value.cells] using C
 | bool b=>have :=iA h; subst this; exact dB h<|by simp [aK]
 | int k n=>have :=cO h; subst this; exact dB h<|by simp [aK]
 | str l=>have :=fU h; subst this; exact dB h<|by simp [aK]
 | ptr b o=>obtain ⟨q,A,rfl⟩:=gT h; exact dB h<|by simp [aK]
 | fY=>have :=nz h; subst this; exact dB h<|by simp [aK]
 | sl b o n c x=>obtain ⟨q,cap,A,_,rfl,_⟩:=gU h; exact dB h<|by simp [aK]
 | aC=>have :=gz h; subst this; exact dB h<|by simp [aK]
 | map b=>obtain ⟨q,A,rfl⟩:=ma h; exact dB h<|by simp [aK]
 | jK=>have :=zn h; subst this; exact dB h<|by simp [aK]
 | fn f a c=>obtain ⟨_,_,_,_,rfl⟩:=kV h; exact dB h<|by simp [aK]
 | fO l=>obtain ⟨q,A,rfl⟩:=uA h; exact dB h<|by simp [aK]
 | gZ=>have :=pE h; subst this; exact dB h<|by simp [aK]
 | eR t v=>obtain ⟨_,_,rfl⟩:=rq h; exact dB h<|by simp [aK]
 | db=>have :=ny h; subst this; exact dB h<|by simp [aK]
 | bU l=>obtain ⟨_,_,rfl⟩:=zq h; exact dB h<|by simp [aK]
def r9:AV→Bool
 | .agg _ | .bU _=>false
 | _=>true
theorem Iw {r:Rn} {v:AV} {u:ag} (h:den r v=some u) (h1:r9 v=true):u.oneCell'=true :=by
 cases v with
 | agg l=>cases h1
 | bool b=>have :=iA h; subst this; rfl
 | int k n=>have :=cO h; subst this; rfl
 | str l=>have :=fU h; subst this; rfl
 | ptr b o=>obtain ⟨q,A,rfl⟩:=gT h; rfl
 | fY=>have :=nz h; subst this; rfl
 | sl b o n c x=>obtain ⟨q,cap,A,_,rfl,_⟩:=gU h; rfl
 | aC=>have :=gz h; subst this; rfl
 | map b=>obtain ⟨q,A,rfl⟩:=ma h; rfl
 | jK=>have :=zn h; subst this; rfl
 | fn f a c=>obtain ⟨_,_,_,_,rfl⟩:=kV h; rfl
 | fO l=>obtain ⟨q,A,rfl⟩:=uA h; rfl
 | gZ=>have :=pE h; subst this; rfl
 | eR t v=>obtain ⟨_,_,rfl⟩:=rq h; rfl
 | db=>have :=ny h; subst this; rfl
 | bU l=>cases h1
def dJ:List AV→Bool
 | []=>true
 | v::l=>cond (r9 v) (dJ l) false
theorem nW {r:Rn} :∀ {l:List AV} {us:List ag},aK r l=some us→dJ l=true→∀ u∈us,u.oneCell'=true
 | [],us,h,_,u,hu=>by rw [jD h] at hu; cases hu
 | v::l,us,h,h1,u,hu=>by
   obtain ⟨E,I,rfl,A,C⟩:=dE h;simp only [dJ] at h1;cases hv:r9 v
   · rw [hv] at h1; cases h1
   · rw [hv] at h1;rcases fQ.1 hu with rfl | hu
     · exact Iw A hv
     · exact nW C h1 u hu
def me (pl:Nat→Option (Nat×Nat)):List AV→List (Nat×AV)→Option (List AV)
 | A,[]=>some A
 | A,(i,v)::ps=>match pl i with
   | some (off,s)=>cond (aM (j7 v).length s && bj (off+s) A.length) (me pl (A.take off++(j7 v++A.drop (off+s))) ps) none
   | none=>none
theorem zP:∀ (l:List ag) (m off :Nat) (cs:Array ag),off+m+l.length≤cs.size→
 (l.zipIdx m).foldl (fun (cs:Array ag) (c,j)=>cs.setIfInBounds (off+j) c) cs=(cs.toList.take (off+m)++(l++cs.toList.drop (off+m+l.length))).toArray
 | [],m,off,cs,h=>by simp
 | c::l,m,off,cs,h=>by
   simp only [List.zipIdx_cons,List.foldl_cons,dx] at h ⊢;rw [zP l (m+1) off _ (by simp; omega)];apply qE.1;have aP:off+m < cs.toList.length:=by rw [kC]; omega
   simp only [Array.toList_setIfInBounds];rw [show off+(m+1)=off+m+1 from by omega,Jr aP,Jo U,show off+m+1 +l.length=off+m+(l.length+1) from by omega];simp
theorem uL {r:Rn} {pl:Nat→Option (Nat×Nat)} :∀ {ps:List (Nat×AV)} {E L:List AV} {Z:List ag} {vs:List (Nat×ag)},me pl E ps=some L→aK r E=some Z→
 vs.map gp=ps.map gp→aK r (ps.map tO)=some (vs.map tO)→∃ C,aK r L=some C∧jX pl Z.toArray vs=some C.toArray
 | [],E,L,Z,vs,h,hz,h1,A=>by
   simp only [me,bH] at h;subst h;obtain rfl :vs= []:=by simpa using h1
   exact ⟨Z,hz,J⟩
 | (i,v)::ps,E,L,Z,vs,h,hz,h1,A=>by
   cases vs with
   | nil=>simp at h1
   | cons p vs=>
     obtain ⟨j,u⟩:=p;simp only [eA,kG] at h1;obtain ⟨rfl,h1⟩:=h1;simp only [eA] at A;obtain ⟨al,am,he,ah,A⟩:=dE A;simp only [kG] at he;obtain ⟨rfl,rfl⟩:=he;simp only [me] at h;split at h
     · rename_i off s ae;replace h:=a0 h; obtain ⟨I,h⟩:=h;simp only [bg] at I;have U:=bO I.1;have aj:=bQ I.2;have M:=uh ah;have ad:=c7 M;have ak:=c7 hz;have ai:=eO (iz off hz)<|eO M<|jc (off+s) hz;obtain ⟨C,V,ab⟩:=uL h ai h1 A;refine ⟨C,V,?_⟩;have O:u.cells.size=s:=by rw [← kC,ad,U]
       simp only [jX,ae,O];rw [if_neg (by simp; omega),← ab];congr 1;have ac:=zP u.cells.toList 0 off Z.toArray<|by simp; omega
       rw [show u.cells.zipIdx.foldl (fun (cs:Array ag) (c,j)=>cs.setIfInBounds (off+j) c) Z.toArray=((u.cells.toList.zipIdx 0).foldl (fun (cs:Array ag) (c,j)=>cs.setIfInBounds (off+j) c) Z.toArray) from by
        rw [← CX]; simp [Array.toList_zipIdx],ac]
       simp [O]
     · cases h
def kB:List (Nat×aY)→List AV→List (Nat×AV)
 | p::ps,v::vs=>(p.1,v)::kB ps vs
 | _,_=> []
theorem xI {r:Rn} {f:aY→ag} :∀ {ps:List (Nat×aY)} {xs:List AV},aK r xs=some ((ps.map (·.2)).map f)→
 (ps.map fun p=>(p.1,f p.2)).map gp=(kB ps xs).map gp∧aK r ((kB ps xs).map tO)=some ((ps.map fun p=>(p.1,f p.2)).map tO)
 | [],xs,h=>by
   have :=c7 h;obtain rfl :xs= []:=kH<|by simpa using this.symm
   simp [kB,aK]
 | p::ps,[],h=>by have :=c7 h; simp at this
 | p::ps,v::xs,h=>by
   simp only [eA] at h;obtain ⟨u,us,he,h1,A⟩:=dE h;simp only [kG] at he;obtain ⟨rfl,rfl⟩:=he;obtain ⟨C,E⟩:=xI (f:=f) A;refine ⟨?_,?_⟩
   · simp only [eA,kB,kG,true_and]; exact C
   · simp only [eA,kB]; exact dB h1 E
def yU (P:av) (t u:au) (n:Int):Option AV:=match P.underlying u with
 | some (.int k)=>cond (P.underlying t).isSome (eJ k<|mT k n) none
 | _=>none
def uc (P:av) (b:Builtin) (A:Array au) (xs:List AV):Option AV:=match b with
 | .len=>match xs,A with
   | [.str l],⟨[t]⟩=>cond (isStr P t) (eJ .i64 l.length) none
   | [.sl _ _ n _ _],⟨[t]⟩=>cond (jl P t) (eJ .i64 n) none
   | [.aC],⟨[t]⟩=>cond (jl P t) (eJ .i64 0) none
   | _,_=>none
 | .min =>match xs with
   | [.int k a,.int k' b]=>cond (aM (dz k)<|dz k') (eJ k<|min a b) none
   | _=>none
 | .max =>match xs with
   | [.int k a,.int k' b]=>cond (aM (dz k)<|dz k') (eJ k<|max a b) none
   | _=>none
 | _=>none
def yD (P:av) (t:au):Option (Nat×Nat):=match P.underlying t with
 | some (.array n e)=>match P.info? e with
   | some i=>match cZ P e with
     | some none=>some (n,i.size)
     | _=>none
   | none=>none
 | _=>none
def my (P:av) (o:Op) (xs:List AV):Option AV:=match o with
 | .move _=>match xs with
   | [x]=>some x
   | _=>none
 | .assign _=>match xs with
   | [x]=>some x
   | _=>none
 | .pick _ _ _=>match xs with
   | [.bool true,a,_]=>some a
   | [.bool false,_,b]=>some b
   | _=>none
 | .nilCheck _=>match xs with
   | [.ptr b o]=>some<|.ptr b o
   | _=>none
 | .extract _ i=>match xs with
   | [.bU l]=>l[i]?
   | _=>none
 | .fieldAddr s _ f=>match xs with
   | [.ptr b o]=>match nF P s f with
     | some n=>some<|.ptr b<|o+n
     | none=>none
   | _=>none
 | .field s _ f=>match xs with
   | [.agg l]=>match uJ P s f with
     | some n=>l[n]?
     | none=>match uK P s f with
       | some (C,off)=>match cZ P C with
         | some (some n)=>some<|.agg<|(l.drop off).take n
         | _=>none
       | none=>none
   | _=>none
 | .indexAddr s _ _=>match xs with
   | [.sl b o n _ _,.int _ (.ofNat i)]=>match cV P s with
     | some e=>cond (aF i n) (some<|.ptr b<|o+i*e) none
     | none=>none
   | [.ptr b o,.int _ (.ofNat i)]=>match j5 P s with
     | some (n,e)=>cond (aF i n) (some<|.ptr b<|o+i*e) none
     | none=>none
   | _=>none
 | .index t _ _=>match xs with
   | [.str l,.int _ (.ofNat i)]=>cond (isStr P t) (match l[i]? with
     | some c=>eJ .u8 c.toNat
     | none=>none) none
   | [.agg l,.int _ (.ofNat i)]=>match yD P t with
     | some (n,s)=>cond (aF i n) l[i*s]? none
     | none=>none
   | _=>none
 | .binOp op t x y _=>match xs with
   | [a,b]=>ub P (cW x || cW y) op t a b
   | _=>none
 | .unOp .not _ _=>match xs with
   | [.bool b]=>some<|.bool<|!b
   | _=>none
 | .convert t u _=>match xs with
   | [.int _ n]=>yU P t u n
   | _=>none
 | .slice t _ lo hi mx=>wT P t lo hi mx xs
 | .makeInterface t _=>match xs with
   | [x]=>cond (jI P t) (some<|.eR t x) none
   | _=>none
 | .typeAssert _ _ a true =>match xs with
   | [.db]=>cond (jI P a) (match zeroV P a with
     | some z=>match iE 4 z with
       | some z=>some<|.bU [z,.bool false]
       | none=>none
     | none=>none) none
   | [.eR t v]=>cond (jI P a && aM t a) (some<|.bU [v,.bool true]) none
   | _=>none
 | .makeFunc (.func f) ⟨a⟩ _=>some<|.fn f (xs.take a.length)<|xs.drop a.length
 | .build t ⟨ps⟩=>match ef P t with
   | some (pl,A)=>match jL (iE 4) A with
     | some A=>match me (fun i=>pl.toArray[i]?) A (kB ps xs) with
       | some l=>some<|.agg l
       | none=>none
     | none=>none
   | none=>none
 | .call ⟨.builtin b,_,ts⟩=>uc P b ts xs
 | _=>none
section
variable {P:av} {r:Rn} {N:Fm} {σ:Nat→ag} {dst:Option Nat} {ty:au} {pos :String} {af:Array cH} {g:Option (Nat×Bool)} {x y z:aY}
theorem pS {t:au} (h:jl P t=true):∃ e,P.underlying t=some (.slice e):=by
 unfold jl at h; split at h
 · exact ⟨_,by assumption⟩
 · cases h
theorem EZ {b:Builtin} {l:List aY} {L:Array au} {xs:List AV} {v:AV} (h:uc P b L xs=some v) (E:aK r xs=some (l.map<|ev N σ)):YP P r N σ ⟨dst,.call ⟨.builtin b,⟨l⟩,L⟩,ty,pos,af,g⟩ v:=by
 unfold uc at h;have one:∀ {a:AV},aK r [a]=some (l.map<|ev N σ)→∃ x,l= [x]∧den r a=some (ev N σ x):=by
  intro a h;have :=c7 h;simp at this;obtain ⟨x,rfl⟩:=qM.1 this;exact ⟨x,J,et h⟩
 have two:∀ {a b:AV},aK r [a,b]=some (l.map<|ev N σ)→∃ x y,l= [x,y]∧den r a=some (ev N σ x)∧den r b=some (ev N σ y):=by
  intro a b h;have :=c7 h;simp at this;obtain ⟨x,y,rfl⟩:∃ x y,l= [x,y]:=by
   match l,this with
   | [x,y],_=>exact ⟨x,y,rfl⟩
  exact ⟨x,y,J,gv h⟩
 split at h
 · split at h
   · obtain ⟨x,rfl,C⟩:=one E;replace h:=a0 h; obtain ⟨A,h⟩:=h;rw [eZ] at h; cases h;exact ⟨_,J,fun w=>Ay (lk A) J<|fU C⟩
   · obtain ⟨x,rfl,C⟩:=one E;replace h:=a0 h; obtain ⟨A,h⟩:=h;rw [eZ] at h; cases h;obtain ⟨e,he⟩:=pS A;obtain ⟨q,cap,O,_,hu,_⟩:=gU C;exact ⟨_,J,fun w=>vv he J hu⟩
   · obtain ⟨x,rfl,C⟩:=one E;replace h:=a0 h; obtain ⟨A,h⟩:=h;rw [eZ] at h; cases h;obtain ⟨e,he⟩:=pS A;exact ⟨_,J,fun w=>vv he J<|gz C⟩
   · cases h
 · split at h
   · rename_i k a M b;obtain ⟨x,y,rfl,C,I⟩:=two E;replace h:=a0 h; obtain ⟨A,h⟩:=h;obtain rfl :=mi A;rw [eZ] at h; cases h;exact ⟨_,J,fun w=>mn (cO C)<|cO I⟩
   · cases h
 · split at h
   · rename_i k a M b;obtain ⟨x,y,rfl,C,I⟩:=two E;replace h:=a0 h; obtain ⟨A,h⟩:=h;obtain rfl :=mi A;rw [eZ] at h; cases h;exact ⟨_,J,fun w=>mx (cO C)<|cO I⟩
   · cases h
 · cases h
theorem EW {t:au} {parts:Array (Nat×aY)} {pl:List (Nat×Nat)} {C L:List ag} (h:ef P t=some (pl,C)) (A:jX (pl.toArray[·]?) C.toArray (parts.toList.map fun p=>(p.1,ev N σ p.2))=some L.toArray) (w:ai):
 (execOp (ev N σ) ⟨dst,.build t parts,ty,pos,af,g⟩).run P w= .ok (.value<|.agg L.toArray) w:=by
 unfold ef at h;split at h
 · rename_i it fields hi hu;split at h
   · rename_i z I E hm;simp only [bH,gq] at h;obtain ⟨rfl,rfl⟩:=h;have hb:P.built t (parts.map fun p=>(p.1,ev N σ p.2)).toList=some L.toArray:=by
      simp only [Array.toArray_toList] at A;simp only [Program.built,hi,hu,E,hm,iO]; exact A
     simp [execOp,run_build w t _ _ hb]
   · cases h
 · cases h
theorem A3 {o:Op} {xs:List AV} {v:AV} (h:my P o xs=some v) (A:aK r xs=some ((fy o).map<|ev N σ)):YP P r N σ ⟨dst,o,ty,pos,af,g⟩ v:=by
 unfold my at h;split at h
 · split at h
   · cases h; exact ⟨_,et A,fun w=>mv⟩
   · cases h
 · split at h
   · cases h; exact ⟨_,et A,fun w=>aQ⟩
   · cases h
 · split at h
   · cases h;obtain ⟨h1,E,Z⟩:=kT A;exact ⟨_,E,fun w=>n6<|iA h1⟩
   · cases h;obtain ⟨h1,E,Z⟩:=kT A;exact ⟨_,Z,fun w=>lC<|iA h1⟩
   · cases h
 · split at h
   · cases h;have h1:=et A;obtain ⟨q,O,hu⟩:=gT h1;exact ⟨_,h1.trans (by rw [hu]),fun w=>nc hu⟩
   · cases h
 · split at h
   · obtain ⟨us,L,hu⟩:=zq<|et A;obtain ⟨u,U,V⟩:=nu L h;exact ⟨u,V,fun w=>xt hu<|by simpa using U⟩
   · cases h
 · split at h
   · split at h
     · rename_i n hn;cases h;obtain ⟨q,O,hu⟩:=gT<|et A;exact ⟨_,by simp only [den,O]; rfl,fun w=>(fa hn hu).trans<|by rw [iu]⟩
     · cases h
   · cases h
 · split at h
   · split at h
     · rename_i n hn;obtain ⟨us,L,hu⟩:=pD<|et A;obtain ⟨u,U,V⟩:=nu L h;exact ⟨u,V,fun w=>Gx hn hu<|by simpa using U⟩
     · split at h
       · rename_i am off ai;split at h
         · rename_i n ha;cases h;obtain ⟨us,L,hu⟩:=pD<|et A;have h1:=iz n<|jc off L;exact ⟨_,by simp only [den,h1],fun w=>GK ai ha hu J⟩
         · cases h
       · cases h
   · cases h
 · split at h
   · split at h
     · rename_i e he;replace h:=a0 h; obtain ⟨I,h⟩:=h;cases h;obtain ⟨h1,E⟩:=gv A;obtain ⟨q,cap,O,L,hu,_⟩:=gU h1;have :=cz.1 I;refine ⟨_,by simp only [den,O]; rfl,fun w=>(ia he hu (cO E) ⟨fc _,by simp; omega⟩).trans ?_⟩;simp [iu]
     · cases h
   · split at h
     · rename_i n e he;replace h:=a0 h; obtain ⟨I,h⟩:=h;cases h;obtain ⟨h1,E⟩:=gv A;obtain ⟨q,O,hu⟩:=gT h1;have :=cz.1 I;refine ⟨_,by simp only [den,O]; rfl,fun w=>(lh he hu (cO E) ⟨fc _,by simp; omega⟩).trans ?_⟩;simp [iu]
     · cases h
   · cases h
 · split at h
   · rename_i t _ _ l k i;replace h:=a0 h; obtain ⟨I,h⟩:=h;obtain ⟨h1,E⟩:=gv A;split at h
     · rename_i c L;rw [eZ] at h; cases h;obtain ⟨aP,hg⟩:=cI.1 L;refine ⟨_,J,fun w=>(eH (lk I) (fU h1) (cO E) aP).trans ?_⟩;simp [b9,L]
     · cases h
   · rename_i l k i;split at h
     · rename_i n s M;replace h:=a0 h; obtain ⟨I,h⟩:=h;have I:=cz.1 I;obtain ⟨h1,E⟩:=gv A;obtain ⟨us,L,hu⟩:=pD h1;obtain ⟨u,U,V⟩:=nu L h;have al:=cO E;unfold yD at M;split at M
       · rename_i an e hn;split at M
         · rename_i j aj;split at M
           · rename_i ha;cases M;refine ⟨u,V,fun w=> ?_⟩;have hg:us.toArray[i*j.size]? =some u:=by simpa using U
             have h0:(0:Int)≤jZ i∧jZ i < (n:Int):=⟨fc _,by simp; omega⟩
             simp only [execOp,Instr.index,hu,al,asIntOf,ik,kE,gJ,bu hn,Sem.run_ite,h0,and_self,if_true,sizeOf,c9 aj,part,Bp ha];simp [hg]
           · cases M
         · cases M
       · cases M
     · cases h
   · cases h
 · split at h
   · obtain ⟨h1,E⟩:=gv A;exact EV (fun h=>h) h h1 E
   · cases h
 · split at h
   · cases h; exact ⟨_,rfl,fun w=>no<|iA<|et A⟩
   · cases h
 · split at h
   · unfold yU at h;split at h
     · rename_i k ak;replace h:=a0 h; obtain ⟨I,h⟩:=h;rw [eZ,qB] at h; cases h;exact ⟨_,J,fun w=>FH ak I (cO<|et A) J⟩
     · cases h
   · cases h
 · exact JB h A
 · split at h
   · replace h:=a0 h; obtain ⟨I,h⟩:=h;cases h;have h1:=et A;exact ⟨_,by simp only [den,h1],fun w=>vE I J⟩
   · cases h
 · split at h
   · replace h:=a0 h; obtain ⟨I,h⟩:=h;split at h
     · rename_i z ab;split at h
       · rename_i aq ac;cases h;have Z:=lA (r:=r) 4 ac;exact ⟨_,by simp [den,aK,Z],fun w=>Cb I ab<|ny<|et A⟩
       · cases h
     · cases h
   · replace h:=a0 h; obtain ⟨I,h⟩:=h;simp only [bg] at I;obtain rfl :=bO I.2;cases h;obtain ⟨ap,h1,E⟩:=rq<|et A;exact ⟨_,by simp [den,aK,h1],fun w=>Ca I.1 E⟩
   · cases h
 · rename_i f a c;cases h;simp only [fy,lN] at A;obtain ⟨c⟩:=c;simp only at A;have h1:=iz a.length A;have E:=jc a.length A;rw [List.take_left' (by simp)] at h1;rw [List.drop_left' (by simp)] at E;exact ⟨_,by simp only [den,h1,E],fun w=>vD⟩
 · rename_i t ps;split at h
   · rename_i pl ar M;split at h
     · rename_i au ab;split at h
       · rename_i l ag;cases h;have ac:=nV (r:=r) (fun v a=>lA 4) ab;obtain ⟨h1,E⟩:=xI (f:=ev N σ) A;obtain ⟨C,ae,ah⟩:=uL ag ac h1 E;exact ⟨.agg C.toArray,by simp only [den,ae],fun w=>EW M ah w⟩
       · cases h
     · cases h
   · cases h
 · rename_i b ad ao;obtain ⟨ad⟩:=ad;exact EZ h A
 · cases h
end
end Go.Hb
namespace Go.Hb
theorem AH {r s:Rn} (h:r.le s):∀ {l:List (AV×AV)} {es:List MapEntry},fw r l es→fw s l es
 | [],[],_=>trivial
 | p::l,m::es,hm=>⟨ka h hm.1,ka h hm.2.1,AH h hm.2.2⟩
 | [],_::_,hm=>hm.elim
 | _::_,[],hm=>hm.elim
theorem OR.le {P:av} {r s:Rn} (h:r.le s) {q:Loc} {o:AO} {ob:Option Obj} (E:OR P r q o ob):OR P s q o ob:=by
 cases o with
 | cells l e fz ex=>obtain ⟨c,fr,us,h1,A,C⟩:=E; exact ⟨c,fr,us,h1,gw h A,C⟩
 | map l=>obtain ⟨es,c,h1,A,C⟩:=E; exact ⟨es,c,h1,AH h A,C⟩
 | loop st M n fr ps aQ body D=>
   obtain ⟨fn,J,L,h1,⟨x,A,C⟩,h4,h5⟩:=E;refine ⟨fn,J,L,h1,⟨x,h _ _ A,C⟩,h4,fun i hi=> ?_⟩;have I:=h5 i hi;have aP:i < J.size:=U;rw [mU aP] at I ⊢;exact ka h I
 | kd b=>exact E
 | xh l p=>exact E
structure HR (P:av) (G:Nat) (r:Rn) (T:Nat) (h:Hp) (w:ai):Prop where
 live:∀ i o,h.t.get i=some o→∃ q,r i=some q∧OR P r q o w.heap[q.ax]?
 inj:∀ i j o o' q q',h.t.get i=some o→h.t.get j=some o'→r i=some q→r j=some q'→q.ax=q'.ax→i=j
 new:∀ i,h.nx≤i→i < T→r i=none
 eG:nh G r
 base:G≤h.nx
def Fr (G:Nat) (r:Rn) (h:Hp) (k:Nat):Prop := ∃ i o q,G≤i∧h.t.get i=some o∧r i=some q∧q.ax=k
structure St (P:av) (G T:Nat) (r:Rn) (h:Hp) (w:ai) (r':Rn) (h':Hp) (w':ai):Prop where
 le:r.le r'
 hr:HR P G r' T h' w'
 nx:h.nx≤h'.nx
 md:Md (Fr G r h) w w'
 dH:∀ g,g≤G→∀ k,k < w.heap.size→Fr g r' h' k→Fr g r h k
 out:∀ i,h'.nx≤i→r' i=r i
theorem St.trans {P:av} {G T:Nat} {r r' I:Rn} {h h' E:Hp} {w w' w'':ai} (a:St P G T r h w r' h' w') (b:St P G T r' h' w' I E w''):St P G T r h w I E w'':=
 ⟨Rn.le_trans a.le b.le,b.hr,cX a.nx b.nx,Md.trans' a.md b.md (fun k A C=>a.dH G (aV _) k A C),fun g hg k A C=>a.dH g hg k A (b.dH g hg k (lQ A a.md.size) C),fun i hi=>(b.out i hi).trans<|a.out i<|cX b.nx hi⟩
theorem St.refl {P:av} {G T:Nat} {r:Rn} {h:Hp} {w:ai} (hr:HR P G r T h w):St P G T r h w r h w:=⟨Rn.le_refl r,hr,aV _,Md.refl _ _,fun _ _ _ _ h=>h,fun _ _=>rfl⟩
theorem St.drew {P:av} {G T:Nat} {r r':Rn} {h h':Hp} {w w':ai} (a:St P G T r h w.drew r' h' w'):St P G T r h w r' h' w':=⟨a.le,a.hr,a.nx,⟨a.md.os,a.md.output,a.md.size,a.md.eY⟩,a.dH,a.out⟩
section
variable {P:av} {G:Nat} {r:Rn} {T:Nat} {h:Hp} {w:ai}
theorem HR.drew (hr:HR P G r T h w):HR P G r T h w.drew:=⟨hr.live,hr.inj,hr.new,hr.eG,hr.base⟩
theorem HR.cells (hr:HR P G r T h w) {b:Nat} {l:List AV} {e fz:Nat} {ex:Ck} (hb:h.t.get b=some (.cells l e fz ex)):
 ∃ q us,r b=some q∧aK r l=some us∧(∀ j u,us[j]? =some u→az w.heap q.ax (q.sh+j)=some u)∧∃ c fr,w.heap[q.ax]? =some (.cells c e fr):=by
 obtain ⟨q,I,c,fr,us,h1,A,J,C,_⟩:=hr.live b _ hb;exact ⟨q,us,I,A,fun j u E=>by rw [eo h1]; exact C j u E,c,fr,h1⟩
def YL (P:av) (r:Rn) (N:Fm) (σ:Nat→ag) (o:aE) (w:ai) (v:AV):Prop := ∃ u,den r v=some u∧(execOp (ev N σ) o).run P w= .ok (.value u) w
end
def mD:List AV→Option (List UInt8)
 | []=>some []
 | .int .u8 (.ofNat n)::l=>match mD l with
   | some m=>cond (aF n 256) (some (eB n::m)) none
   | none=>none
 | _=>none
theorem xn {r:Rn} :∀ {l:List AV} {m:List UInt8} {us:List ag},mD l=some m→aK r l=some us→us=U8 m
 | [],m,us,h,hd=>by simp only [mD,bH] at h; subst h; rw [jD hd]; rfl
 | a::l,m,us,h,hd=>by
   unfold mD at h;split at h
   · rename_i h0; cases h0
   · rename_i n E h0;cases h0;split at h
     · rename_i I hm;replace h:=a0 h; obtain ⟨C,h⟩:=h;cases h;obtain ⟨u,J,rfl,h1,A⟩:=dE hd;obtain rfl :=cO h1;obtain rfl :=xn hm A;have :=cz.1 C;simp only [U8,eA,kG,and_true];congr 1;exact (Kf n this).symm
     · cases h
   · cases h
inductive KK | s | i (k:bC) | bs
def mq (P:av) (k:au) (a:AV):Option KK:=match a with
 | .str _=>cond (isStr P k) (some .s) none
 | .int q _=>match P.underlying k with
   | some (.int _)=>some<|.i q
   | _=>none
 | .agg _=>cond (lZ P k) (some .bs) none
 | _=>none
def dt (A:KK) (a:AV):Bool:=match A,a with
 | .s,.str _=>true
 | .i k,.int k' _=>aM (dz k)<|dz k'
 | .bs,.agg [.bool _,.str _]=>true
 | _,_=>false
def eI (A:KK):List (AV×AV)→Bool
 | []=>true
 | p::l=>cond (dt A p.1) (eI A l) false
def nL:KK→ag→Prop
 | .s=>Hm
 | .i k=>Ag k
 | .bs=>vh
where Hm (v:ag):Prop := ∃ s:List UInt8,v=str s
def fm (a b:AV):Bool:=match a,b with
 | .str l,.str m=>gB l m
 | .int _ a,.int _ b=>decide (a=b)
 | .agg [.bool a,.str l],.agg [.bool b,.str m]=>cond (a==b) (gB l m) false
 | _,_=>false
def ln (x:AV):List (AV×AV)→Option AV
 | []=>none
 | p::l=>cond (fm p.1 x) (some p.2)<|ln x l
section
variable {P:av} {r:Rn}
theorem rQ {C:KK} {a:AV} {u:ag} (h:dt C a=true) (A:den r a=some u):nL C u:=by
 unfold dt at h;split at h
 · exact ⟨_,fU A⟩
 · rename_i k O n;obtain rfl :=mi h;exact ⟨_,cO A⟩
 · obtain ⟨us,h1,rfl⟩:=pD A;obtain ⟨U,Z,rfl,E,I⟩:=dE h1;obtain ⟨V,ab,rfl,L,M⟩:=dE I;obtain rfl :=jD M;obtain rfl :=iA E;obtain rfl :=fU L;exact ⟨_,_,J⟩
 · cases h
theorem Ar {a:AV} (h:dt .s a=true):∃ l,a= .str l:=by
 cases a with
 | str l=>exact ⟨l,rfl⟩
 | _=>exact cQ (show false =true from h)
theorem Aq {k:bC} {a:AV} (h:dt (.i k) a=true):∃ n,a= .int k n:=by
 cases a with
 | int A n=>exact ⟨n,by rw [mi (show aM (dz k) (dz A)=true from h)]⟩
 | _=>exact cQ (show false =true from h)
theorem Ap {a:AV} (h:dt .bs a=true):∃ f l,a= .agg [.bool f,.str l]:=by
 unfold dt at h;split at h <;> first
  | exact ⟨_,_,rfl⟩
  | contradiction
  | (exfalso; cases h; done)
  | (rename_i A; cases A; done)
  | (rename_i A _; cases A; done)
theorem zm {f:Bool} {l:List UInt8} {u:ag} (h:den r (.agg [.bool f,.str l])=some u):u= .agg #[.bool f,str l]:=by simpa [den,aK] using h.symm
theorem str_inj {l m:List UInt8} (h:str l=str m):l=m:=by unfold str at h; cases h; rfl
theorem kn {E:KK} {a b:AV} {u v:ag} (h1:dt E a=true) (A:dt E b=true) (hu:den r a=some u) (C:den r b=some v):fm a b=true↔u=v:=by
 cases E with
 | s=>
   obtain ⟨l,rfl⟩:=Ar h1;obtain ⟨m,rfl⟩:=Ar A;rw [fU hu,fU C];simp only [fm,nC,decide_eq_true_iff];exact ⟨fun h=>by rw [h],str_inj⟩
 | i k=>
   obtain ⟨l,rfl⟩:=Aq h1;obtain ⟨m,rfl⟩:=Aq A;rw [cO hu,cO C];simp only [fm,decide_eq_true_iff];exact ⟨fun h=>by rw [h],fun h=>by cases h; rfl⟩
 | bs=>
   obtain ⟨f,l,rfl⟩:=Ap h1;obtain ⟨g,m,rfl⟩:=Ap A;rw [zm hu,zm C];simp only [fm,nC];cases hab:(f==g)
   · have :f≠g:=by simpa using hab
     exact ⟨fun h=>cQ h,fun h=>by simp at h; exact absurd h.1 this⟩
   · obtain rfl :f=g:=by simpa using hab
     simp only [cond_true,decide_eq_true_iff];exact ⟨fun h=>by rw [h],fun h=>by simp at h; exact str_inj h⟩
theorem vm {k:au} {a:AV} {C:KK} (h:mq P k a=some C):ni P k (nL C):=by
 unfold mq at h;split at h
 · replace h:=a0 h; obtain ⟨A,h⟩:=h;cases h;exact (An<|lk A).key
 · split at h
   · cases h; exact (Am<|by assumption).key
   · cases h
 · replace h:=a0 h; obtain ⟨A,h⟩:=h;cases h;exact Hx A
 · cases h
theorem rW {A:KK} :∀ {l:List (AV×AV)} {es:List MapEntry},fw r l es→eI A l=true→∀ p∈es.map (fun e=>(e.key,e.val)),nL A p.1
 | [],[],_,_,p,hp=>by simp at hp
 | q::l,m::es,hm,hk,p,hp=>by
   simp only [eI] at hk;cases h1:dt A q.1
   · rw [h1] at hk; cases hk
   · rw [h1] at hk;rcases fQ.1 hp with rfl | hp
     · exact rQ h1 hm.1
     · exact rW hm.2.2 hk p hp
 | [],_::_,hm,_,_,_=>hm.elim
 | _::_,[],hm,_,_,_=>hm.elim
theorem Al {E:KK} {x v:AV} {kx:ag} (C:dt E x=true) (A:den r x=some kx):∀ {l:List (AV×AV)} {es:List MapEntry},fw r l es→eI E l=true→ln x l=some v→∃ u,den r v=some u∧(kx,u)∈es.map (fun e=>(e.key,e.val))
 | [],_,_,_,h=>by cases h
 | q::l,[],hm,_,_=>hm.elim
 | q::l,m::es,hm,hk,h=>by
   simp only [eI] at hk;cases h1:dt E q.1
   · rw [h1] at hk; cases hk
   · rw [h1] at hk;simp only [ln] at h;cases he:fm q.1 x
     case true =>
      have he:=(kn h1 C hm.1 A).1 he;rw [(kn h1 C hm.1 A).2 he] at h;cases h;exact ⟨m.val,hm.2.1,by rw [← he]; exact kL⟩
     case false =>
      rw [he] at h;obtain ⟨u,I,J⟩:=Al C A hm.2.2 hk h;exact ⟨u,I,kK _ J⟩
theorem vi {C:KK} {x:AV} {kx:ag} (I:dt C x=true) (E:den r x=some kx):∀ {l:List (AV×AV)} {es:List MapEntry},fw r l es→eI C l=true→ln x l=none→∀ v,(kx,v)∉es.map (fun e=>(e.key,e.val))
 | [],[],_,_,_,v=>by simp
 | [],_::_,hm,_,_,_=>hm.elim
 | q::l,[],hm,_,_,_=>hm.elim
 | q::l,m::es,hm,hk,h,v=>by
   simp only [eI] at hk;cases h1:dt C q.1
   · rw [h1] at hk; cases hk
   · rw [h1] at hk;simp only [ln] at h;cases he:fm q.1 x
     case true =>rw [he] at h; cases h
     case false =>
      rw [he] at h;intro J;rcases fQ.1 J with A | A
      · cases A; have :=(kn h1 I hm.1 E).2 rfl; rw [he] at this; cases this
      · exact vi I E hm.2.2 hk h v A
end
end Go.Hb
namespace Go.Hb
def yV (P:av) (t u:au) (x:AV) (h:Hp):Option AV:=match x with
 | .sl _ _ 0 _ _=>match P.underlying t with
   | some (.slice e)=>cond (l5 P t e u) (some<|.str []) none
   | _=>none
 | .sl b o n _ _=>match h.t.get b with
   | some (.cells l e _ _)=>cond (l5 P t e u && bj (o+n) l.length) (match mD ((l.drop o).take n) with
     | some m=>some<|.str m
     | none=>none) none
   | _=>none
 | .aC=>match P.underlying t with
   | some (.slice e)=>cond (l5 P t e u) (some<|.str []) none
   | _=>none
 | .ptr b 0=>match h.t.get b with
   | some (.cells l e 0 .x)=>cond (mE P t u e l.length || mE P u t e l.length) (some<|.ptr b 0) none
   | _=>none
 | _=>none
def rR (P:av) (t:au) (x:AV) (h:Hp):Option AV:=match x with
 | .ptr b o=>match h.t.get b with
   | some (.cells l _ _ _)=>match cZ P t with
     | some none=>l[o]?
     | some (some n)=>cond (bj (o+n) l.length) (some<|.agg<|(l.drop o).take n) none
     | none=>none
   | _=>none
 | _=>none
def iG (P:av) (o:Op) (xs:List AV) (h:Hp):Option AV:=match o with
 | .load t _=>match xs with
   | [x]=>rR P t x h
   | _=>none
 | .lookup t _ _ ok=>match xs with
   | [.map b,k]=>match h.t.get b with
     | some (.map l)=>match P.underlying t with
       | some (.map C e)=>match mq P C k with
         | some A=>cond (dt A k && eI A l) (match ln k l with
           | some v=>some<|cond ok (.bU [v,.bool true]) v
           | none=>match zeroV P e with
             | some z=>match iE 4 z with
               | some z=>some<|cond ok (.bU [z,.bool false]) z
               | none=>none
             | none=>none) none
         | none=>none
       | _=>none
     | _=>none
   | _=>none
 | .convert t u _=>match xs with
   | [x]=>yV P t u x h
   | _=>none
 | .slice t _ none none none=>match xs with
   | [.ptr b 0]=>match h.t.get b with
     | some (.cells _ _ _ .x)=>match j5 P t with
       | some (n,_)=>some<|.sl b 0 n n true
       | none=>none
     | _=>none
   | _=>none
 | .call ⟨.builtin .len,_,⟨[t]⟩⟩=>match xs with
   | [.map b]=>match h.t.get b with
     | some (.map l)=>match P.underlying t with
       | some (.map _ _)=>eJ .i64 l.length
       | _=>none
     | _=>none
   | _=>none
 | _=>none
section
variable {P:av} {G:Nat} {r:Rn} {T:Nat} {h:Hp} {w:ai} {N:Fm} {σ:Nat→ag} {dst:Option Nat} {ty:au} {pos :String} {af:Array cH} {g:Option (Nat×Bool)} {x y z:aY}
theorem AI:∀ {l:List (AV×AV)} {es:List MapEntry},fw r l es→es.length=l.length
 | [],[],_=>rfl
 | p::l,m::es,hm=>by simp [AI hm.2.2]
 | [],_::_,hm=>hm.elim
 | _::_,[],hm=>hm.elim
theorem HR.map (hr:HR P G r T h w) {b:Nat} {l:List (AV×AV)} (hb:h.t.get b=some (.map l)):∃ q es c,r b=some q∧w.heap[q.ax]? =some (.map es c)∧fw r l es.toList∧(es.toList.map fun e=>e.key).Nodup:=by
 obtain ⟨q,E,es,c,h1,A,C⟩:=hr.live b _ hb;exact ⟨q,es,c,E,h1,A,C⟩
theorem Av (hr:HR P G r T h w) {t:au} {a v:AV} {v0:ag} (A:rR P t a h=some v) (O:den r a=some v0):∃ b off u,v0= .pointer (some ⟨b,off,none⟩)∧den r v=some u∧
 ((cZ P t=some none∧az w.heap b off =some u)∨∃ (n:Nat) (cs:List ag),cZ P t=some (some n)∧u= .agg cs.toArray∧cs.length=n∧∀ j,j < n→az w.heap b (off+j)=cs[j]?):=by
 unfold rR at A;split at A
 · rename_i b o;split at A
   · rename_i l _ _ _ hb;obtain ⟨q,us,Z,C,E,_⟩:=hr.cells hb;obtain ⟨q',I,rfl⟩:=gT O;rw [Z] at I; cases I;split at A
     · rename_i ha;obtain ⟨u,h1,L⟩:=nu C A;exact ⟨_,_,u,J,L,.inl ⟨ha,E _ _ h1⟩⟩
     · rename_i n ha;replace A:=a0 A; obtain ⟨M,A⟩:=A;have hle:=bQ M;cases A;have h1:=iz n<|jc o C;have hlen:=c7 C;refine ⟨_,_,.agg ((us.drop o).take n).toArray,J,by simp only [den,h1],.inr ⟨n,_,ha,J,by simp; omega,fun j V=> ?_⟩⟩;rw [il,if_pos V,iS];have aP:o+j < us.length:=U;rw [iu,bK aP];exact E _ _<|bK aP
     · cases A
   · cases A
 · cases A
theorem A2 (hr:HR P G r T h w) {o:Op} {xs:List AV} {v:AV} (A:iG P o xs h=some v) (V:aK r xs=some ((fy o).map<|ev N σ)):YL P r N σ ⟨dst,o,ty,pos,af,g⟩ w v:=by
 unfold iG at A;split at A
 · split at A
   · obtain ⟨b,off,u,O,hu,h1⟩:=Av hr A<|et V;rcases h1 with ⟨ha,E⟩ | ⟨n,cs,ha,rfl,Z,E⟩
     · exact ⟨u,hu,ld ha O E⟩
     · exact ⟨_,hu,fu ha O Z E⟩
   · cases A
 · rename_i t a b ok;split at A
   · rename_i b k;split at A
     · rename_i l hb;obtain ⟨q,es,c,L,hw,hm,hn⟩:=hr.map hb;obtain ⟨h1,M⟩:=gv V;obtain ⟨q',C,hu⟩:=ma h1;rw [L] at C; cases C;split at A
       · rename_i ay e ae;split at A
         · rename_i aw aq;replace A:=a0 A; obtain ⟨E,A⟩:=A;simp only [bg] at E;have ai:=vm aq;have ak:tS w.heap q.ax (es.toList.map fun e=>(e.key,e.val)):=⟨es,c,hw,rfl⟩
           have aj:=rW hm E.2;have hi:=rQ E.1 M;split at A
           · rename_i aA hg;cases A;obtain ⟨u,U,ab⟩:=Al E.1 M hm E.2 hg;refine ⟨if ok then .tuple #[u,.bool true] else u,?_,HS ae ai ak aj hu J hi (by rw [DU]; exact hn) ab⟩;cases ok
             · exact U
             · simp [den,aK,U]
           · rename_i hg;have ab:=vi E.1 M hm E.2 hg;split at A
             · rename_i z au;split at A
               · rename_i aB av;cases A;have U:=lA (r:=r) 4 av;refine ⟨if ok then .tuple #[z,.bool false] else z,?_,HT ae au ai ak aj hu J hi ab⟩;cases ok
                 · exact U
                 · simp [den,aK,U]
               · cases A
             · cases A
         · cases A
       · cases A
     · cases A
   · cases A
 · rename_i t u a;split at A
   · rename_i x;have O:=et V;unfold yV at A;split at A
     · split at A
       · rename_i e he;replace A:=a0 A; obtain ⟨I,A⟩:=A;cases A;obtain ⟨q',cap,C,hn,hu,_⟩:=gU O;exact ⟨_,J,l7 I hu (aU.nil _ _) J⟩
       · cases A
     · rename_i b o n c q _;split at A
       · rename_i l e _ _ hb;obtain ⟨q,us,L,Z,E,_⟩:=hr.cells hb;obtain ⟨q',cap,C,hn,hu,_⟩:=gU O;rw [L] at C; cases C;replace A:=a0 A; obtain ⟨I,A⟩:=A;simp only [bg] at I;have hle:=bQ I.2;split at A
         · rename_i m hm;cases A;have h1:=iz n<|jc o Z;have M:=xn hm h1;have hlen:=c7 Z;have ar:m.length=n:=by
            have :=congrArg oZ M;simp [j4] at this;omega
           refine ⟨_,J,l7 I.1 hu ⟨fun _=>rfl,fun j u ac=> ?_⟩ ar⟩;rw [← M,il] at ac;split at ac
           · rw [iS] at ac;show az w.heap q.ax (q.sh+o+j)=some u;rw [iu]; exact E _ _ ac
           · cases ac
         · cases A
       · cases A
     · split at A
       · rename_i e he;replace A:=a0 A; obtain ⟨I,A⟩:=A;cases A;exact ⟨_,J,l7 I (gz O) (aU.nil _ _) J⟩
       · cases A
     · rename_i b;split at A
       · rename_i l e hb;replace A:=a0 A; obtain ⟨I,A⟩:=A;cases A;obtain ⟨q,L,c,fr,us,h1,M,U,ab,am,an,ah,ao⟩:=hr.live b _ hb;obtain ⟨ad,al,rfl⟩:=ah.1 rfl;obtain ⟨q',C,hu⟩:=gT O;rw [L] at C; cases C;rw [ad] at hu;have ap:c=c.toList.toArray:=by simp
         rw [ap] at h1;refine ⟨_,O.trans (congrArg some hu),?_⟩;rcases C9.1 I with I | I
         · exact Cn I hu h1<|by simpa using al
         · exact z1 I hu h1<|by simpa using al
       · cases A
     · cases A
   · cases A
 · split at A
   · rename_i b;split at A
     · rename_i hb;split at A
       · rename_i n _ hn;cases A;obtain ⟨q,L,c,fr,us,h1,M,U,ab,am,an,ah,ao⟩:=hr.live b _ hb;obtain ⟨ad,_,_⟩:=ah.1 rfl;obtain ⟨q',C,hu⟩:=gT<|et V;rw [L] at C; cases C;rw [ad] at hu;exact ⟨_,by rw [kU L (aV _),ad],ES hn hu⟩
       · cases A
     · cases A
   · cases A
 · rename_i ag t;split at A
   · rename_i b;split at A
     · rename_i l hb;obtain ⟨q,es,c,L,hw,hm,hn⟩:=hr.map hb;split at A
       · rename_i ae;rw [eZ] at A; cases A;obtain ⟨ag⟩:=ag;have Z:=c7 V;obtain ⟨x,rfl⟩:∃ x,ag= [x]:=qM.1<|by simpa [fy] using Z
         obtain ⟨q',C,hu⟩:=ma<|et V;rw [L] at C; cases C;refine ⟨_,J,?_⟩;have :=HU (dst:=dst) (ty:=ty) (pos :=pos) (af:=af) (g:=g) (P:=P) ae rfl hu hw;rw [this];have :=AI hm;rw [kC] at this;rw [this]
       · cases A
     · cases A
   · cases A
 · cases A
end
end Go.Hb
namespace Go.Hb
def Rn.ext (r:Rn) (i:Nat) (q:Loc):Rn:=fun k=>if k=i then some q else r k
theorem Rn.fV (r:Rn) (i:Nat) (q:Loc):r.ext i q i=some q:=if_pos rfl
theorem Rn.jh (r:Rn) {i k:Nat} (q:Loc) (h:k≠i):r.ext i q k=r k:=if_neg h
theorem Rn.pU {r:Rn} {i:Nat} (q:Loc) (h:r i=none):r.le (r.ext i q):=fun k x A=>by
 by_cases e:k=i
 · subst e; rw [h] at A; cases A
 · rw [Rn.jh r q e]; exact A
theorem OR.obj {P:av} {r:Rn} {q:Loc} {o:AO} {ob:Option Obj} (h:OR P r q o ob):∃ b,ob=some b:=by
 cases o with
 | cells l e fz ex=>obtain ⟨c,fr,us,h1,_⟩:=h; exact ⟨_,h1⟩
 | map l=>obtain ⟨es,c,h1,_⟩:=h; exact ⟨_,h1⟩
 | loop st A n fr ps aQ body D=>obtain ⟨_,_,_,h1,_⟩:=h; exact ⟨_,h1⟩
 | kd b=>exact ⟨_,h⟩
 | xh l p=>exact ⟨_,h⟩
section
variable {P:av} {G:Nat} {r:Rn} {T:Nat} {h:Hp} {w:ai}
theorem nh.le {r s:Rn} (hg:nh G r) (h:r.le s):nh G s:=fun g aP=>let ⟨m,hm⟩:=hg g aP; ⟨m,h _ _ hm⟩
theorem HR.lt (hr:HR P G r T h w) {i:Nat} {o:AO} {q:Loc} (hi:h.t.get i=some o) (E:r i=some q):q.ax < w.heap.size:=by
 obtain ⟨q',A,C⟩:=hr.live i o hi;rw [E] at A; cases A;obtain ⟨b,hb⟩:=C.obj;exact (eM.1 hb).1
theorem HR.put (hr:HR P G r T h w) {i Z:Nat} {o:AO} {q:Loc} {r':Rn} {w':ai} (hle:r.le r') (hi:aF i bX=true) (V:r' i=some q) (ae:OR P r' q o w'.heap[q.ax]?)
 (hw:∀ k,k≠q.ax→k < w.heap.size→w'.heap[k]? =w.heap[k]?) (U:∀ j L q',j≠i→h.t.get j=some L→r j=some q'→q'.ax≠q.ax)
 (ad:h.nx≤Z) (ac:∀ k,Z≤k→k < T→r' k=none):HR P G r' T ⟨h.t.set i o,Z⟩ w':=by
 refine ⟨fun j L A=> ?_,fun j k M O ah aj A E h1 I he=> ?_,ac,hr.eG.le hle,cX hr.base ad⟩
 · rw [Tr.kg _ _ _ _ hi] at A;split at A
   · rename_i e; subst e; cases A; exact ⟨q,V,ae⟩
   · rename_i e;obtain ⟨q',h1,C⟩:=hr.live j L A;refine ⟨q',hle _ _ h1,?_⟩;rw [hw _ (U j L q' e A h1) (hr.lt A h1)];exact C.le hle
 · simp only [Tr.kg _ _ _ _ hi] at A E;split at A
   · rename_i e;split at E
     · rename_i J; rw [e,J]
     · rename_i J;exfalso;subst e;rw [V] at h1; cases h1;obtain ⟨q',C,_⟩:=hr.live k O E;rw [hle _ _ C] at I; cases I;exact U k O _ J E C he.symm
   · rename_i e;split at E
     · rename_i J;exfalso;subst J;rw [V] at I; cases I;obtain ⟨q',C,_⟩:=hr.live j M A;rw [hle _ _ C] at h1; cases h1;exact U j M _ e A C he
     · obtain ⟨q',C,_⟩:=hr.live j M A;obtain ⟨ag,ab,_⟩:=hr.live k O E;rw [hle _ _ C] at h1; cases h1;rw [hle _ _ ab] at I; cases I;exact hr.inj j k M O _ _ A E C ab he
theorem HR.del (hr:HR P G r T h w) {i:Nat} (hi:aF i bX=true):HR P G r T ⟨h.t.del i,h.nx⟩ w:=by
 refine ⟨fun j o A=> ?_,fun j k E I J L A C=> ?_,hr.new,hr.eG,hr.base⟩
 · rw [Tr.nJ _ _ _ hi] at A;split at A
   · cases A
   · exact hr.live j o A
 · simp only [Tr.nJ _ _ _ hi] at A C;split at A
   · cases A
   · split at C
     · cases C
     · exact hr.inj j k E I J L A C
theorem Fr.set {g:Nat} {r':Rn} {i U:Nat} {o:AO} {q:Loc} (hi:aF i bX=true) (O:r' i=some q) (hle:r.le r') (hr:HR P G r T h w) {k:Nat} (M:Fr g r' ⟨h.t.set i o,U⟩ k):k=q.ax∨Fr g r h k:=by
 obtain ⟨j,I,q',L,A,C,rfl⟩:=M;rw [Tr.kg _ _ _ _ hi] at A;split at A
 · rename_i e; subst e; rw [O] at C; cases C; exact .inl rfl
 · obtain ⟨V,E,_⟩:=hr.live j I A;have :=hle _ _ E;rw [C] at this; cases this;exact .inr ⟨j,I,_,L,A,E,J⟩
def YM (P:av) (G:Nat) (r:Rn) (T:Nat) (N:Fm) (σ:Nat→ag) (o:aE) (h:Hp) (w:ai) (v:AV) (h':Hp):Prop :=
 ∃ r' u w',den r' v=some u∧((execOp (ev N σ) o).run P w= .ok (.value u) w'∨(execOp (ev N σ) o).run P w= .ok .skip w'∧u=undef)∧St P G T r h w r' h' w'
def cS (h:Hp) (o:AO):Option Hp:=cond (aF h.nx bX) (some ⟨h.t.set h.nx o,h.nx+1⟩) none
theorem Ia (w:ai) (ob:Obj) (F:Nat→Prop):Md F w {w with heap:=w.heap.push ob} :=
 ⟨rfl,rfl,by simp,fun k A _=>by simp only [tc]; rw [if_neg U]⟩
theorem HR.cS (hr:HR P G r T h w) {o:AO} {h':Hp} (hn:cS h o=some h') (hT:h'.nx≤T) (room:Nat) {w':ai} {ob:Obj} (C:w'.heap=w.heap.push ob) (O:w'.os=w.os) (V:w'.output=w.output) (M:∀ r',r.le r'→r' h.nx=some ⟨w.heap.size,0,room⟩→OR P r' ⟨w.heap.size,0,room⟩ o (some ob)):
 ∃ r',r' h.nx=some ⟨w.heap.size,0,room⟩∧St P G T r h w r' h' w':=by
 unfold Hb.cS at hn;replace hn:=a0 hn; obtain ⟨E,hn⟩:=hn;cases hn;simp only at hT;have hle:=Rn.pU (i:=h.nx) ⟨w.heap.size,0,room⟩<|hr.new h.nx (aV _) U;have I:∀ k,k < w.heap.size→w'.heap[k]? =w.heap[k]? :=fun k A=>by rw [C,tc,if_neg U]
 refine ⟨r.ext h.nx ⟨w.heap.size,0,room⟩,Rn.fV _ _ _,hle,hr.put hle E (Rn.fV _ _ _) ?_ (fun k _ aP=>I k aP) (fun j ac q' ab hg Z=> ?_) (kM _) (fun k A L=> ?_),kM _,⟨O,V,by rw [C]; simp,fun k A _=>I k A⟩,fun g _ k A J=> ?_,fun k A=>Rn.jh _ _<|by simp only at A; omega⟩
 · rw [C]; simp only [tc,if_true]; exact M _ hle<|Rn.fV _ _ _
 · have :=hr.lt hg Z; simp only; omega
 · rw [Rn.jh _ _ U]; exact hr.new k U L
 · rcases Fr.set E (Rn.fV _ _ _) hle hr J with h1 | h1
   · simp only at h1; omega
   · exact h1
theorem vQ {r':Rn} {l:List AV} {us:List ag} {e b:Nat} (A:aK r' l=some us) (h1:dJ l=true):OR P r' ⟨b,0,0⟩ (.cells l e 0 .x) (some<|.cells us.toArray e (0,0)):=
 ⟨us.toArray,(0,0),us,rfl,A,by simp [c7 A],fun j u C=>by simpa using C,aV _,nW A h1,⟨fun _=>⟨rfl,by simp [c7 A],rfl⟩,fun _=>rfl⟩,fun s _=>by simp⟩
variable {N:Fm} {σ:Nat→ag} {dst:Option Nat} {ty:au} {pos :String} {af:Array cH} {g:Option (Nat×Bool)} {x y z:aY}
theorem YM.new (hr:HR P G r T h w) {o:aE} {l:List AV} {us:List ag} {e:Nat} {h':Hp} {v:AV} {f:Nat→ag} (hn:Hb.cS h (.cells l e 0 .x)=some h') (hT:h'.nx≤T) (A:aK r l=some us) (h1:dJ l=true)
 (I:(execOp (ev N σ) o).run P w= .ok (.value<|f w.heap.size) {w with heap:=w.heap.push<|.cells us.toArray e (0,0)}) (J:∀ r':Rn,r' h.nx=some ⟨w.heap.size,0,0⟩→den r' v=some (f w.heap.size)):YM P G r T N σ o h w v h':=by
 obtain ⟨r',C,E⟩:=hr.cS hn hT 0 (w':= {w with heap:=w.heap.push<|.cells us.toArray e (0,0)}) rfl rfl rfl fun r' hle _=>vQ (gw hle A) h1;exact ⟨r',_,_,J r' C,.inl I,E⟩
theorem HR.kr (hr:HR P G r T h w) {i:Nat} {o I:AO} {q:Loc} {w':ai} (hi:h.t.get i=some I) (hb:aF i bX=true) (A:r i=some q) (J:G≤i) (O:OR P r q o w'.heap[q.ax]?) (hm:Md (fun k=>k=q.ax) w w'):
 St P G T r h w r ⟨h.t.set i o,h.nx⟩ w':=by
 have E:∀ g,g≤G→Fr g r h q.ax:=fun g hg=>⟨i,I,q,cX hg J,hi,A,rfl⟩
 refine ⟨Rn.le_refl r,hr.put (Rn.le_refl r) hb A O (fun k C aP=>hm.eY k aP C) (fun j U V M hg h1 he=>M<|hr.inj j i _ _ _ _ hg hi h1 A he) (aV _) hr.new,aV _,hm.mono fun k _ C=>by rw [C]; exact E G (aV _),fun g hg k _ L=> ?_,fun _ _=>rfl⟩;rcases Fr.set hb A (Rn.le_refl r) hr L with h1 | h1
 · rw [h1]; exact E g hg
 · exact h1
end
end Go.Hb
namespace Go.Hb
def ml (x v:AV):List (AV×AV)→List (AV×AV)
 | []=> [(x,v)]
 | p::l=>cond (fm p.1 x) ((p.1,v)::l) (p::ml x v l)
def As:KK→Bool
 | .bs=>false
 | _=>true
def n7 (P:av) (t:au) (b:Nat) (k v:AV) (h:Hp):Option Hp:=match h.t.get b with
 | some (.map l)=>match P.underlying t with
   | some (.map C e)=>match mq P C k with
     | some A=>cond (aF b bX && (bj h.nx b==false) && (dt A k && eI A l) && (As A || (ln k l).isNone)) (some ⟨h.t.set b (.map<|ml k v l),h.nx⟩) none
     | none=>none
   | _=>none
 | _=>none
section
variable {P:av} {G:Nat} {r:Rn} {T:Nat} {h:Hp} {w:ai}
theorem AJ {x v:AV} {kx u:ag} {C:KK} (J:dt C x=true) (A:den r x=some kx) (I:den r v=some u) {m:MapEntry} (jG:m.key=kx) (E:m.val=u):∀ {l:List (AV×AV)} {es:List MapEntry},fw r l es→eI C l=true→(∀ e∈es,e.key≠kx)→fw r (ml x v l) (es++ [m])
 | [],[],_,_,_=>⟨by rw [jG]; exact A,by rw [E]; exact I,trivial⟩
 | [],_::_,hm,_,_=>hm.elim
 | _::_,[],hm,_,_=>hm.elim
 | q::l,e::es,hm,hk,hn=>by
   simp only [eI] at hk;cases h1:dt C q.1
   · rw [h1] at hk; cases hk
   · rw [h1] at hk;have he:fm q.1 x=false :=by
      cases hq:fm q.1 x
      · rfl
      · exact absurd ((kn h1 J hm.1 A).1 hq)<|hn e kL
     simp only [ml,he,cond_false];exact ⟨hm.1,hm.2.1,AJ J A I jG E hm.2.2 hk fun e he=>hn e<|kK _ he⟩
theorem AK {x v:AV} {kx u:ag} {C:KK} (I:dt C x=true) (E:den r x=some kx) (L:den r v=some u) {f:MapEntry→MapEntry} (J:∀ e,e.key=kx→(f e).key=kx∧(f e).val=u):∀ {l:List (AV×AV)} {es:List MapEntry} {j:Nat} {A:MapEntry},fw r l es→eI C l=true→
 es[j]? =some A→A.key=kx→(es.map fun e=>e.key).Nodup→fw r (ml x v l) (es.modify j f)
 | [],[],j,A,_,_,hj,_,_=>by simp at hj
 | [],_::_,_,_,hm,_,_,_,_=>hm.elim
 | _::_,[],_,_,hm,_,_,_,_=>hm.elim
 | q::l,e::es,0,A,hm,hk,hj,hk',_=>by
   simp only [eI] at hk;cases h1:dt C q.1
   · rw [h1] at hk; cases hk
   · simp only [gL,bH] at hj;subst hj;simp only [ml,(kn h1 I hm.1 E).2 hk',cond_true];obtain ⟨M,O⟩:=J e hk';exact ⟨by show den r q.1=some (f e).key; rw [hm.1,M,hk'],by show den r v=some (f e).val; rw [O]; exact L,hm.2.2⟩
 | q::l,e::es,j+1,A,hm,hk,hj,hk',hn=>by
   simp only [eI] at hk;cases h1:dt C q.1
   · rw [h1] at hk; cases hk
   · rw [h1] at hk;simp only [gK] at hj;simp only [eA,DX] at hn;have he:fm q.1 x=false :=by
      cases hq:fm q.1 x
      · rfl
      · have :=(kn h1 I hm.1 E).1 hq;exact absurd (o7.2 ⟨A,gn hj,hk'.trans this.symm⟩) hn.1
     simp only [ml,he,cond_false];exact ⟨hm.1,hm.2.1,AK I E L J hm.2.2 hk hj hk' hn.2⟩
theorem Hy {k:au} {a:AV} {A:KK} (h:mq P k a=some A) (E:As A=true):∀ w v,nL A v→(qH v v).run P w= .ok v w:=by
 unfold mq at h;split at h
 · replace h:=a0 h; obtain ⟨C,h⟩:=h;cases h;exact (An<|lk C).stays
 · split at h
   · cases h; exact (Am<|by assumption).stays
   · cases h
 · replace h:=a0 h; obtain ⟨C,h⟩:=h;cases h;cases E
 · cases h
theorem Bb (hr:HR P G r T h w) {t:au} {b:Nat} {k v:AV} {h':Hp} {q:Loc} {kx u:ag} (V:G≤b) (hp:n7 P t b k v h=some h') (U:r b=some q) (E:den r k=some kx) (ak:den r v=some u):
 ∃ w',(xR t (.map<|some q.ax) kx u).run P w= .ok () w'∧St P G T r h w r h' w':=by
 unfold n7 at hp;split at hp
 · rename_i l hb;split at hp
   · rename_i av e aj;split at hp
     · rename_i aq ae;replace hp:=a0 hp; obtain ⟨ac,hp⟩:=hp;simp only [bg] at ac;obtain ⟨⟨⟨ab,_⟩,hka,hkl⟩,hstay⟩:=ac;cases hp;obtain ⟨q',es,c,ai,hw,hm,hn⟩:=hr.map hb;rw [U] at ai; cases ai;have L:=vm ae;have hi:=rQ hka E;have am:∀ e∈es.toList,nL aq e.key:=rD rfl (rW hm hkl);have aP:=(eM.1 hw).1;rcases L.find w kx es.toList hi am with ⟨h1,ah⟩ | ⟨j,M,h1,C,A⟩
       · refine ⟨{w with heap:=w.heap.setIfInBounds q.ax<|.map (es.push {key:=kx,val:=u,born:=c})<|c+1},by simp [xR,bu aj,run_getObj_map hw,L.check _ w kx hi,h1,setObj,kD,hw],?_⟩;refine hr.kr hb ab U V ?_ ⟨J,J,by simp,fun i _ O=>by simp only; rw [xK (fun e=>O e.symm)]⟩;refine ⟨_,_,by simp only; rw [xL aP],?_,?_⟩
         · simp only [C5];exact AJ hka E ak J J hm hkl ah
         · simp only [C5,lN,eA,List.map_nil];rw [List.nodup_append];refine ⟨hn,by simp,?_⟩;intro a ha ar Z al;simp at Z;subst al Z;obtain ⟨p,hp,ap⟩:=o7.1 ha;exact ah p hp ap
       · have ao:(qH kx kx).run P w= .ok kx w:=by
          rcases C9.1 hstay with I | I
          · exact Hy ae I w kx hi
          · exfalso;cases hg:ln k l with
            | none=>exact vi hka E hm hkl hg M.val<|by rw [← A]; exact o7.2 ⟨M,gn C,rfl⟩
            | some v=>rw [hg] at I; cases I
         have an:es[j]? =some M:=by simpa using C
         refine ⟨{w with heap:=w.heap.setIfInBounds q.ax<|.map (es.modify j fun e=> {e with key:=kx,val:=u}) c},?_,?_⟩
         · simp [xR,bu aj,run_getObj_map hw,L.check _ w kx hi,h1,an,A,ao,setObj,kD,hw]
         · refine hr.kr hb ab U V ?_ ⟨J,J,by simp,fun i _ O=>by simp only; rw [xK (fun e=>O e.symm)]⟩;refine ⟨_,_,by simp only; rw [xL aP],?_,?_⟩
           · rw [C4];exact AK hka E ak (fun e _=>⟨J,J⟩) hm hkl C A hn
           · rw [C4];have :(es.toList.modify j fun e=> {e with key:=kx,val:=u}).map (fun e=>e.key)=es.toList.map fun e=>e.key:=by
              apply tz;intro i;simp only [fG,List.getElem?_modify];by_cases ad:j=i
              · subst ad; rw [C]; simp [A]
              · simp [ad]
             rw [this]; exact hn
     · cases hp
   · cases hp
 · cases hp
end
def jO (A:List AV):Nat→List AV
 | 0=> []
 | n+1=>A++jO A n
def qs (P:av) (G:Nat) (t:au) (b o:Nat) (v:AV) (h:Hp):Option Hp:=match h.t.get b with
 | some (.cells l e fz ex)=>match cr P t with
   | some n=>cond ((aM (j7 v).length n && bj (o+n) l.length) && (bj fz o && (dJ (j7 v) && (bj G b && aF b bX)))) (some ⟨h.t.set b (.cells (l.take o++(j7 v++l.drop (o+n))) e fz ex),h.nx⟩) none
   | none=>none
 | _=>none
def oE (P:av) (t:au):Option (Nat×Nat×Nat×List AV):=match P.underlying t with
 | some (.slice e)=>match P.info? e with
   | some i=>match i.zero with
     | some z=>match jL (iE 4) z.cells.toList with
       | some A=>cond (aM A.length i.size && (aF 0 i.size && dJ A)) (some (e,i.size,i.bytes,A)) none
       | none=>none
     | none=>none
   | none=>none
 | _=>none
def nY (P:av) (G:Nat) (o:Op) (xs:List AV) (h:Hp):Option (AV×Hp):=match o with
 | .alloc e=>match zeroOf P e with
   | some (some A)=>match jL (iE 4) A with
     | some l=>cond (dJ l) (match cS h (.cells l e 0 .x) with
       | some h'=>some (.ptr h.nx 0,h')
       | none=>none) none
     | none=>none
   | _=>none
 | .box e _=>match xs with
   | [x]=>cond (dJ<|j7 x) (match cS h (.cells (j7 x) e 0 .x) with
     | some h'=>some (.ptr h.nx 0,h')
     | none=>none) none
   | _=>none
 | .makeMap _ none=>match cS h (.map []) with
   | some h'=>some (.map h.nx,h')
   | none=>none
 | .buildSlice t n ⟨ps⟩=>match oE P t with
   | some (e,s,_,A)=>cond (bj (n*s) 16777216) (match me (fun i=>some (i*s,s)) (jO A n) (kB ps xs) with
     | some l=>cond (dJ l) (match cS h (.cells l e 0 .x) with
       | some h'=>some (.sl h.nx 0 n n true,h')
       | none=>none) none
     | none=>none) none
   | none=>none
 | .makeSlice t _ _=>match xs with
   | [.int .i64 (.ofNat n),.int .i64 (.ofNat c)]=>match oE P t with
     | some (e,s,by_,A)=>cond (bj n c && (bj (by_*c) 281474976710656 && aF c 9223372036854775808)) (match cS h (.cells (jO A c) e 0 .x) with
       | some h'=>some (.sl h.nx 0 n c true,h')
       | none=>none) none
     | none=>none
   | _=>none
 | .store t _ _=>match xs with
   | [.ptr b o,v]=>match qs P G t b o v h with
     | some h'=>some (.bU [],h')
     | none=>none
   | _=>none
 | .mapUpdate t _ _ _=>match xs with
   | [.map b,k,v]=>cond (bj G b) (match n7 P t b k v h with
     | some h'=>some (.bU [],h')
     | none=>none) none
   | _=>none
 | .insert t _ _ _=>match xs with
   | [.map b,k,v]=>cond (bj G b) (match n7 P t b k v h with
     | some h'=>some (.bU [],h')
     | none=>none) none
   | _=>none
 | _=>none
section
variable {P:av} {G:Nat} {r:Rn} {T:Nat} {h:Hp} {w:ai} {N:Fm} {σ:Nat→ag} {dst:Option Nat} {ty:au} {pos :String} {af:Array cH} {g:Option (Nat×Bool)} {x y z:aY}
theorem gS (r:Rn):den r (.bU [])=some undef:=by simp [den,aK]; rfl
theorem sr {r:Rn} {A:List AV} {Z:List ag} (h:aK r A=some Z):∀ n,aK r (jO A n)=some ((cJ n Z).flatten)
 | 0=>by simp [jO,aK]
 | n+1=>by simp only [jO,D3,oV]; exact eO h<|sr h n
theorem A0:∀ {l m:List AV},dJ l=true→dJ m=true→dJ (l++m)=true
 | [],m,_,h=>h
 | a::l,m,h,h'=>by
   simp only [dJ,List.cons_append] at h ⊢;cases ha:r9 a
   · rw [ha] at h; cases h
   · rw [ha] at h; exact A0 h h'
theorem vY {A:List AV} (h:dJ A=true):∀ n,dJ (jO A n)=true
 | 0=>rfl
 | n+1=>A0 h<|vY h n
theorem vV (Z:Array ag) (A:0 < Z.size):∀ n,(oN<|n*Z.size).map (Z[· % Z.size]!)=((cJ n Z.toList).flatten).toArray:=by
 intro n;apply qE.1;simp only [iO,Array.toList_range]
 induction n with
 | zero=>simp
 | succ n ih=>
   rw [Nat.succ_mul,tK,List.range_add,lN,D3,oV,DU];congr 1
   · apply tz;intro i;simp only [fG];by_cases hi:i < Z.size
     · rw [List.getElem?_range hi,eV,Nat.mod_eq_of_lt hi];rw [getElem!_pos Z i hi];simp [hi]
     · rw [iT (by simp; omega),iT (by simp; omega)]; rfl
   · rw [← ih];apply List.map_congr_left;intro i _;simp
theorem sI {r:Rn} {t e s E:Nat} {C:List AV} (h:oE P t=some (e,s,E,C)):∃ i z,P.underlying t=some (.slice e)∧P.info? e=some i∧i.zero=some z∧i.size=s∧i.bytes=E∧z.cells.size=s∧0 < s∧aK r C=some z.cells.toList∧dJ C=true∧C.length=s:=by
 unfold oE at h;split at h
 · rename_i U hu;split at h
   · rename_i i hi;split at h
     · rename_i z M;split at h
       · rename_i V O;replace h:=a0 h; obtain ⟨A,h⟩:=h;simp only [bg] at A;cases h;have I:=nV (r:=r) (fun v a=>lA 4) O;have L:=bO A.1;have :=c7 I;exact ⟨i,z,hu,hi,M,J,J,by rw [← kC]; omega,cz.1 A.2.1,I,A.2.2,L⟩
       · cases h
     · cases h
   · cases h
 · cases h
theorem JT (hr:HR P G r T h w) {t b o:Nat} {v:AV} {h':Hp} {u:ag} (A:qs P G t b o v h=some h') (av:den r v=some u) (aw:den r (.ptr b o)=some (ev N σ x)) (ay:ev N σ y=u):YM P G r T N σ ⟨dst,.store t x y,ty,pos,af,g⟩ h w (.bU []) h':=by
 unfold qs at A;split at A
 · rename_i l e fz ex hb;split at A
   · rename_i n hn;replace A:=a0 A; obtain ⟨ae,A⟩:=A;simp only [bg] at ae;obtain ⟨⟨c1,c2⟩,c3,c4,I,c6⟩:=ae;have c1:=bO c1;have c2:=bQ c2;have c3:=bQ c3;have I:=bQ I;cases A;obtain ⟨q,ai,c,fr,us,h1,M,aA,ab,an,ac,ad,ao⟩:=hr.live b _ hb;obtain ⟨q',aj,hu⟩:=gT aw;rw [ai] at aj; cases aj;have V:=uh av;have ar:=c7 V;have aD:=c7 M;have ah:=nW V c4;have hlen:u.cells.toList.length=n:=by rw [ar,c1]
     have bh:=run_storeCells_atF P q.ax (q.sh+o) e fr u.cells.toList 0 c w h1 U U ah;unfold cr at hn;simp only [fg] at hn;obtain ⟨i,hi,A⟩:=hn;have au:u.cells.size=n:=by rw [← kC,hlen]
     obtain ⟨L,O⟩:∃ L,c.toList.take (q.sh+o+0)++u.cells.toList++c.toList.drop (q.sh+o+0 +u.cells.toList.length)=L:=⟨_,rfl⟩
     rw [O] at bh;have aB:L.length=c.size:=by rw [← O]; simp; omega
     have ap:∀ k,L[k]? =if k < q.sh+o then c[k]? else if k < q.sh+o+n then u.cells.toList[k - (q.sh+o)]? else c[k]? :=by
      intro k;rw [← O,jy];by_cases E:k < q.sh+o
      · rw [if_pos E,gk,ey (by simp; omega),il,if_pos E]; simp
      · rw [if_neg E];by_cases Z:k < q.sh+o+n
        · rw [if_pos Z,ey (by simp; omega),ez (by simp; omega)];congr 1; simp; omega
        · rw [if_neg Z,ez (by simp; omega),iS];simp only [bL,cN,kC,oM];congr 1; omega
     refine ⟨r,undef,w.setRow q.ax L.toArray,gS r,.inr ⟨?_,J⟩,?_⟩
     · simp [execOp,Instr.storeAt,hu,ay,Instr.sureAddr,storeVar,sizeOf,c9 hi,A,au,bh]
     · refine hr.kr hb c6 ai I ?_ ⟨J,J,by simp,fun k _ aq=>setRow_other w q.ax k _ aq⟩;rw [setRow_heap w q.ax _ _ e _ h1];refine ⟨L.toArray,fr,us.take o++(u.cells.toList++us.drop (o+n)),J,eO (iz o M) (eO V<|jc (o+n) M),?_,fun j a C=> ?_,an,?_,⟨fun hex=> ?_,ad.2⟩,fun s A=> ?_⟩
       · simp only [bL,cN,gM,eh]; omega
       · rw [kJ,ap];by_cases E:j < o
         · rw [ey (by simp; omega),il,if_pos E] at C;rw [if_pos U]; exact ab _ _ C
         · rw [ez (by simp; omega)] at C;rw [if_neg U];have ak:(us.take o).length=o:=by simp; omega
           rw [ak] at C;by_cases Z:j < o+n
           · rw [ey U] at C;rw [if_pos U,show q.sh+j - (q.sh+o)=j - o from by omega]; exact C
           · rw [ez U,iS,hlen] at C;rw [if_neg U];refine ab j a ?_;rw [← C]; congr 1; omega
       · intro a ha;rcases ff.1 ha with ha | ha
         · exact ac a<|tI ha
         · rcases ff.1 ha with ha | ha
           · exact ah a ha
           · exact ac a<|tH ha
       · obtain ⟨al,az,am⟩:=ad.1 hex;refine ⟨al,?_,am⟩;simp only [bL,cN,gM,eh]; omega
       · have :=ao s A;simp only [eh]; omega
   · cases A
 · cases A
end
end Go.Hb
namespace Go.Hb
section
variable {P:av} {G:Nat} {r:Rn} {T:Nat} {h:Hp} {w:ai} {N:Fm} {σ:Nat→ag} {dst:Option Nat} {ty:au} {pos :String} {af:Array cH} {g:Option (Nat×Bool)} {x y z:aY}
theorem zk {r':Rn} {i b room n c:Nat} (hi:r' i=some ⟨b,0,room⟩) (hn:n≤c):den r' (.sl i 0 n c true)=some (.slice (some ⟨b,0,none⟩) n c):=by
 rw [kU hi hn]
theorem GB {t e s n:Nat} {A L:List AV} {Z:ag} {ps:List (Nat×aY)} {xs:List AV} (ac:0 < s) (ab:Z.cells.size=s) (V:aK r A=some Z.cells.toList) (M:me (fun i=>some (i*s,s)) (jO A n) (kB ps xs)=some L) (J:aK r xs=some ((ps.map (·.2)).map<|ev N σ)):
 ∃ C,aK r L=some C∧jX (fun i=>some (i*s,s)) ((oN<|n*s).map (Z.cells[· % Z.cells.size]!)) (ps.map fun p=>(p.1,ev N σ p.2))=some C.toArray:=by
 obtain ⟨h1,E⟩:=xI (f:=ev N σ) J;obtain ⟨C,I,O⟩:=uL M (sr V n) h1 E;refine ⟨C,I,?_⟩;rw [← O];congr 1;have :=vV Z.cells U n;rw [ab] at this ⊢;exact this
theorem Iz (hr:HR P G r T h w) {o:Op} {xs:List AV} {v:AV} {h':Hp} (A:nY P G o xs h=some (v,h')) (hT:h'.nx≤T) (V:aK r xs=some ((fy o).map<|ev N σ)):YM P G r T N σ ⟨dst,o,ty,pos,af,g⟩ h w v h':=by
 unfold nY at A;split at A
 · rename_i e;split at A
   · rename_i ao O;split at A
     · rename_i l aw;replace A:=a0 A; obtain ⟨E,A⟩:=A;split at A
       · rename_i L hn;cases A;have au:=nV (r:=r) (fun v a=>lA 4) aw;unfold zeroOf at O;simp only [fg] at O;obtain ⟨i,hi,zv,aE,rfl⟩:=O;refine YM.new hr (f:=fun b=> .pointer<|some ⟨b,0,none⟩) hn hT au E ?_ fun r' I=>by simp only [den,I]
         simp [execOp,tk,zeroValue,c9 hi,aE,newVar,newRow]
       · cases A
     · cases A
   · cases A
 · rename_i e _;split at A
   · rename_i x;replace A:=a0 A; obtain ⟨E,A⟩:=A;split at A
     · rename_i L hn;cases A;have h1:=et V;refine YM.new hr (f:=fun b=> .pointer<|some ⟨b,0,none⟩) hn hT (uh h1) E ?_ fun r' I=>by simp only [den,I]
       simp [execOp,Instr.box,newVar,newRow]
     · cases A
   · cases A
 · split at A
   · rename_i L hn;cases A;obtain ⟨r',ay,I⟩:=hr.cS hn hT 0 (w':= {w with heap:=w.heap.push<|.map #[] 0}) rfl rfl rfl fun r' hle _=>⟨#[],0,rfl,trivial,by simp⟩
     refine ⟨r',.map (some w.heap.size),_,by simp only [den,ay],.inl ?_,I⟩;simp [execOp,Instr.makeMap]
   · cases A
 · rename_i t n ps;split at A
   · rename_i e s ap ao O;replace A:=a0 A; obtain ⟨E,A⟩:=A;have E:=bQ E;split at A
     · rename_i l av;replace A:=a0 A; obtain ⟨h1,A⟩:=A;split at A
       · rename_i L hn;cases A;obtain ⟨i,zv,hu,hi,ah,rfl,rfl,Z,al,ai,an,aD⟩:=sI (r:=r) O;obtain ⟨C,ar,ac⟩:=GB (N:=N) (σ:=σ) (t:=t) (e:=e) al Z ai av V;refine YM.new hr (f:=fun b=> .slice (some ⟨b,0,none⟩) n n) hn hT ar h1 ?_ fun r' I=>zk I<|aV _;have aF:(ps.toArray.map fun p=>(p.1,ev N σ p.2)).toList=ps.map fun p=>(p.1,ev N σ p.2):=by simp
         by_cases ak:n*i.size=0
         · have ax:n=0:=by rcases Nat.mul_eq_zero.1 ak with h | h; exact h; omega
           subst ax;have aj:∀ f:Nat→ag,Array.map f (oN 0)= #[]:=fun f=>Array.eq_empty_of_size_eq_zero<|by simp
           rw [pb,aj] at ac;simp [execOp,tl,bu hu,sizeOf,c9 hi,aj,ac,newRow]
         · simp only [execOp,tl,ik,bu hu,gJ,sizeOf,c9 hi,kE,Sem.run_ite,zeroValue,ah,iO,ac];rw [if_neg (by rw [show (2:Nat) ^ 24=16777216 from rfl]; omega),if_neg ak];simp [newRow]
       · cases A
     · cases A
   · cases A
 · rename_i t _ _;split at A
   · rename_i n c;split at A
     · rename_i e s ap ao O;replace A:=a0 A; obtain ⟨E,A⟩:=A;simp only [bg] at E;have c1:=bQ E.1;have c2:=bQ E.2.1;have c3:=cz.1 E.2.2;split at A
       · rename_i L hn;cases A;obtain ⟨i,zv,hu,hi,ah,rfl,rfl,Z,al,ai,an,aD⟩:=sI (r:=r) O;have am:=run_make (P:=P) w t e i zv hu hi ah .i64 .i64 n c U U (by rw [← Int.natCast_mul]; omega) U;have aq:madeCells zv.cells (c*i.size)=((cJ c zv.cells.toList).flatten).toArray:=by
          have :=vV zv.cells U c;rw [Z] at this;rw [← this]; unfold madeCells; rw [Z]
         rw [j0,j0,aq] at am;refine YM.new hr (f:=fun b=> .slice (some ⟨b,0,none⟩) n c) hn hT (sr ai c) (vY an c) ?_ fun r' I=>zk I c1;obtain ⟨h1,M⟩:=gv V;have aA:=cO h1;have aB:=cO M;simp [execOp,aA,aB,am]
       · cases A
     · cases A
   · cases A
 · split at A
   · split at A
     · rename_i L az;cases A;obtain ⟨h1,M⟩:=gv V;exact JT hr az M h1 J
     · cases A
   · cases A
 · split at A
   · replace A:=a0 A; obtain ⟨E,A⟩:=A;split at A
     · rename_i L hp;cases A;obtain ⟨h1,M,ab⟩:=kT V;obtain ⟨q,ad,hu⟩:=ma h1;obtain ⟨w',ae,I⟩:=Bb hr (bQ E) hp ad M ab;exact ⟨r,undef,w',gS r,.inr ⟨by simp [execOp,hu,ae],J⟩,I⟩
     · cases A
   · cases A
 · split at A
   · replace A:=a0 A; obtain ⟨E,A⟩:=A;split at A
     · rename_i L hp;cases A;obtain ⟨h1,M,ab⟩:=kT V;obtain ⟨q,ad,hu⟩:=ma h1;obtain ⟨w',ae,I⟩:=Bb hr (bQ E) hp ad M ab;exact ⟨r,undef,w',gS r,.inr ⟨by simp [execOp,hu,ae],J⟩,I⟩
     · cases A
   · cases A
 · cases A
end
end Go.Hb
namespace Go.Hb
def sS:List UInt8→List AV
 | []=> []
 | c::l=> .int .u8 (jZ c.toNat)::sS l
def pC (o:Nat):Ck→Ck
 | .a=> .a
 | _=>match o with
   | 0=> .z
   | _=> .a
theorem yR {o:Nat} {e:Ck} :pC o e≠.x:=by
 cases e <;> simp only [pC] <;> first | (intro h; cases h; done) | (split <;> intro h <;> cases h)
theorem Fj {o:Nat} {e:Ck} (h:pC o e≠.a):e≠.a∧o=0:=by
 cases e with
 | a=>exact absurd rfl h
 | _=>
   refine ⟨fun h=>(by cases h),?_⟩;simp only [pC] at h;split at h
   · rfl
   · exact absurd J h
def xd (P:av) (s:Nat) (A:au) (x:AV) (h:Hp):Option (Nat×List AV):=match x with
 | .sl b o n _ _=>match h.t.get b with
   | some (.cells l _ _ _)=>cond (jl P A && bj (o+n*s) l.length) (some (n,(l.drop o).take (n*s))) none
   | _=>none
 | .aC=>cond (jl P A) (some (0,[])) none
 | .str l=>cond (isStr P A && aM s 1) (some (l.length,sS l)) none
 | _=>none
def tZ (P:av) (G:Nat) (t E:au) (C I:AV) (h:Hp):Option (AV×Hp):=match oE P t with
 | some (e,s,by_,_)=>match xd P s E I h with
   | some (m,news)=>cond (dJ news) (match C with
     | .aC=>match m with
       | 0=>some (.aC,h)
       | _=>cond (bj (m*by_) 140737488355328 && bj m 1000000000) (match cS h (.cells news e 0 .z) with
         | some h'=>some (.sl h.nx 0 m 0 false,h')
         | none=>none) none
     | .sl b o n c x=>match m with
       | 0=>some (.sl b o n c x,h)
       | _=>match h.t.get b with
         | some (.cells l A fz ex)=>cond ((aM e A && (bj ((n+m)*by_) 140737488355328 && bj (n+m) 1000000000)) && (bj (o+n*s) l.length && (bj G b && aF b bX)))
           (cond x (cond (bj (n+m) c)
            (cond (bj (o+(n+m)*s) l.length && bj fz (o+n*s)) (some (.sl b o (n+m) c true,⟨h.t.set b (.cells (l.take (o+n*s)++(news++l.drop (o+(n+m)*s))) e fz ex),h.nx⟩)) none)
            (match cS h (.cells ((l.drop o).take (n*s)++news) e 0 .z) with
             | some h'=>some (.sl h.nx 0 (n+m) 0 false,h')
             | none=>none))
            (cond (aM o (c*s) && bj fz (o+n*s)) (match cS ⟨h.t.del b,h.nx⟩ (.cells ((l.drop o).take (n*s)++news) e (fz - o)<|pC o ex) with
             | some h'=>some (.sl h.nx 0 (n+m) 0 false,h')
             | none=>none) none)) none
         | _=>none
     | _=>none) none
   | none=>none
 | none=>none
section
variable {P:av} {G:Nat} {r:Rn} {T:Nat} {h:Hp} {w:ai} {N:Fm} {σ:Nat→ag} {dst:Option Nat} {ty:au} {pos :String} {af:Array cH} {g:Option (Nat×Bool)} {x y z:aY}
theorem Ct:∀ l:List UInt8,aK r (sS l)=some (U8 l)
 | []=>by simp [sS,aK,U8]
 | c::l=>dB rfl (Ct l)
theorem JF (hr:HR P G r T h w) {s m:Nat} {M:au} {x:AV} {news:List AV} {u:ag} (he:xd P s M x h=some (m,news)) (h1:dJ news=true) (hu:den r x=some u):∃ N,aK r news=some N∧Src P s M u m N w:=by
 unfold xd at he;split at he
 · rename_i b o n Z ab;split at he
   · rename_i l _ _ _ hb;replace he:=a0 he; obtain ⟨A,he⟩:=he;simp only [bg] at A;cases he;obtain ⟨q,us,V,J,U,_⟩:=hr.cells hb;obtain ⟨q',cap,L,hn,rfl,_⟩:=gU hu;rw [V] at L; cases L;obtain ⟨O,E⟩:=pS A.1;have hle:=bQ A.2;have hlen:=c7 J;have I:=iz (m*s)<|jc o J;refine ⟨_,I,Src.ofSlice w E _ _ _ _ (by simp; omega) (fun j u C=> ?_)<|nW I h1⟩;rw [dY,gR,iu];rw [il] at C;split at C
     · rw [iS] at C; exact U _ _ C
     · cases C
   · cases he
 · replace he:=a0 he; obtain ⟨A,he⟩:=he;cases he;obtain rfl :=gz hu;obtain ⟨O,E⟩:=pS A;exact ⟨[],by simp [aK],Src.ofNil w E 0⟩
 · replace he:=a0 he; obtain ⟨A,he⟩:=he;simp only [bg] at A;cases he;obtain rfl :=fU hu;obtain rfl :=bO A.2;exact ⟨_,Ct _,Src.ofString w (lk A.1) ⟨⟨_⟩⟩⟩
 · cases he
theorem yz {t J ty e:au} {i:TypeInfo} (I:P.underlying t=some (.slice e)) (hi:P.info? e=some i) {x:ag} {news:List ag} (A:Src P i.size J x 0 news w) {base:Option Addr} {n c:Nat} (hn:n≤c):
 (jv #[t,J] ty #[.slice base n c,x]).run P w= .ok (.slice base n c) w:=by
 have M:news= []:=kH<|by rw [A.newsLen]; simp
 subst M;have E:=A.cells;cases base with
 | none=>rcases A.kind with ⟨L,C⟩ | C <;> simp [jv,run_underlying I,run_underlying C,sizeOf,typeInfo,hi,A.len,hn,E]
 | some a=>rcases A.kind with ⟨L,C⟩ | C <;> simp [jv,run_underlying I,run_underlying C,sizeOf,typeInfo,hi,A.len,hn,E,storeCells]
theorem yA {t E ty e:au} {i:TypeInfo} (I:P.underlying t=some (.slice e)) (hi:P.info? e=some i) {x:ag} {m:Nat} {news:List ag} (A:Src P i.size E x m news w) {b off n c:Nat} {cur:Array ag} {fz:Nat×Nat} (hn:n+m≤c)
 (hb:w.heap[b]? =some (.cells cur e fz)) (L:fz.2≤off+n*i.size) (M:off+n*i.size+news.length≤cur.size):
 (jv #[t,E] ty #[.slice (some ⟨b,off,none⟩) n c,x]).run P w= .ok (.slice (some ⟨b,off,none⟩) (n+m) c) (w.setRow b (cur.toList.take (off+n*i.size)++news++cur.toList.drop (off+n*i.size+news.length)).toArray):=by
 have bh:=run_storeCells_atF P b (off+n*i.size) e fz news 0 cur w hb U U A.one;simp only [jy] at bh;rcases A.kind with ⟨J,C⟩ | C <;> simp [jv,run_underlying I,run_underlying C,sizeOf,typeInfo,hi,A.len,hn,A.cells,Addr.add_lit,bh]
theorem wu (L X:List ag) (a:Nat) (h:a+X.length≤L.length) (k:Nat):(L.take a++X++L.drop (a+X.length))[k]? =if k < a then L[k]? else if k < a+X.length then X[k - a]? else L[k]? :=by
 by_cases A:k < a
 · rw [if_pos A,gk,ey (by simp; omega),il,if_pos A]
 · rw [if_neg A];by_cases C:k < a+X.length
   · rw [if_pos C,ey (by simp; omega),ez (by simp; omega)];congr 1; simp; omega
   · rw [if_neg C,ez (by simp; omega),iS];simp only [bL,cN];congr 1; omega
theorem yy {t A ty e:au} {i:TypeInfo} {z:ag} (J:P.underlying t=some (.slice e)) (hi:P.info? e=some i) (L:i.zero=some z) (M:z.cells.size=i.size) (Z:0 < i.size) {x:ag} {m:Nat} {olds news:List ag} (E:Src P i.size A x m news w) {base:Option Addr} {n c:Nat}
 (I:olds.length=n*i.size) (hold:(tj i.size n<|.slice base n c).run P w.drew= .ok olds.toArray w.drew) (V:∀ u∈olds,u.oneCell'=true) (hg:c < n+m) (O:n+m≤1000000000) (hb:(n+m)*i.bytes≤140737488355328):
 ∃ (cap:Nat) (cs:Array ag),n+m≤cap∧cap*i.size=cs.size∧(∀ (j:Nat) (u:ag),(olds++news)[j]? =some u→cs[j]? =some u)∧(jv #[t,A] ty #[.slice base n c,x]).run P w= .ok (.slice (some ⟨w.heap.size,0,none⟩) (n+m) cap) {w.drew with heap:=w.heap.push<|.cells cs e (0,0)} :=by
 have hr:=run_append_grow_src (P:=P) w t A ty e i z J hi L base n c olds hold x m news E hg U<|growslice_fits hg hb;refine ⟨_,_,grownCap_ge w (n+m) c e,?_,?_,hr⟩
 · have :=grownCap_ge w (n+m) c e;simp only [Array.size_append,eh,size_zeroCells,M,bL,I,E.newsLen,← lP];congr 1; omega
 · intro j u C;rw [Array.getElem?_append_left (by have :=(cI.1 C).1; simpa using this)];simpa using C
theorem GC (hr:HR P G r T h w) {b o n c s:Nat} {x:Bool} {l:List AV} {e fz:Nat} {ex:Ck} {us:List ag} {q:Loc} (hb:h.t.get b=some (.cells l e fz ex)) (L:r b=some q) (C:aK r l=some us) (hle:o+n*s≤l.length) (cap:Nat):
 (tj s n<|.slice (some ⟨q.ax,q.sh+o,none⟩) n cap).run P w.drew= .ok ((us.drop o).take<|n*s).toArray w.drew:=by
 obtain ⟨q',M,I,E,J,_⟩:=hr.cells hb;rw [L] at I; cases I;rw [C] at E; cases E;have hlen:=c7 C;refine run_firstCells_some (P:=P) w.drew s n _ n cap _ (by simp; omega) fun j u A=> ?_;rw [dY,gR,iu];rw [il] at A;split at A
 · rw [iS] at A; exact J _ _ A
 · cases A
theorem EN (hr:HR P G r T h w) {t ao:au} {a1 a3 v:AV} {h':Hp} (ha:tZ P G t ao a1 a3 h=some (v,h')) (hT:h'.nx≤T) (az:den r a1=some (ev N σ x)) (bu:den r a3=some (ev N σ y)):YM P G r T N σ ⟨dst,.call ⟨.builtin .append,#[x,y],#[t,ao]⟩,ty,pos,af,g⟩ h w v h':=by
 have ah:∀ {u:ag} {w':ai},(jv #[t,ao] ty #[ev N σ x,ev N σ y]).run P w= .ok u w'→(execOp (ev N σ) ⟨dst,.call ⟨.builtin .append,#[x,y],#[t,ao]⟩,ty,pos,af,g⟩).run P w= .ok (.value u) w':=by
  intro u w' h;simp [execOp,resolve,invoke,builtin,h]
 unfold tZ at ha;split at ha
 · rename_i e s bz bK bv;obtain ⟨i,zv,hu,hi,aX,rfl,rfl,aY,aU,bG,bI,bH⟩:=sI (r:=r) bv;split at ha
   · rename_i m news br;replace ha:=a0 ha; obtain ⟨aS,ha⟩:=ha;obtain ⟨Nw,am,O⟩:=JF hr br aS bu;have bb:=c7 am;have aK:=nW am aS;split at ha
     · have ab:=gz az;split at ha
       · cases ha;exact ⟨r,_,w,az,.inl (ah<|by rw [ab]; exact yz hu hi O<|aV _),St.refl hr⟩
       · rename_i aI;replace ha:=a0 ha; obtain ⟨C,ha⟩:=ha;simp only [bg] at C;have c1:=bQ C.1;have c2:=bQ C.2;have hm:0 < m:=Ed fun e=>aI<|by rw [e]
         split at ha
         · rename_i V hn;cases ha;obtain ⟨cap,cs,ac,aj,aq,ar⟩:=yy (w:=w) (ty:=ty) (base:=none) (n:=0) (c:=0) (olds:= []) hu hi aX aY aU O (by simp) (run_firstCells_none (P:=P) w.drew i.size 0 0 0) (by simp) U U<|by rw [cK]; exact c1
           rw [cK] at ac ar;rw [List.nil_append] at aq;obtain ⟨r',aw,bh⟩:=hr.cS hn hT cap (w':= {w.drew with heap:=w.heap.push<|.cells cs e (0,0)}) rfl rfl rfl fun r' hle _=>by
            refine ⟨cs,(0,0),Nw,J,gw hle am,?_,fun j u A=>by rw [cK]; exact aq j u A,by simp,aK,⟨(fun h=>by cases h),fun _=>rfl⟩,fun s E=> ?_⟩
            · rw [cK,← bb,O.newsLen,← aj]; exact kN _ ac
            · have :s=i.size:=by unfold cr at E; rw [hi] at E; simpa using E.symm
              rw [this,cK,aj]; exact aV _
           refine ⟨r',_,_,?_,.inl (ah<|by rw [ab]; exact ar),bh⟩;rw [nw aw (by simpa using ac)]; simp
         · cases ha
     · rename_i b o n c a2;obtain ⟨q,cap,ad,bo,ab,bf,bd⟩:=gU az;split at ha
       · cases ha;exact ⟨r,_,w,az,.inl (ah<|by rw [ab]; exact yz hu hi O bo),St.refl hr⟩
       · rename_i aI;have hm:0 < m:=Ed fun e=>aI<|by rw [e]
         split at ha
         · rename_i l bA fz ex hb;replace ha:=a0 ha; obtain ⟨C,ha⟩:=ha;simp only [bg] at C;obtain ⟨⟨c1,c2,c3⟩,aA,ap,c6⟩:=C;obtain rfl :=bO c1;have c2:=bQ c2;have c3:=bQ c3;have aA:=bQ aA;have ap:=bQ ap;obtain ⟨q',ae,cc,fr,us,h1,Z,bC,aB,a8,aD,aE,aN⟩:=hr.live b _ hb;rw [ad] at ae; cases ae;have bF:=c7 Z;have bl:=GC (s:=i.size) (x:=a2) (c:=c) hr hb ad Z aA;have holds:=iz (n*i.size)<|jc o Z;have aJ:((us.drop o).take<|n*i.size).length=n*i.size:=by simp; omega
           have aT:∀ u∈(us.drop o).take (n*i.size),u.oneCell'=true :=fun u hu=>aD u<|tH<|tI hu;have av:=eO holds am;have aP:∀ u∈(us.drop o).take (n*i.size)++Nw,u.oneCell'=true :=fun u hu=>(ff.1 hu).elim (aT u)<|aK u;have aQ:∀ s,cr P e=some s→s=i.size:=fun s E=>by unfold cr at E; rw [hi] at E; simpa using E.symm
           have aR:((us.drop o).take (n*i.size)++Nw).length=(n+m)*i.size:=by rw [bL,aJ,O.newsLen,lP]
           have grow:∀ {h0 V:Hp} {aM:Nat} {ck:Ck},ck≠.x→HR P G r T h0 w→St P G T r h w r h0 w→h0.nx=h.nx→cap < n+m→Hb.cS h0 (.cells ((l.drop o).take (n*i.size)++news) e aM ck)=some V→V.nx≤T→
            YM P G r T N σ ⟨dst,.call ⟨.builtin .append,#[x,y],#[t,ao]⟩,ty,pos,af,g⟩ h w (.sl h.nx 0 (n+m) 0 false) V:=by
            intro h0 V aM ck bc bq bt bp hg hn hT;obtain ⟨a4,cs,ac,aj,aq,ar⟩:=yy (w:=w) (ty:=ty) (base:=some ⟨q.ax,q.sh+o,none⟩) (n:=n) (c:=cap) hu hi aX aY aU O aJ (bl cap) aT hg c3 c2;obtain ⟨r',aw,bh⟩:=bq.cS hn hT a4 (w':= {w.drew with heap:=w.heap.push<|.cells cs e (0,0)}) rfl rfl rfl fun r' hle _=>by
             refine ⟨cs,(0,0),_,J,gw hle av,?_,fun j u A=>by rw [cK]; exact aq j u A,by simp,aP,⟨fun h=>absurd h bc,fun _=>rfl⟩,fun s E=> ?_⟩
             · rw [cK,← c7 av,aR,← aj]; exact kN _ ac
             · rw [aQ s E,cK,aj]; exact aV _
            rw [bp] at aw;refine ⟨r',_,_,?_,.inl (ah<|by rw [ab]; exact ar),St.trans bt bh⟩;rw [nw aw (by simpa using ac)]; simp
           cases a2
           · obtain ⟨rfl,bE⟩:=bd rfl;simp only [cond_false] at ha;replace ha:=a0 ha; obtain ⟨C,ha⟩:=ha;simp only [bg] at C;have d1:=bO C.1;have d2:=bQ C.2;split at ha
             · rename_i V hn;cases ha;have ay:=hr.del c6;have aW:St P G T r h w r ⟨h.t.del b,h.nx⟩ w:=⟨Rn.le_refl r,ay,aV _,Md.refl _ _,fun g _ k _ aG=>by
                obtain ⟨j,aZ,q',a9,A,ae,rfl⟩:=aG;rw [Tr.nJ _ _ _ c6] at A;split at A
                · cases A
                · exact ⟨j,aZ,q',a9,A,ae,J⟩,fun _ _=>rfl⟩
               by_cases M:n+m≤q.room - c
               ·
                have bD:=aN i.size<|by unfold cr; rw [hi]; rfl
                have bB:q.sh+o+(n+m)*i.size≤cc.size:=by
                 have :(c+(n+m))*i.size≤q.room*i.size:=kN _ U;rw [lP] at this;omega
                have a5:Nw.length=m*i.size:=O.newsLen;have a6:(n+m)*i.size=n*i.size+m*i.size:=lP _ _ _;have an:=yA (w:=w) (ty:=ty) (off :=q.sh+o) hu hi O M h1 U U;unfold Hb.cS at hn;replace hn:=a0 hn; obtain ⟨aF,hn⟩:=hn;cases hn;simp only at hT aF;have hle:=Rn.pU (i:=h.nx) ⟨q.ax,q.sh+o,q.room - c⟩<|hr.new h.nx (aV _) U;obtain ⟨L,ak⟩:∃ L,cc.toList.take (q.sh+o+n*i.size)++Nw++cc.toList.drop (q.sh+o+n*i.size+Nw.length)=L:=⟨_,rfl⟩
                have al:=wu cc.toList Nw (q.sh+o+n*i.size)<|by simp; omega
                rw [ak] at an al;have ba:L.length=cc.size:=by rw [← ak]; simp; omega
                have aH:=setRow_heap w q.ax _ L.toArray e _ h1;have aO:∀ g,g≤G→Fr g r h q.ax:=fun g hg=>⟨b,_,q,cX hg ap,hb,ad,rfl⟩
                refine ⟨r.ext h.nx ⟨q.ax,q.sh+o,q.room - c⟩,_,w.setRow q.ax L.toArray,?_,.inl (ah<|by rw [ab]; exact an),⟨hle,ay.put hle aF (Rn.fV _ _ _) ?_ (fun k I _=>setRow_other w q.ax k _ I) ?_ (kM _) (fun k I bn=> ?_),kM _,⟨J,J,by simp,fun k _ I=>setRow_other w q.ax k _ fun e=>I<|by rw [e]; exact aO G<|aV _⟩,fun g hg k I aG=> ?_,fun k I=>Rn.jh _ _<|by simp only at I; omega⟩⟩
                · rw [nw (Rn.fV _ _ _) (by simpa using M)]; simp
                · rw [aH];refine ⟨L.toArray,fr,_,J,gw hle av,?_,fun j u A=> ?_,by simp only; omega,aP,⟨fun h=>absurd h yR,fun h=>by obtain ⟨h1,Z⟩:=Fj h; simp only; rw [aE.2 h1,Z]⟩,fun s E=> ?_⟩
                  · rw [← c7 av,aR]; simp only [eh]; omega
                  · simp only [kJ];rw [al];by_cases aL:j < n*i.size
                    · rw [ey U,il,if_pos aL,iS] at A;rw [if_pos U,oM,iu]; exact aB _ _ A
                    · rw [ez U,aJ] at A;have :=(cI.1 A).1;rw [if_neg U,if_pos U,show q.sh+o+j - (q.sh+o+n*i.size)=j - n*i.size from by omega]; exact A
                  · rw [aQ s E];simp only [eh];have :(c+(q.room - c))*i.size=q.room*i.size:=by congr 1; omega
                    rw [lP] at this;omega
                · intro j aZ q' A hg ae he;rw [Tr.nJ _ _ _ c6] at hg;split at hg
                  · cases hg
                  · rename_i bm;exact bm<|hr.inj j b _ _ _ _ hg hb ae ad he
                · rw [Rn.jh _ _ (by simp only at I; omega)]; exact hr.new k (by simp only at I; omega) bn
                · rcases Fr.set aF (Rn.fV _ _ _) hle ay aG with h1 | h1
                  · rw [h1]; exact aO g hg
                  · exact aW.dH g hg k I h1
               · exact grow yR ay aW J U hn hT
             · cases ha
           · obtain rfl :=bf rfl;simp only [cond_true] at ha;cases M:bj (n+m) cap
             · rw [M] at ha;simp only [cond_false] at ha;split at ha
               · rename_i V hn;cases ha;exact grow (fun h=>by cases h) hr (St.refl hr) J (by
                  rcases dk cap (n+m) with h | h
                  · exact h
                  · rw [ye h] at M; cases M) hn hT
               · cases ha
             · rw [M] at ha;simp only [cond_true] at ha;replace ha:=a0 ha; obtain ⟨C,ha⟩:=ha;simp only [bg] at C;have d1:=bQ C.1;have d2:=bQ C.2;have M:=bQ M;cases ha;have a5:Nw.length=m*i.size:=O.newsLen;have a6:(n+m)*i.size=n*i.size+m*i.size:=lP _ _ _;have an:=yA (w:=w) (ty:=ty) (off :=q.sh+o) hu hi O M h1 U U;obtain ⟨L,ak⟩:∃ L,cc.toList.take (q.sh+o+n*i.size)++Nw++cc.toList.drop (q.sh+o+n*i.size+Nw.length)=L:=⟨_,rfl⟩
               have al:=wu cc.toList Nw (q.sh+o+n*i.size)<|by simp; omega
               rw [ak] at an al;have ba:L.length=cc.size:=by rw [← ak]; simp; omega
               have aH:=setRow_heap w q.ax _ L.toArray e _ h1;refine ⟨r,_,w.setRow q.ax L.toArray,kU ad M,.inl (ah<|by rw [ab]; exact an),hr.kr hb c6 ad ap ?_ ⟨J,J,by simp,fun k _ I=>setRow_other w q.ax k _ I⟩⟩;rw [aH];have bi:=eO (iz (o+n*i.size) Z)<|eO am<|jc (o+(n+m)*i.size) Z;refine ⟨L.toArray,fr,_,J,bi,?_,fun j u A=> ?_,a8,?_,⟨fun hex=> ?_,aE.2⟩,fun s E=> ?_⟩
               · simp only [bL,cN,gM,eh]; omega
               · simp only [kJ];rw [al];by_cases aL:j < o+n*i.size
                 · rw [ey (by simp; omega),il,if_pos aL] at A;rw [if_pos U,oM]; exact aB _ _ A
                 · rw [ez (by simp; omega)] at A;have a7:(us.take<|o+n*i.size).length=o+n*i.size:=by simp; omega
                   rw [a7] at A;rw [if_neg U];by_cases bJ:j < o+(n+m)*i.size
                   · rw [ey U] at A;rw [if_pos U,show q.sh+j - (q.sh+o+n*i.size)=j - (o+n*i.size) from by omega]; exact A
                   · rw [ez U,iS] at A;rw [if_neg U,oM];refine aB j u ?_;rw [← A]; congr 1; omega
               · intro a ha;rcases ff.1 ha with ha | ha
                 · exact aD a<|tI ha
                 · rcases ff.1 ha with ha | ha
                   · exact aK a ha
                   · exact aD a<|tH ha
               · obtain ⟨bw,x2,bx⟩:=aE.1 hex;refine ⟨bw,?_,bx⟩;simp only [bL,cN,gM,eh]; omega
               · have :=aN s E;simp only [eh]; omega
         · cases ha
     · cases ha
   · cases ha
 · cases ha
end
end Go.Hb
namespace Go.Hb
def xi (P:av) (G:Nat) (t:au) (b o n c i:Nat) (h:Hp):Option (AV×Hp):=match cV P t with
 | some e=>cond (aM i n && (bj G b && aF b bX)) (match h.t.get b with
   | some (.cells l t' fz ex)=>match cr P t' with
     | some A=>cond (aM e A && (aM o (c*e) && bj (o+n*e) l.length)) (match cS ⟨h.t.del b,h.nx⟩ (.cells [] t' fz .a) with
       | some h'=>some (.sl h.nx 0 0 0 false,h')
       | none=>none) none
     | none=>none
   | _=>none) none
 | none=>none
def vL (P:av) (t:au) (n i j:Nat) (h:Hp):Option (AV×Hp):=match cV P t with
 | some _=>cond (aM i n && (aM j n && aF h.nx bX)) (some (.sl h.nx 0 0 0 false,⟨h.t,h.nx+1⟩)) none
 | none=>none
def uk (P:av) (G:Nat) (t:au) (x:AV) (h:Hp):Option (AV×Hp):=match x with
 | .aC=>cond (jl P t) (some (.bU [],h)) none
 | .sl b o n c q=>match oE P t with
   | some (e,s,_,zs)=>match n with
     | 0=>some (.bU [],h)
     | _=>match h.t.get b with
       | some (.cells l A fz ex)=>cond ((bj (o+n*s) l.length && bj fz o) && (bj G b && aF b bX)) (some (.bU [],⟨h.t.set b (.cells (l.take o++(jO zs n++l.drop (o+n*s))) A fz ex),h.nx⟩)) none
       | _=>none
   | none=>none
 | _=>none
def kj (x:AV):List (AV×AV)→List (AV×AV)
 | []=> []
 | p::l=>cond (fm p.1 x) l (p::kj x l)
def uz (P:av) (G:Nat) (t:au) (b:Nat) (k:AV) (h:Hp):Option (AV×Hp):=match h.t.get b with
 | some (.map l)=>match P.underlying t with
   | some (.map C e)=>match mq P C k with
     | some A=>cond ((bj G b && aF b bX) && (dt A k && eI A l)) (some (.bU [],⟨h.t.set b (.map<|kj k l),h.nx⟩)) none
     | none=>none
   | _=>none
 | _=>none
def xx (P:av) (G:Nat) (A:au) (x y:AV) (h:Hp):Option (AV×Hp):=match x,y with
 | .ptr _ _,.int .i64 0=>some (.str [],h)
 | .fY,.int .i64 0=>some (.str [],h)
 | .ptr b 0,.int .i64 (.ofNat n)=>match h.t.get b with
   | some (.cells l e fz ex)=>match ex with
     | .a=>none
     | _=>cond ((ptrTo P A e && (bj n l.length && (aF 0 n && aF n 1000000000))) && (bj G b && aF b bX)) (match mD (l.take n) with
       | some m=>some (.str m,⟨h.t.set b (.cells l e (max fz n) .z),h.nx⟩)
       | none=>none) none
   | _=>none
 | _,_=>none
def sf (P:av) (G:Nat) (o:Op) (xs:List AV) (h:Hp):Option (AV×Hp):=match o with
 | .call ⟨.builtin .append,_,⟨[t,tx]⟩⟩=>match xs with
   | [s,x]=>tZ P G t tx s x h
   | _=>none
 | .call ⟨.builtin .clear,_,⟨[t]⟩⟩=>match xs with
   | [x]=>uk P G t x h
   | _=>none
 | .call ⟨.builtin .delete,_,⟨[t,_]⟩⟩=>match xs with
   | [.map b,k]=>uz P G t b k h
   | _=>none
 | .call ⟨.builtin .unsafeSliceData,_,_⟩=>match xs with
   | [.aC]=>some (.fY,h)
   | [.sl b o n c x]=>cond (aF 0 n) (some (.ptr b o,h)) none
   | _=>none
 | .call ⟨.builtin .unsafeString,_,⟨[pt,_]⟩⟩=>match xs with
   | [x,y]=>xx P G pt x y h
   | _=>none
 | .slice t _ (some _) none none=>match xs with
   | [.sl b o n c false,.int _ (.ofNat i)]=>xi P G t b o n c i h
   | _=>none
 | .slice t _ (some _) (some _) none=>match xs with
   | [.sl b o n c false,.int _ (.ofNat i),.int _ (.ofNat j)]=>vL P t n i j h
   | _=>none
 | _=>none
inductive AD | mark (D:Nat) | fn (f:Nat) (args:List AV)
inductive EX | cn | ret | ext (id:Nat)
inductive Tk
 | cd (rd:Option Nat) (n:Nat) (c:bJ) (fr:Tr AV) (D:List AD) (h:Hp)
 | lp (rd:Option Nat) (n:Nat) (c:bJ) (fr:Tr AV) (D:List AD) (h:Hp)
 | cl (f:Nat) (args:List AV) (h:Hp)
 | yl (l:Nat) (args:List AV) (h:Hp)
 | df (f:Nat) (args:List AV) (h:Hp)
inductive Rs | no | cd (e:EX) (fr:Tr AV) (D:List AD) (h:Hp) | rv (v:AV) (h:Hp)
inductive Ro | no | v (x:AV) (h:Hp) | d (a:AD)
abbrev Xt:=Nat→Option (List AV→Hp→Option (AV×Hp))
def e7 (n:Nat) (fr:Tr AV) (d:Option Nat) (v:AV):Option (Tr AV):=match d with
 | none=>some fr
 | some d=>cond (aF d n && aF d bX) (some<|fr.set d v) none
def rf (X:Xt) (ih:Tk→Rs) (f:AV) (args:List AV) (h:Hp):Ro:=match f with
 | .fn f a c=>match X f with
   | some e=>match e (a++(args++c)) h with
     | some (v,h)=> .v v h
     | none=> .no
   | none=>match ih (.cl f (a++(args++c)) h) with
     | .rv v h=> .v v h
     | _=> .no
 | .fO l=>match ih (.yl l args h) with
   | .rv v h=> .v v h
   | _=> .no
 | _=> .no
def qa (P:av) (G:Nat) (X:Xt) (ih:Tk→Rs) (o:Op) (xs:List AV) (h:Hp):Ro:=match my P o xs with
 | some v=> .v v h
 | none=>match iG P o xs h with
   | some v=> .v v h
   | none=>match o with
     | .call ⟨.value _,_,_⟩=>match xs with
       | f::args=>rf X ih f args h
       | []=> .no
     | .defer ⟨.value _,_,_⟩=>match xs with
       | .fn f a c::args=> .d<|.fn f<|a++(args++c)
       | _=> .no
     | _=>match nY P G o xs h with
       | some (v,h)=> .v v h
       | none=>match sf P G o xs h with
         | some (v,h')=>cond (bj h.nx h'.nx) (.v v h') .no
         | none=> .no
inductive Gd | y | n | no
def ji (n:Nat) (ops:List aE) (fr:Tr AV) (g:Option (Nat×Bool)):Gd:=match g with
 | none=> .y
 | some (j,want)=>match ops[j]? with
   | some o=>match o.dst with
     | some t=>cond (aF t n) (match c8 fr t with
       | .bool b=>cond (b==want) .y .n
       | .bU []=> .n
       | _=> .no) .no
     | none=> .no
   | none=> .no
def jr (P:av) (G:Nat) (X:Xt) (ih:Tk→Rs) (rd:Option Nat) (n:Nat) (ops:List aE):List aE→Tr AV→List AD→Hp→Rs
 | [],fr,D,h=> .cd .cn fr D h
 | o::l,fr,D,h=>match ji n ops fr o.guard with
   | .y=>match jN G n fr (fy o.op) with
     | some xs=>match qa P G X ih o.op xs h with
       | .v v h=>match e7 n fr o.dst v with
         | some fr=>jr P G X ih rd n ops l fr D h
         | none=> .no
       | .d a=>match rd with
         | none=>match e7 n fr o.dst (.bU []) with
           | some fr=>jr P G X ih rd n ops l fr (a::D) h
           | none=> .no
         | some _=> .no
       | .no=> .no
     | none=> .no
   | .n=>match e7 n fr o.dst (.bU []) with
     | some fr=>jr P G X ih rd n ops l fr D h
     | none=> .no
   | .no=> .no
def gV:Nat→List AV→Tr AV→Tr AV
 | _,[],fr=>fr
 | i,v::l,fr=>gV (i+1) l<|fr.set i v
def mA (n:Nat):List Nat→List AV→Tr AV→Option (Tr AV)
 | [],[],fr=>some fr
 | p::ps,v::vs,fr=>match e7 n fr (some p) v with
   | some fr=>mA n ps vs fr
   | none=>none
 | _,_,_=>none
def g8 (P:av) (n:Nat) (fr:Tr AV) (h:Hp):List ResultVar→Option (List AV)
 | []=>some []
 | .tmp t::l=>match g8 P n fr h l with
   | some vs=>cond (aF t n) (some (c8 fr t::vs)) none
   | none=>none
 | .cell a t::l=>match g8 P n fr h l with
   | some vs=>cond (aF a n) (match rR P t (c8 fr a) h with
     | some v=>some (v::vs)
     | none=>none) none
   | none=>none
def mz:List AV→AV
 | [v]=>v
 | vs=> .bU vs
def jo (G:Nat) (ih:Tk→Rs):List AD→Hp→Option Hp
 | [],h=>some h
 | .mark d::l,h=>match h.t.get d with
   | some (.kd true)=>cond (bj G d && aF d bX) (jo G ih l ⟨h.t.set d (.kd false),h.nx⟩) none
   | _=>none
 | .fn f args::l,h=>match ih (.df f args h) with
   | .rv _ h=>jo G ih l h
   | _=>none
def zO:EX→Option bJ
 | .cn=>none
 | .ret=>some .ret
 | .ext i=>some<|.exit i
def nA (G:Nat) (ih:Tk→Rs) (rd:Option Nat) (n:Nat) (fr:Tr AV) (D:List AD) (l:Nat) (h:Hp):Rs:=match h.t.get l with
 | some (.loop st A m C ps aQ body d)=>match st with
   | .busy=> .no
   | _=>cond (bj G l && aF l bX) (match A with
     | none=> .cd .cn fr D ⟨h.t.set l (.loop .exhausted A m C ps aQ body d),h.nx⟩
     | some c=>ih (.cd rd n c fr D ⟨h.t.set l (.loop .exhausted A m C ps aQ body d),h.nx⟩)) .no
 | _=> .no
def oh (ih:Tk→Rs) (G:Nat) (rd:Option Nat) (n:Nat) (g:aY) (ps:List Nat) (aQ body:bJ) (fr:Tr AV) (D:List AD) (h:Hp):Rs:=match jM G n fr g with
 | some (.fn f a c)=>match rd with
   | none=>match cS h (.kd true) with
     | some h1=>match cS h1 (.loop .ready none n fr ps aQ body h.nx) with
       | some A=>match ih (.cl f (a++(.fO h1.nx::c)) A) with
         | .rv _ C=>nA G ih rd n fr (.mark h.nx::D) h1.nx C
         | _=> .no
       | none=> .no
     | none=> .no
   | some E=>match h.t.get E with
     | some (.loop _ _ _ _ _ _ _ d)=>match cS h (.loop .ready none n fr ps aQ body d) with
       | some A=>match ih (.cl f (a++(.fO h.nx::c)) A) with
         | .rv _ C=>nA G ih rd n fr D h.nx C
         | _=> .no
       | none=> .no
     | _=> .no
 | _=> .no
def qC (G:Nat) (ih:Tk→Rs) (l:Nat) (args:List AV) (h:Hp):Rs:=match h.t.get l with
 | some (.loop .ready J n fr ps aQ body d)=>match mA n ps args fr with
   | some fr=>match ih (.cd (some l) n aQ fr [] h) with
     | .cd .cn fr [] h=>match h.t.get l with
       | some (.loop .ready L C A M E I d1)=>cond (bj G l && aF l bX) (match ih (.cd (some l) n body fr [] ⟨h.t.set l (.loop .busy L C A M E I d1),h.nx⟩) with
         | .cd e fr [] h=>match h.t.get l with
           | some (.loop .busy J C A ps aQ body d)=>match e with
             | .cn=> .rv (.bool true) ⟨h.t.set l (.loop .ready none C A ps aQ body d),h.nx⟩
             | e=> .rv (.bool false) ⟨h.t.set l (.loop .done (zO e) C A ps aQ body d),h.nx⟩
           | _=> .no
         | _=> .no) .no
       | _=> .no
     | _=> .no
   | none=> .no
 | _=> .no
mutual
def eu:AV→AV→Bool
 | .bool a,.bool b=>a==b
 | .int k a,.int k' b=>cond (aM (dz k)<|dz k') (decide (a=b)) false
 | .str l,.str m=>gB l m
 | .ptr b o,.ptr b' o'=>aM b b' && aM o o'
 | .fY,.fY=>true
 | .sl b o n c x,.sl b' o' n' c' x'=>(aM b b' && aM o o') && (aM n n' && (aM c c' && (x==x')))
 | .aC,.aC=>true
 | .map b,.map b'=>aM b b'
 | .jK,.jK=>true
 | .fn f a c,.fn f' a' c'=>aM f f' && (je a a' && je c c')
 | .fO l,.fO l'=>aM l l'
 | .gZ,.gZ=>true
 | .eR t v,.eR t' v'=>aM t t' && eu v v'
 | .db,.db=>true
 | .agg l,.agg m=>je l m
 | .bU l,.bU m=>je l m
 | _,_=>false
def je:List AV→List AV→Bool
 | [],[]=>true
 | a::l,b::m=>cond (eu a b) (je l m) false
 | _,_=>false
end
def oF:List aY→List Nat
 | []=> []
 | .tmp t::l=>t::oF l
 | _::l=>oF l
def uZ (ops:List aE) (g:Option (Nat×Bool)):List Nat:=match g with
 | none=> []
 | some (j,_)=>match ops[j]? with
   | some q=>match q.dst with
     | some t=> [t]
     | none=> []
   | none=> []
def n9 (ops:List aE) (o:aE):List Nat:=uZ ops o.guard++oF (fy o.op)
def pW (t:Nat):List Nat→Bool
 | []=>false
 | u::l=>cond (aM t u) true<|pW t l
def rX (d:Option Nat) (l:List Nat):Bool:=match d with
 | some t=>pW t l
 | none=>false
def lz (l:List Nat) (i:Nat):Nat:=ko l i 0
def lu (acc:List Nat):List cH→Nat
 | []=>0
 | e::l=>cond (dw .any e && aF e.on acc.length) (Nat.lor (Nat.lor (Nat.pow 2 e.on)<|lz acc e.on)<|lu acc l)<|lu acc l
def gy:List aE→List Nat→List Nat
 | [],acc=>acc
 | o::l,acc=>gy l<|acc++ [lu acc o.after.toList]
def iY (A:List Nat) (i j:Nat):Bool:=qV (lz A i) j
def pH (i:Nat):List cH→Bool
 | []=>true
 | e::l=>cond (dw .any e && !(aF e.on i)) false<|pH i l
def zD (a b:Option Nat):Bool:=match a,b with
 | some a,some b=>aM a b
 | _,_=>false
def ri (ops:List aE) (E:List Nat) (i:Nat) (A:aE):Nat→List aE→Bool
 | _,[]=>true
 | j,C::l=>cond (aF j i) ((!(zD A.dst C.dst) && (iY E i j || (!(rX C.dst<|n9 ops A) && !(rX A.dst<|n9 ops C)))) && ri ops E i A (j+1) l) true
def nt (ops:List aE) (A:List Nat):Nat→List aE→Bool
 | _,[]=>true
 | i,C::l=>(pH i C.after.toList && ri ops A i C 0 ops) && nt ops A (i+1) l
inductive Cs | s | p | l | a | c
structure Rec where
 k:Cs
 xs:List AV
 v:AV
 hb:Hp
 ha:Hp
def q7 (P:av) (e:au):Option (List AV):=match zeroOf P e with
 | some (some A)=>match jL (iE 4) A with
   | some l=>cond (dJ l) (some l) none
   | none=>none
 | _=>none
def early (A:List Nat) (i:Nat) (last:Option Nat):Bool:=match last with
 | some c=> !(iY A i c)
 | none=>false
def vX (P:av) (G:Nat) (X:Xt) (ih:Tk→Rs) (fr:Bool) (o:Op) (xs:List AV) (h:Hp):Option Rec:=match my P o xs with
 | some v=>some ⟨.p,xs,v,h,h⟩
 | none=>match iG P o xs h with
   | some v=>some ⟨.l,xs,v,h,h⟩
   | none=>match fr,o with
     | true,.alloc e=>match q7 P e with
       | some l=>match cS h (.cells l e 0 .x) with
         | some h'=>some ⟨.a,xs,.ptr h.nx 0,h,h'⟩
         | none=>none
       | none=>none
     | _,_=>match qa P G X ih o xs h with
       | .v v h'=>some ⟨.c,xs,v,h,h'⟩
       | _=>none
def HC (i:Nat) (last:Option Nat):Cs→Option Nat
 | .c=>some i
 | _=>last
def ku (P:av) (G:Nat) (X:Xt) (ih:Tk→Rs) (n:Nat) (ops:List aE) (A:List Nat):Nat→Option Nat→List aE→Tr AV→Hp→Option (List Rec×Tr AV×Hp)
 | _,_,[],fr,h=>some ([],fr,h)
 | i,last,o::l,fr,h=>match ji n ops fr o.guard with
   | .y=>match jN G n fr (fy o.op) with
     | some xs=>match vX P G X ih (early A i last) o.op xs h with
       | some r=>match e7 n fr o.dst r.v with
         | some fr=>match ku P G X ih n ops A (i+1) (HC i last r.k) l fr r.ha with
           | some (rs,fr,h)=>some (r::rs,fr,h)
           | none=>none
         | none=>none
       | none=>none
     | none=>none
   | .n=>match e7 n fr o.dst (.bU []) with
     | some fr=>match ku P G X ih n ops A (i+1) last l fr h with
       | some (rs,fr,h')=>some (⟨.s,[],.bU [],h,h⟩::rs,fr,h')
       | none=>none
     | none=>none
   | .no=>none
def uD (a:Option AV) (v:AV):Bool:=match a with
 | some a=>eu a v
 | none=>false
def pZ (P:av) (A:List Nat) (i:Nat) (o:Op) (xs:List AV) (v:AV):Nat→List Rec→Bool
 | _,[]=>true
 | j,q::l=>cond (match q.k with
   | .c=>cond (aF j i) (iY A i j || uD (iG P o xs q.hb) v) (iY A j i || uD (iG P o xs q.ha) v)
   | .a=> !(aF j i)
   | _=>true) (pZ P A i o xs v (j+1) l) false
def pY (A:List Nat) (i:Nat):Nat→List Rec→Bool
 | _,[]=>true
 | j,q::l=>cond (match q.k with
   | .c=>cond (aF j i) (iY A i j) true
   | .a=>cond (aF j i) (iY A i j) true
   | _=>true) (pY A i (j+1) l) false
def kp (P:av) (A:List Nat) (rs:List Rec):Nat→List aE→List Rec→Bool
 | _,[],[]=>true
 | i,o::l,q::m=>cond (match q.k with
   | .l=>pZ P A i o.op q.xs q.v 0 rs
   | .c=>pY A i 0 rs
   | _=>true) (kp P A rs (i+1) l m) false
 | _,_,_=>false
def ry (P:av) (G:Nat) (X:Xt) (ih:Tk→Rs) (n:Nat) (ops:List aE) (fr:Tr AV) (D:List AD) (h:Hp):Rs:=match gy ops [] with
 | A=>cond (nt ops A 0 ops) (match ku P G X ih n ops A 0 none ops fr h with
   | some (rs,fr,h)=>cond (kp P A rs 0 ops rs) (.cd .cn fr D h) .no
   | none=> .no) .no
def eL (P:av) (G:Nat) (X:Xt) (ih:Tk→Rs):Tk→Rs
 | .cd rd n c fr D h=>match c with
   | .skip => .cd .cn fr D h
   | .region _ ⟨ops⟩ draw=>cond draw (ry P G X ih n ops fr D h)<|jr P G X ih rd n ops ops fr D h
   | .seq a b=>match ih (.cd rd n a fr D h) with
     | .cd .cn fr D h=>ih<|.cd rd n b fr D h
     | r=>r
   | .cond x a b=>match jM G n fr x with
     | some (.bool true)=>ih<|.cd rd n a fr D h
     | some (.bool false)=>ih<|.cd rd n b fr D h
     | _=> .no
   | .block id c=>match ih (.cd rd n c fr D h) with
     | .cd (.ext j) fr D h=>cond (aM j id) (.cd .cn fr D h)<|.cd (.ext j) fr D h
     | r=>r
   | .loop c=>ih<|.lp rd n c fr D h
   | .rangeFunc g ⟨ps⟩ aQ body=>oh ih G rd n g ps aQ body fr D h
   | .exit id=> .cd (.ext id) fr D h
   | .ret=> .cd .ret fr D h
   | _=> .no
 | .lp rd n c fr D h=>match ih (.cd rd n c fr D h) with
   | .cd .cn fr D h=>ih<|.lp rd n c fr D h
   | r=>r
 | .cl f args h=>match P.funcs[f]? with
   | some fn=>match fn.body with
     | some c=>cond (bj args.length fn.ntmps && aF fn.ntmps bX) (match ih (.cd none fn.ntmps c (gV 0 args .nil) [] h) with
       | .cd (.ext _) _ _ _=> .no
       | .cd _ fr D h=>match jo G ih D h with
         | some h=>match g8 P fn.ntmps fr h fn.results.toList with
           | some vs=> .rv (mz vs) h
           | none=> .no
         | none=> .no
       | _=> .no) .no
     | none=> .no
   | none=> .no
 | .yl l args h=>qC G ih l args h
 | .df f args h=>match P.funcs[f]? with
   | some fn=>match fn.body with
     | some c=>cond (bj args.length fn.ntmps && aF fn.ntmps bX) (match (match c with
       | .seq (.region _ ⟨⟨some d,.call ⟨.builtin .recover,⟨[]⟩,⟨[]⟩⟩,ty,pos,af,none⟩::rest⟩ false) y=>match e7 fn.ntmps (gV 0 args .nil) (some d) .db with
         | some fr=>match jr P G X ih none fn.ntmps (⟨some d,.call ⟨.builtin .recover,⟨[]⟩,⟨[]⟩⟩,ty,pos,af,none⟩::rest) rest fr [] h with
           | .cd .cn fr [] h=>ih<|.cd none fn.ntmps y fr [] h
           | _=> .no
         | none=> .no
       | c=>ih (.cd none fn.ntmps c (gV 0 args .nil) [] h)) with
       | .cd (.ext _) _ _ _=> .no
       | .cd _ fr [] h=>match g8 P fn.ntmps fr h fn.results.toList with
         | some vs=> .rv (mz vs) h
         | none=> .no
       | _=> .no) .no
     | none=> .no
   | none=> .no
def pQ (c:Nat):List UInt8→Nat→Int
 | [],_=> -1
 | b::l,i=>cond (aM b.toNat c) (jZ i)<|pQ c l<|i+1
def xH (xs:List AV) (h:Hp):Option (AV×Hp):=match xs with
 | [.str l,.int .u8 (.ofNat c)]=>cond (aF c 256) (match eJ .i64 (pQ c l 0) with
   | some v=>some (v,h)
   | none=>none) none
 | _=>none
def xG (xs:List AV) (h:Hp):Option (AV×Hp):=match xs with
 | [x]=>some (x,h)
 | _=>none
end Go.Hb
namespace Go.Hb
section
variable {P:av} {G:Nat} {r:Rn} {T:Nat} {h:Hp} {w:ai} {N:Fm} {σ:Nat→ag} {dst:Option Nat} {ty:au} {pos :String} {af:Array cH} {g:Option (Nat×Bool)} {x y z:aY}
theorem HR.Bx (hr:HR P G r T h w) {b o:Nat} {l news:List AV} {e fz:Nat} {ex:Ck} {q:Loc} {Nw:List ag} (hb:h.t.get b=some (.cells l e fz ex)) (ak:bj G b=true) (al:aF b bX=true) (V:r b=some q) (E:aK r news=some Nw) (h1:dJ news=true) (hle:o+news.length≤l.length) (au:fz≤o):
 ∃ c fr,w.heap[q.ax]? =some (.cells c e fr)∧fr.2≤q.sh+o∧q.sh+o+Nw.length≤c.size∧(∀ u∈Nw,u.oneCell'=true)∧
   St P G T r h w r ⟨h.t.set b (.cells (l.take o++(news++l.drop (o+news.length))) e fz ex),h.nx⟩ (w.setRow q.ax (c.toList.take (q.sh+o)++Nw++c.toList.drop (q.sh+o+Nw.length)).toArray):=by
 obtain ⟨q',Z,c,fr,us,ab,I,ay,ac,ao,ad,ae,ap⟩:=hr.live b _ hb;rw [V] at Z; cases Z;have av:=c7 E;have aw:=c7 I;have O:=nW E h1;obtain ⟨L,C⟩:∃ L,c.toList.take (q.sh+o)++Nw++c.toList.drop (q.sh+o+Nw.length)=L:=⟨_,rfl⟩
 have M:=wu c.toList Nw (q.sh+o)<|by have :=kC (xs:=c); omega
 rw [C] at M;have ar:L.length=c.size:=by rw [← C]; simp; omega
 refine ⟨c,fr,ab,U,U,O,?_⟩;rw [C];refine hr.kr hb al V (bQ ak) ?_ ⟨J,J,by simp,fun k _ am=>setRow_other w q.ax k _ am⟩;rw [setRow_heap w q.ax _ _ e _ ab];refine ⟨L.toArray,fr,_,J,eO (iz o I) (eO E<|jc (o+news.length) I),?_,fun j a A=> ?_,ao,?_,⟨fun hex=> ?_,ae.2⟩,fun s an=> ?_⟩
 · simp only [bL,cN,gM,eh]; omega
 · rw [kJ,M];have ah:(us.take o).length=o:=by simp; omega
   by_cases m1:j < o
   · rw [ey U,il,if_pos m1] at A;rw [if_pos U,oM]; exact ac _ _ A
   · rw [ez U,ah] at A;rw [if_neg U];by_cases az:j < o+Nw.length
     · rw [ey U] at A;rw [if_pos U,show q.sh+j - (q.sh+o)=j - o from by omega]; exact A
     · rw [ez U,iS] at A;rw [if_neg U,oM];refine ac j a ?_;rw [← A]; congr 1; omega
 · intro a ha;rcases ff.1 ha with ha | ha
   · exact ad a<|tI ha
   · rcases ff.1 ha with ha | ha
     · exact O a ha
     · exact ad a<|tH ha
 · obtain ⟨ai,aq,aj⟩:=ae.1 hex;refine ⟨ai,?_,aj⟩;simp only [bL,cN,gM,eh]; omega
 · have :=ap s an;simp only [eh]; omega
theorem Ir (hr:HR P G r T h w) {t b o n c i j:Nat} {h':Hp} {v:AV} {k am:bC} (hn:vL P t n i j h=some (v,h')) (hT:h'.nx≤T) (aj:den r (.sl b o n c false)=some (ev N σ x)) (ak:ev N σ y= .int k (jZ i)) (al:ev N σ z= .int am (jZ j)):YM P G r T N σ ⟨dst,.slice t x (some y) (some z) none,ty,pos,af,g⟩ h w v h':=by
 unfold vL at hn;split at hn
 · rename_i e he;replace hn:=a0 hn; obtain ⟨L,hn⟩:=hn;simp only [bg] at L;obtain rfl :=bO L.1;obtain rfl :=bO L.2.1;cases hn;simp only at hT;obtain ⟨q,ap,ao,hu⟩:=ru aj;have ai:=wX (dst:=dst) (ty:=ty) (pos :=pos) (af:=af) (g:=g) (w:=w) he hu ak al ⟨fc _,Int.le_refl _,by simp; omega⟩;obtain ⟨ad,ac⟩:∃ ad:Nat,dS (some ⟨q.ax,q.sh+o,none⟩) (q.room - c) j e=some ⟨q.ax,ad,none⟩:=by
    unfold dS; split
    · exact ⟨_,J⟩
    · exact ⟨_,by rw [eV,dY]⟩
   have hle:=Rn.pU (i:=h.nx) ⟨q.ax,ad,q.room - c - j⟩<|hr.new h.nx (aV _) U;refine ⟨r.ext h.nx ⟨q.ax,ad,q.room - c - j⟩,_,w,?_,.inl ai,hle,⟨fun j I C=> ?_,fun j k V Z ar an C E h1 A he=> ?_,fun k E ag=> ?_,hr.eG.le hle,cX hr.base<|kM _⟩,kM _,Md.refl _ _,fun g hg k E ae=> ?_,fun k E=>Rn.jh _ _<|by simp only at E; omega⟩
   · rw [nw (Rn.fV _ _ _) (by simp)];simp [ac]
   · obtain ⟨q',h1,A⟩:=hr.live j I C;exact ⟨q',hle _ _ h1,A.le hle⟩
   · obtain ⟨q',M,_⟩:=hr.live j V C;obtain ⟨aq,O,_⟩:=hr.live k Z E;rw [hle _ _ M] at h1; cases h1;rw [hle _ _ O] at A; cases A;exact hr.inj j k V Z _ _ C E M O he
   · simp only at E; rw [Rn.jh _ _ U]; exact hr.new k U ag
   · obtain ⟨j,I,q',ab,C,ah,rfl⟩:=ae;obtain ⟨an,A,_⟩:=hr.live j I C;have :=hle _ _ A;rw [ah] at this; cases this;exact ⟨j,I,_,ab,C,A,J⟩
 · cases hn
theorem HR.F9 (hr:HR P G r T h w) {b:Nat} (hb:aF b bX=true):St P G T r h w r ⟨h.t.del b,h.nx⟩ w:=
 ⟨Rn.le_refl r,hr.del hb,aV _,Md.refl _ _,fun g _ k _ E=>by
  obtain ⟨j,L,q',C,A,I,rfl⟩:=E;rw [Tr.nJ _ _ _ hb] at A;split at A
  · cases A
  · exact ⟨j,L,q',C,A,I,J⟩,fun _ _=>rfl⟩
theorem HR.Ih (hr:HR P G r T h w) {b:Nat} {o:AO} {q q':Loc} {h':Hp} {ob:AO} (hb:h.t.get b=some ob) (E:aF b bX=true) (J:r b=some q) (O:bj G b=true) (C:q'.ax=q.ax) (hn:Hb.cS ⟨h.t.del b,h.nx⟩ o=some h') (hT:h'.nx≤T) (ac:∀ r',r.le r'→OR P r' q' o w.heap[q.ax]?):
 ∃ r',r' h.nx=some q'∧St P G T r h w r' h' w:=by
 have L:=hr.del E;have ae:=hr.F9 E;unfold Hb.cS at hn;replace hn:=a0 hn; obtain ⟨I,hn⟩:=hn;cases hn;simp only at hT I;have hle:=Rn.pU (i:=h.nx) q'<|hr.new h.nx (aV _) U;have M:∀ g,g≤G→Fr g r h q.ax:=fun g hg=>⟨b,_,q,cX hg (bQ O),hb,J,rfl⟩
 refine ⟨r.ext h.nx q',Rn.fV _ _ _,hle,L.put hle I (Rn.fV _ _ _) (by rw [C]; exact ac _ hle) (fun _ _ _=>rfl) (fun j ah ai ag hg ad he=> ?_) (kM _) (fun k A ab=> ?_),kM _,Md.refl _ _,fun g hg k A V=> ?_,fun k A=>Rn.jh _ _<|by simp only at A; omega⟩
 · rw [Tr.nJ _ _ _ E] at hg;split at hg
   · cases hg
   · rename_i Z;exact Z<|hr.inj j b _ _ _ _ hg hb ad J<|by rw [he,C]
 · simp only at A; rw [Rn.jh _ _ U]; exact hr.new k U ab
 · rcases Fr.set I (Rn.fV _ _ _) hle L V with h1 | h1
   · rw [h1,C]; exact M g hg
   · exact ae.dH g hg k A h1
theorem J7 (hr:HR P G r T h w) {t b o n c i:Nat} {h':Hp} {v:AV} {k:bC} (hn:xi P G t b o n c i h=some (v,h')) (hT:h'.nx≤T) (aj:den r (.sl b o n c false)=some (ev N σ x)) (ak:ev N σ y= .int k (jZ i)):YM P G r T N σ ⟨dst,.slice t x (some y) none none,ty,pos,af,g⟩ h w v h':=by
 unfold xi at hn;split at hn
 · rename_i e he;replace hn:=a0 hn; obtain ⟨C,hn⟩:=hn;simp only [bg] at C;obtain rfl :=bO C.1;obtain ⟨_,O,V⟩:=C;split at hn
   · rename_i l t' fz ex hb;split at hn
     · rename_i an E;replace hn:=a0 hn; obtain ⟨A,hn⟩:=hn;simp only [bg] at A;obtain rfl :=bO A.1;have d1:=bO A.2.1;have d2:=bQ A.2.2;split at hn
       · rename_i ao ae;cases hn;obtain ⟨q,I,aq,hu⟩:=ru aj;obtain ⟨q',L,cc,fr,us,al,ar,au,av,aw,ay,az,am⟩:=hr.live b _ hb;rw [I] at L; cases L;have aA:=am e E;have ai:=xa (dst:=dst) (ty:=ty) (pos :=pos) (af:=af) (g:=g) (w:=w) he hu ak ⟨fc _,Int.le_refl _⟩;have ah:(c+i+(q.room - c - i))*e=q.room*e:=by congr 1; omega
         rw [lP,lP] at ah;obtain ⟨ad,Z,ap,ab⟩:∃ ad:Nat,dS (some ⟨q.ax,q.sh+o,none⟩) (q.room - c) i e=some ⟨q.ax,ad,none⟩∧q.sh≤ad∧ad+(q.room - c - i)*e≤cc.size:=by
          unfold dS; split
          · rename_i h0;refine ⟨_,J,U,?_⟩;rw [show q.room - c - i=0 from by omega,pb]; omega
          · exact ⟨q.sh+o+i*e,by rw [eV,dY],U,U⟩
         obtain ⟨r',ag,bh⟩:=hr.Ih (q':=⟨q.ax,ad,q.room - c - i⟩) hb V I O rfl ae hT fun r' hle=>by
          refine ⟨cc,fr,[],al,by simp [aK],by simp only [iU,jy]; omega,fun j u ac=>by simp at ac,by simp only; omega,fun u hu=>by simp at hu,⟨(fun h=>by cases h),fun h=>absurd J h⟩,fun s M=> ?_⟩;rw [E] at M; cases M;exact ab
         refine ⟨r',_,w,?_,.inl ai,bh⟩;rw [nw ag (by simp)];simp [Z]
       · cases hn
     · cases hn
   · cases hn
 · cases hn
theorem Fk (hr:HR P G r T h w) {t:au} {a v:AV} {h':Hp} (hn:uk P G t a h=some (v,h')) (L:den r a=some (ev N σ x)):YM P G r T N σ ⟨dst,.call ⟨.builtin .clear,#[x],#[t]⟩,ty,pos,af,g⟩ h w v h':=by
 have C:∀ {u:ag} {w':ai},(th #[t] ty #[ev N σ x]).run P w= .ok u w'→(execOp (ev N σ) ⟨dst,.call ⟨.builtin .clear,#[x],#[t]⟩,ty,pos,af,g⟩).run P w= .ok (.value u) w':=by
  intro u w' h;simp [execOp,resolve,invoke,builtin,h]
 unfold uk at hn;split at hn
 · replace hn:=a0 hn; obtain ⟨A,hn⟩:=hn;cases hn;obtain ⟨e,he⟩:=pS A;have hu:=gz L;exact ⟨r,undef,w,gS r,.inl (C<|by rw [hu]; simp [th,bu he]; rfl),St.refl hr⟩
 · rename_i b o n c q;split at hn
   · rename_i e s ao an ac;obtain ⟨i,zv,hu,hi,ad,rfl,rfl,ak,ar,ah,aj,av⟩:=sI (r:=r) ac;obtain ⟨O,cap,ab,ap,M,_⟩:=gU L;split at hn
     · cases hn;exact ⟨r,undef,w,gS r,.inl (C<|by rw [M]; simp [th,bu hu]; rfl),St.refl hr⟩
     · rename_i Z;split at hn
       · rename_i l V fz ex hb;replace hn:=a0 hn; obtain ⟨A,hn⟩:=hn;simp only [bg] at A;obtain ⟨⟨c1,c2⟩,c3,c4⟩:=A;have c1:=bQ c1;have c2:=bQ c2;cases hn;have E:=sr ah n;have hlen:=c7 E;have I:(jO an n).length=n*i.size:=by
          rw [← hlen]; simp [List.length_flatten,ak]
         obtain ⟨cc,fr,al,aw,ay,am,bh⟩:=hr.Bx (o:=o) hb c3 c4 ab E (vY aj n) (by rw [I]; exact c1) c2;have J:=run_storeCells_atF P O.ax (O.sh+o) V fr _ 0 cc w al U U am;simp only [jy] at J;rw [I] at bh;refine ⟨r,undef,_,gS r,.inl (C ?_),bh⟩;rw [M];have ae:(Db zv.cells n).toList=(cJ n zv.cells.toList).flatten:=by
          have :=vV zv.cells U n;have :=congrArg Array.toList this;simpa [Db] using this
         have aq:n≠0:=fun h=>Z<|by rw [h]
         obtain ⟨m,rfl⟩:∃ m,n=m+1:=⟨n - 1,U⟩
         simp [th,bu hu,zeroValue,c9 hi,ad,ae,J];rfl
       · cases hn
   · cases hn
 · cases hn
theorem AG {x:AV} {kx:ag} {C:KK} (I:dt C x=true) (E:den r x=some kx):∀ {l:List (AV×AV)} {es:List MapEntry} {j:Nat} {A:MapEntry},fw r l es→eI C l=true→
 es[j]? =some A→A.key=kx→(es.map fun e=>e.key).Nodup→fw r (kj x l) (es.eraseIdx j)
 | [],[],j,A,_,_,hj,_,_=>by simp at hj
 | [],_::_,_,_,hm,_,_,_,_=>hm.elim
 | _::_,[],_,_,hm,_,_,_,_=>hm.elim
 | q::l,e::es,0,A,hm,hk,hj,hk',_=>by
   simp only [eI] at hk;cases h1:dt C q.1
   · rw [h1] at hk; cases hk
   · simp only [gL,bH] at hj;subst hj;simp only [kj,(kn h1 I hm.1 E).2 hk',cond_true];exact hm.2.2
 | q::l,e::es,j+1,A,hm,hk,hj,hk',hn=>by
   simp only [eI] at hk;cases h1:dt C q.1
   · rw [h1] at hk; cases hk
   · rw [h1] at hk;simp only [gK] at hj;simp only [eA,DX] at hn;have he:fm q.1 x=false :=by
      cases hq:fm q.1 x
      · rfl
      · have :=(kn h1 I hm.1 E).1 hq;exact absurd (o7.2 ⟨A,gn hj,hk'.trans this.symm⟩) hn.1
     simp only [kj,he,cond_false];exact ⟨hm.1,hm.2.1,AG I E hm.2.2 hk hj hk' hn.2⟩
theorem Ak {x:AV} {kx:ag} {A:KK} (E:dt A x=true) (C:den r x=some kx):∀ {l:List (AV×AV)} {es:List MapEntry},fw r l es→eI A l=true→(∀ e∈es,e.key≠kx)→kj x l=l
 | [],_,_,_,_=>rfl
 | q::l,[],hm,_,_=>hm.elim
 | q::l,e::es,hm,hk,hn=>by
   simp only [eI] at hk;cases h1:dt A q.1
   · rw [h1] at hk; cases hk
   · rw [h1] at hk;have he:fm q.1 x=false :=by
      cases hq:fm q.1 x
      · rfl
      · exact absurd ((kn h1 E hm.1 C).1 hq)<|hn e kL
     simp only [kj,he,cond_false,Ak E C hm.2.2 hk (fun e he=>hn e<|kK _ he)]
theorem F8 (hr:HR P G r T h w) {t E:au} {b:Nat} {k v:AV} {h':Hp} (hp:uz P G t b k h=some (v,h')) (am:den r (.map b)=some (ev N σ x)) (C:den r k=some (ev N σ y)):YM P G r T N σ ⟨dst,.call ⟨.builtin .delete,#[x,y],#[t,E]⟩,ty,pos,af,g⟩ h w v h':=by
 have U:∀ {u:ag} {w':ai},(xN #[t,E] ty #[ev N σ x,ev N σ y]).run P w= .ok u w'→(execOp (ev N σ) ⟨dst,.call ⟨.builtin .delete,#[x,y],#[t,E]⟩,ty,pos,af,g⟩).run P w= .ok (.value u) w':=by
  intro u w' h;simp [execOp,resolve,invoke,builtin,h]
 unfold uz at hp;split at hp
 · rename_i l hb;split at hp
   · rename_i aq e V;split at hp
     · rename_i an aj;replace hp:=a0 hp; obtain ⟨I,hp⟩:=hp;simp only [bg] at I;obtain ⟨⟨ad,ae⟩,hka,hkl⟩:=I;cases hp;obtain ⟨q,es,c,M,hw,hm,hn⟩:=hr.map hb;obtain ⟨q',O,hu⟩:=ma am;rw [M] at O; cases O;have A:=vm aj;have hi:=rQ hka C;have ah:∀ e∈es.toList,nL an e.key:=rD rfl (rW hm hkl);have aP:=(eM.1 hw).1;have st:∀ (es':Array MapEntry),fw r (kj k l) es'.toList→(es'.toList.map fun e=>e.key).Nodup→St P G T r h w r ⟨h.t.set b (.map<|kj k l),h.nx⟩ {w with heap:=w.heap.setIfInBounds q.ax<|.map es' c} :=fun es' Z ab=>
        hr.kr hb ae M (bQ ad) ⟨es',c,by simp only; rw [xL aP],Z,ab⟩ ⟨rfl,rfl,by simp,fun i _ ak=>by simp only; rw [xK (fun e=>ak e.symm)]⟩
       rcases A.find w (ev N σ y) es.toList hi ah with ⟨h1,al⟩ | ⟨j,ao,h1,L,ac⟩
       · refine ⟨r,undef,_,gS r,.inl (U ?_),st es (by rw [Ak hka C hm hkl al]; exact hm) hn⟩;rw [hu];simp [xN,bu V,run_getObj_map hw,A.check _ w _ hi,h1,setObj,kD,hw];rfl
       · have ap:=(cI.1 L).1;have J:(es.eraseIdxIfInBounds j).toList=es.toList.eraseIdx j:=by simp
         refine ⟨r,undef,_,gS r,.inl (U ?_),st (es.eraseIdxIfInBounds j) (by rw [J]; exact AG hka C hm hkl L ac hn) (by
          rw [J];exact List.Nodup.sublist (Lo _<|List.eraseIdx_sublist _ _) hn)⟩
         rw [hu];simp [xN,bu V,run_getObj_map hw,A.check _ w _ hi,h1,setObj,kD,hw];rfl
     · cases hp
   · cases hp
 · cases hp
theorem Km (hr:HR P G r T h w) {A it:au} {a b v:AV} {h':Hp} (hp:xx P G A a b h=some (v,h')) (ac:den r a=some (ev N σ x)) (ad:den r b=some (ev N σ y)):YM P G r T N σ ⟨dst,.call ⟨.builtin .unsafeString,#[x,y],#[A,it]⟩,ty,pos,af,g⟩ h w v h':=by
 have Z:∀ {u:ag} {w':ai},(Builtin.unsafeString_ #[A,it] ty #[ev N σ x,ev N σ y]).run P w= .ok u w'→(execOp (ev N σ) ⟨dst,.call ⟨.builtin .unsafeString,#[x,y],#[A,it]⟩,ty,pos,af,g⟩).run P w= .ok (.value u) w':=by
  intro u w' h;simp [execOp,resolve,invoke,builtin,h]
 have al:den r (.str [])=some (.string .empty):=rfl;unfold xx at hp;split at hp
 · cases hp;obtain ⟨q,V,hu⟩:=gT ac;have E:=cO ad;exact ⟨r,_,w,al,.inl (Z<|by rw [hu,E]; exact Du w A it ty _),St.refl hr⟩
 · cases hp;have hu:=nz ac;have E:=cO ad;exact ⟨r,_,w,al,.inl (Z<|by rw [hu,E]; exact Du w A it ty _),St.refl hr⟩
 · rename_i I n _;split at hp
   · rename_i l e fz ex hb;have key:ex≠.a→cond ((ptrTo P A e && (bj n l.length && (aF 0 n && aF n 1000000000))) && (bj G I && aF I bX)) (match mD (l.take n) with
      | some m=>some (AV.str m,(⟨h.t.set I (.cells l e (max fz n) .z),h.nx⟩:Hp))
      | none=>none) none=some (v,h')→YM P G r T N σ ⟨dst,.call ⟨.builtin .unsafeString,#[x,y],#[A,it]⟩,ty,pos,af,g⟩ h w v h':=by
      intro hex hp;replace hp:=a0 hp; obtain ⟨ak,hp⟩:=hp;simp only [bg] at ak;obtain ⟨⟨C,c1,c2,c3⟩,hG,hbm⟩:=ak;have c1:=bQ c1;have c2:=cz.1 c2;have c3:=cz.1 c3;split at hp
      · rename_i m hm;cases hp;obtain ⟨q,V,cc,fr,us,ae,ah,aB,ao,aD,aE,aG,aH⟩:=hr.live I _ hb;have ab:=aG.2 hex;obtain ⟨q',an,hu⟩:=gT ac;rw [V] at an; cases an;have E:=cO ad;rw [ab] at hu;have ar:=iz n ah;have aj:=xn hm ar;have aI:=c7 ah;have M:m.length=n:=by
         have :=congrArg oZ aj;simp [j4] at this;omega
        unfold ptrTo at C;split at C
        · rename_i L av;simp only [bg,beq_iff_eq] at C;obtain ⟨rfl,ap⟩:=C;have aA:w.shape? q.ax=some (L,cc.size):=by simp [World.shape?,ae]
          have O:m≠[]:=fun h=>by rw [h] at M; simp at M; omega
          have aq:=Lib.run_unsafeString_row (P:=P) w A it ty L av ap q.ax cc.size aA m O U U (fun j u aw=>by
           have h1:us[j]? =some (.int .u8 u.toNat):=by
            have :(us.take n)[j]? =some (.int .u8 u.toNat):=by rw [aj]; simp [U8,aw]
            rw [il] at this;split at this
            · exact this
            · cases this
           rw [dY,gR,eo ae,cK];have :=ao j _ h1;rwa [ab,cK] at this)
          have am:kF w ⟨q.ax,0,none⟩ m.length= {w with heap:=w.heap.modify q.ax fun
           | .cells c elem (lo,hi)=> .cells c elem (if lo==hi then (0,0 +m.length) else (min lo 0,max hi (0 +m.length)))
           | o=>o} :=by
           unfold kF;rw [if_neg U];rfl
          obtain ⟨lo,hi⟩:=fr;have az:(kF w ⟨q.ax,0,none⟩ m.length).heap[q.ax]? =some (.cells cc L (if lo==hi then (0,0 +m.length) else (min lo 0,max hi (0 +m.length)))):=by
           rw [am];simp only [C0,if_true,ae];rfl
          refine ⟨r,.string ⟨m.toArray⟩,kF w ⟨q.ax,0,none⟩ m.length,J,.inl (Z ?_),hr.kr hb hbm V (bQ hG) ?_ ?_⟩
          · rw [hu,E,← M]; exact aq
          · rw [az];refine ⟨cc,_,us,J,ah,aB,ao,?_,aE,⟨(fun h=>by cases h),fun _=>ab⟩,aH⟩;simp only at aD;split <;> simp only <;> omega
          · rw [am];exact ⟨J,J,by simp,fun k _ ay=>by simp only [C0]; rw [if_neg (fun e=>ay e.symm)]⟩
        · cases C
      · cases hp
     split at hp
     · cases hp
     · rename_i O;exact key O hp
   · cases hp
 · cases hp
theorem IA (hr:HR P G r T h w) {o:Op} {xs:List AV} {v:AV} {h':Hp} (A:sf P G o xs h=some (v,h')) (hT:h'.nx≤T) (I:aK r xs=some ((fy o).map<|ev N σ)):YM P G r T N σ ⟨dst,o,ty,pos,af,g⟩ h w v h':=by
 have two:∀ {a b:AV} {l:List aY},aK r [a,b]=some (l.map<|ev N σ)→∃ x y,l= [x,y]∧den r a=some (ev N σ x)∧den r b=some (ev N σ y):=by
  intro a b l h;have :=c7 h;simp at this;obtain ⟨x,y,rfl⟩:∃ x y,l= [x,y]:=by
   match l,this with
   | [x,y],_=>exact ⟨x,y,rfl⟩
  exact ⟨x,y,J,gv h⟩
 have one:∀ {a:AV} {l:List aY},aK r [a]=some (l.map<|ev N σ)→∃ x,l= [x]∧den r a=some (ev N σ x):=by
  intro a l h;have :=c7 h;simp at this;obtain ⟨x,rfl⟩:=qM.1 this;exact ⟨x,J,et h⟩
 unfold sf at A;split at A
 · rename_i C t ae;split at A
   · obtain ⟨C⟩:=C;obtain ⟨x,y,rfl,E,L⟩:=two I;exact EN hr A hT E L
   · cases A
 · rename_i C t;split at A
   · obtain ⟨C⟩:=C;obtain ⟨x,rfl,E⟩:=one I;exact Fk hr A E
   · cases A
 · rename_i C t ab;split at A
   · obtain ⟨C⟩:=C;obtain ⟨x,y,rfl,E,L⟩:=two I;exact F8 hr A E L
   · cases A
 · rename_i C ad;obtain ⟨C⟩:=C;split at A
   · cases A;obtain ⟨x,rfl,E⟩:=one I;exact ⟨r,_,w,J,.inl (xw (v:= .nilFunc) (gz E)<|.inl J),St.refl hr⟩
   · replace A:=a0 A; obtain ⟨O,A⟩:=A;have O:=cz.1 O;cases A;obtain ⟨x,rfl,E⟩:=one I;obtain ⟨q,cap,Z,hn,hu,_⟩:=gU E;exact ⟨r,_,w,by simp only [den,Z],.inl (xw (v:= .nilFunc) hu<|.inr U),St.refl hr⟩
   · cases A
 · rename_i C ac it;split at A
   · obtain ⟨C⟩:=C;obtain ⟨x,y,rfl,E,L⟩:=two I;exact Km hr A E L
   · cases A
 · split at A
   · obtain ⟨h1,M⟩:=gv I;exact J7 hr A hT h1<|cO M
   · cases A
 · split at A
   · obtain ⟨h1,M,V⟩:=kT I;exact Ir hr A hT h1 (cO M)<|cO V
   · cases A
 · cases A
end
end Go.Hb
namespace Go.Hb
def jg:EX→bt
 | .cn=> .normal
 | .ret=> .ret
 | .ext i=> .exit i
def jd (r:Rn):List AD→List Deferred→Prop
 | [],[]=>True
 | .mark d::l,x::m=>(∃ q,r d=some q∧x= {target:= .collected q.ax,args:= #[]})∧jd r l m
 | .fn f args::l,x::m=>(∃ (a:List ag) (cap A:Array ag),aK r args=some a∧x= {target:= .fn (.func f) cap,args:=A}∧A++cap=a.toArray)∧jd r l m
 | _,_=>False
def qf (r:Rn):Option Nat→Option Nat→Prop
 | none,none=>True
 | some l,some k=> ∃ q,r l=some q∧q.ax=k
 | _,_=>False
theorem l9 {r s:Rn} (h:r.le s):∀ {D:List AD} {m:List Deferred},jd r D m→jd s D m
 | [],[],_=>trivial
 | [],_::_,h'=>h'.elim
 | .mark d::l,[],h'=>h'.elim
 | .fn f args::l,[],h'=>h'.elim
 | .mark d::l,x::m,⟨⟨q,h1,h2⟩,h3⟩=>⟨⟨q,h _ _ h1,h2⟩,l9 h h3⟩
 | .fn f args::l,x::m,⟨⟨a,cap,as_,h1,h2⟩,h3⟩=>⟨⟨a,cap,as_,gw h h1,h2⟩,l9 h h3⟩
theorem Bc {r s:Rn} (h:r.le s) {a b:Option Nat} (hr:qf r a b):qf s a b:=by
 cases a <;> cases b
 · trivial
 · exact hr.elim
 · exact hr.elim
 · obtain ⟨q,h1,A⟩:=hr; exact ⟨q,h _ _ h1,A⟩
theorem dN.le {r s:Rn} (h:r.le s) {n:Nat} {fr:Tr AV} {σ:Nat→ag} (A:dN r n fr σ):dN s n fr σ:=fun i hi=>ka h<|A i hi
def dg (P:av) (G:Nat) (rd:Option Nat) (n:Nat) (W:Option Nat→(bt→Act→ai→Prop)→Act→ai→Prop) (fr:Tr AV) (D:List AD) (h:Hp) (e:EX) (E:Tr AV) (C:List AD) (h':Hp):Prop :=
 h.nx≤h'.nx∧∀ (T:Nat) (r:Rn) (w:ai) (σ:Nat→ag) (Dl:List Deferred) (rr:Option Nat) (Q:bt→Act→ai→Prop),h'.nx≤T→HR P G r T h w→dN r n fr σ→jd r D Dl→qf r rd rr→
  (∀ (r':Rn) (w':ai) (σ':Nat→ag) (A:List Deferred),St P G T r h w r' h' w'→dN r' n E σ'→jd r' C A→Q (jg e) (act ⟨n,A,[],rr⟩ σ') w')→W rr Q (act ⟨n,Dl,[],rr⟩ σ) w
def iX (P:av) (G:Nat) (f:Nat) (args:List AV) (h:Hp) (v:AV) (h':Hp):Prop :=
 h.nx≤h'.nx∧∀ (T:Nat) (r:Rn) (w:ai) (L:List ag),h'.nx≤T→HR P G r T h w→aK r args=some L→bp P f L.toArray w fun u w'=> ∃ r',den r' v=some u∧St P G T r h w r' h' w'
def tW (P:av) (G:Nat) (l:Nat) (args:List AV) (h:Hp) (v:AV) (h':Hp):Prop :=
 h.nx≤h'.nx∧∀ (T:Nat) (r:Rn) (w:ai) (L:List ag) (q:Loc),h'.nx≤T→HR P G r T h w→aK r args=some L→r l=some q→YieldAt iP 0 P q.ax L.toArray w fun e w'=> ∃ u r',e= .returned u∧den r' v=some u∧St P G T r h w r' h' w'
def Es (P:av) (G:Nat) (f:Nat) (args:List AV) (h h':Hp):Prop :=
 h.nx≤h'.nx∧∀ (T:Nat) (r:Rn) (w:ai) (L:List ag),h'.nx≤T→HR P G r T h w→aK r args=some L→CallsDIn iP 0 P f L.toArray .returning w fun e A w'=> ∃ v,e= .returned v∧A= .returning∧∃ r',St P G T r h w r' h' w'
def sX (P:av) (c:bJ) (rr:Option Nat) (Q:bt→Act→ai→Prop) (a:Act) (w:ai):Prop :=
 ∀ (b:Frame) (k:List Item) (cs:List Frame),b.roundOf=(fe rr).round→(fe rr).fn b.fn→(fe rr).room (cs.length+1 +0)→
   ∃ e A w',Q e A w'∧ArrivesIn (Machine.fenced P<|fe rr) P (lone (b.atR a (.code c:: .inLoop c::k)) cs w) b k cs e A w'
def kR (P:av) (G:Nat):Tk→Rs→Prop
 | .cd rd n c fr D h,.cd e fr' D' h'=>dg P G rd n (fun rr Q a w=>c.wpIn (fe rr) 0 P Q a w) fr D h e fr' D' h'
 | .lp rd n c fr D h,.cd e fr' D' h'=>dg P G rd n (sX P c) fr D h e fr' D' h'
 | .cl f args h,.rv v h'=>iX P G f args h v h'
 | .yl l args h,.rv v h'=>tW P G l args h v h'
 | .df f args h,.rv v h'=>Es P G f args h h'
 | _,.no=>True
 | _,_=>False
def Good (P:av) (G:Nat) (ih:Tk→Rs):Prop := ∀ t,kR P G t (ih t)
def gQ (P:av) (G:Nat) (X:Xt):Prop := ∀ f e,X f=some e→∀ xs h v h',e xs h=some (v,h')→h.nx≤h'.nx∧∀ (T:Nat) (r:Rn) (w:ai) (us:List ag),h'.nx≤T→HR P G r T h w→aK r xs=some us→
 ∃ r' u w',den r' v=some u∧(callFunc f us.toArray).run P w= .ok (.value u) w'∧St P G T r h w r' h' w'
def fJ (P:av):Prop := ∀ f fn c,P.funcs[f]? =some fn→fn.body=some c→fT P f
section
variable {P:av} {G:Nat} {r:Rn} {T:Nat} {h:Hp} {w:ai} {N:Fm} {σ:Nat→ag} {dst:Option Nat} {ty:au} {pos :String} {af:Array cH} {g:Option (Nat×Bool)} {x y z:aY} {K:Act→ai→Prop} {Q:bt→Act→ai→Prop}
theorem sW {o:aE} (hn:∀ c,o.op≠.defer c) {u:ag} {w':ai} (hr:(execOp (ev N σ) o).run P w= .ok (.value u) w'∨(execOp (ev N σ) o).run P w= .ok .skip w'∧u=undef) (A:K ((act N σ).put o.dst u) w'):o.wpIn (fe N.r) 0 P (act N σ) w K Q:=by
 refine ⟨fun f _=>kX _ f,?_⟩;rw [pJ,xW _ _ _ hn,dq];rcases hr with hr | ⟨hr,rfl⟩
 · rw [hr]; exact A
 · rw [hr]; exact A
theorem yN {f:Nat} {fo:aY} {first cap:Array ag} {args:Array aY} {A:Array au} (C:ev N σ fo= .func (.func f) first cap):(execOp (ev N σ) ⟨dst,.call ⟨.value fo,args,A⟩,ty,pos,af,g⟩).run P w=(callFunc f<|first++args.map (ev N σ)++cap).run P w:=by
 simp only [execOp,resolve,C,lL,ik,kE,gJ,invoke]
end
end Go.Hb
namespace Go.Hb
section
variable {P:av} {G:Nat} {h:Hp}
theorem jJ {o:AO} {h':Hp} (hn:cS h o=some h'):h'.nx=h.nx+1:=by
 unfold cS at hn;replace hn:=a0 hn; obtain ⟨_,hn⟩:=hn;cases hn; rfl
theorem Ba {t:au} {b:Nat} {k v:AV} {h':Hp} (hp:n7 P t b k v h=some h'):h'.nx=h.nx:=by
 unfold n7 at hp;split at hp
 · split at hp
   · split at hp
     · replace hp:=a0 hp; obtain ⟨_,hp⟩:=hp; cases hp; rfl
     · cases hp
   · cases hp
 · cases hp
theorem JS {t b o:Nat} {v:AV} {h':Hp} (A:qs P G t b o v h=some h'):h'.nx=h.nx:=by
 unfold qs at A;split at A
 · split at A
   · replace A:=a0 A; obtain ⟨_,A⟩:=A; cases A; rfl
   · cases A
 · cases A
theorem Iy {o:Op} {xs:List AV} {v:AV} {h':Hp} (A:nY P G o xs h=some (v,h')):h.nx≤h'.nx:=by
 unfold nY at A;split at A
 · split at A
   · split at A
     · replace A:=a0 A; obtain ⟨_,A⟩:=A;split at A
       · rename_i hn; cases A; have :=jJ hn; omega
       · cases A
     · cases A
   · cases A
 · split at A
   · replace A:=a0 A; obtain ⟨_,A⟩:=A;split at A
     · rename_i hn; cases A; have :=jJ hn; omega
     · cases A
   · cases A
 · split at A
   · rename_i hn; cases A; have :=jJ hn; omega
   · cases A
 · split at A
   · replace A:=a0 A; obtain ⟨_,A⟩:=A;split at A
     · replace A:=a0 A; obtain ⟨_,A⟩:=A;split at A
       · rename_i hn; cases A; have :=jJ hn; omega
       · cases A
     · cases A
   · cases A
 · split at A
   · split at A
     · replace A:=a0 A; obtain ⟨_,A⟩:=A;split at A
       · rename_i hn; cases A; have :=jJ hn; omega
       · cases A
     · cases A
   · cases A
 · split at A
   · split at A
     · rename_i C; cases A; have :=JS C; omega
     · cases A
   · cases A
 · split at A
   · replace A:=a0 A; obtain ⟨_,A⟩:=A;split at A
     · rename_i hp; cases A; have :=Ba hp; omega
     · cases A
   · cases A
 · split at A
   · replace A:=a0 A; obtain ⟨_,A⟩:=A;split at A
     · rename_i hp; cases A; have :=Ba hp; omega
     · cases A
   · cases A
 · cases A
end
section
variable {P:av} {G:Nat} {X:Xt} {ih:Tk→Rs} {n:Nat}
def jC (P:av) (G:Nat) (o:Op) (xs:List AV) (h:Hp) (v:AV) (h':Hp):Prop :=
 h.nx≤h'.nx∧∀ (T:Nat) (r:Rn) (w:ai) (N:Fm) (σ:Nat→ag) (dst:Option Nat) (ty:au) (pos :String) (af:Array cH) (g:Option (Nat×Bool)) (K:Act→ai→Prop) (Q:bt→Act→ai→Prop),h'.nx≤T→HR P G r T h w→aK r xs=some ((fy o).map<|ev N σ)→
  (∀ (r':Rn) (u:ag) (w':ai),den r' v=some u→St P G T r h w r' h' w'→K ((act N σ).put dst u) w')→(Oper.mk dst o ty pos af g).wpIn (fe N.r) 0 P (act N σ) w K Q
theorem jC.run {o:Op} {xs:List AV} {h h':Hp} {v:AV} (hn:∀ c,o≠.defer c) (L:h.nx≤h'.nx)
 (hr:∀ (T:Nat) (r:Rn) (w:ai) (N:Fm) (σ:Nat→ag) (dst:Option Nat) (ty:au) (pos :String) (af:Array cH) (g:Option (Nat×Bool)),h'.nx≤T→HR P G r T h w→aK r xs=some ((fy o).map<|ev N σ)→YM P G r T N σ ⟨dst,o,ty,pos,af,g⟩ h w v h'):jC P G o xs h v h':=
 ⟨L,fun T r w N σ dst ty pos af g K Q hT I E J=>by
  obtain ⟨r',u,w',h1,A,C⟩:=hr T r w N σ dst ty pos af g hT I E;exact sW hn A (J r' u w' h1 C)⟩
theorem Fb (aj:Good P G ih) (ao:gQ P G X) (an:fJ P) (ar:∀ f args h v h',ih (.cl f args h)= .rv v h'→∃ fn c,P.funcs[f]? =some fn∧fn.body=some c) {fo:aY} {I:List aY} {ac:Array au} {f:AV} {args:List AV} {h h':Hp} {v:AV} (C:rf X ih f args h= .v v h'):
 jC P G (.call ⟨.value fo,⟨I⟩,ac⟩) (f::args) h v h':=by
 have ag:∀ c,Op.call ⟨.value fo,⟨I⟩,ac⟩≠.defer c:=fun c e=>by cases e
 unfold rf at C;split at C
 · rename_i f a c;split at C
   · rename_i e he;split at C
     · rename_i v1 h1 ah;cases C;obtain ⟨ab,E⟩:=ao f e he _ _ _ _ ah;refine jC.run ag ab fun T r w N σ dst ty pos af g hT Z U=> ?_;obtain ⟨u,us,A,V,O⟩:=dE U;simp only [fy,eA,kG] at A;obtain ⟨A,rfl⟩:=A;obtain ⟨J,c',ha,ad,rfl⟩:=kV V;obtain ⟨r',u,w',L,M,am⟩:=E T r w _ hT Z<|eO ha<|eO O ad;refine ⟨r',u,w',L,.inl ?_,am⟩;rw [yN A];have :J.toArray++(⟨I⟩:Array aY).map (ev N σ)++c'.toArray=(J++(I.map (ev N σ)++c')).toArray:=by simp
       rw [this]; exact M
     · cases C
   · split at C
     · rename_i v1 h1 al;cases C;have E:=aj<|.cl f (a++(args++c)) h;rw [al] at E;obtain ⟨ab,E⟩:=E;obtain ⟨fn,cd,av,ap⟩:=ar _ _ _ _ _ al;have aq:=an f fn cd av ap;refine ⟨ab,fun T r w N σ dst ty pos af g K Q hT Z U ae=> ?_⟩;obtain ⟨u,us,A,V,O⟩:=dE U;simp only [fy,eA,kG] at A;obtain ⟨A,rfl⟩:=A;obtain ⟨J,c',ha,ad,rfl⟩:=kV V;have ay:=E T r w _ hT Z<|eO ha<|eO O ad;refine ⟨fun f _=>kX _ f,?_⟩;rw [pJ,xW _ _ _ ag,dq,yN A];have :J.toArray++(⟨I⟩:Array aY).map (ev N σ)++c'.toArray=(J++(I.map (ev N σ)++c')).toArray:=by simp
       rw [this,aq];simp only [Oper.uponIn_enter];refine ⟨fun h0=>(by rw [rH] at h0; cases h0),CallsIn.mono (uI ay) ?_⟩;rintro e w' ⟨u,rfl,r',L,M⟩;exact ae r' u w' L M
     · cases C
 · rename_i l;split at C
   · rename_i v1 h1 aA;cases C;have E:=aj<|.yl l args h;rw [aA] at E;obtain ⟨ab,E⟩:=E;refine ⟨ab,fun T r w N σ dst ty pos af g K Q hT Z U ae=> ?_⟩;obtain ⟨u,us,A,V,O⟩:=dE U;simp only [fy,eA,kG] at A;obtain ⟨A,rfl⟩:=A;obtain ⟨q,aw,rfl⟩:=uA V;obtain ⟨fn,tmps,aa,ai,az,ak⟩:=E T r w _ q hT Z O aw;refine ⟨fun f _=>kX _ f,?_⟩;rw [pJ,xW _ _ _ ag,dq];have ah:(execOp (ev N σ) ⟨dst,.call ⟨.value fo,⟨I⟩,ac⟩,ty,pos,af,g⟩).run P w= .ok (.round q.ax fn tmps aa ai) w:=by
      have hm:(⟨I⟩:Array aY).map (ev N σ)=(I.map<|ev N σ).toArray:=by simp
      simp only [execOp,resolve,A,lL,ik,kE,gJ,invoke];simp [az]
     rw [ah];simp only [tt];refine ⟨fun h0=>(by rw [rH] at h0; cases h0),?_⟩;have h1:RoundIn (fe N.r) (0 - 1) P q.ax fn tmps aa ai w fun e w'=> ∃ u r',e= .returned u∧den r' v=some u∧St P G T r h w r' h' w':=by
      cases hr:N.r with
      | none=>exact ak
      | some k=>exact ak
     refine RoundIn.mono h1 ?_;rintro e w' ⟨u,r',rfl,L,M⟩;exact ae r' u w' L M
   · cases C
 · cases C
theorem A4 (U:Good P G ih) (V:gQ P G X) (O:fJ P) (Z:∀ f args h v h',ih (.cl f args h)= .rv v h'→∃ fn c,P.funcs[f]? =some fn∧fn.body=some c) {o:Op} {xs:List AV} {h h':Hp} {v:AV} (A:qa P G X ih o xs h= .v v h'):jC P G o xs h v h':=by
 unfold qa at A;split at A
 · rename_i v1 hp;cases A;have E:∀ c,o≠.defer c:=fun c e=>by subst e; simp [my] at hp
   refine jC.run E (aV _) fun T r w N σ dst ty pos af g hT C I=> ?_;obtain ⟨u,h1,J⟩:=A3 (dst:=dst) (ty:=ty) (pos :=pos) (af:=af) (g:=g) hp I;exact ⟨r,u,w,h1,.inl (J w),St.refl C⟩
 · split at A
   · rename_i v1 M;cases A;have E:∀ c,o≠.defer c:=fun c e=>by subst e; simp [iG] at M
     refine jC.run E (aV _) fun T r w N σ dst ty pos af g hT C I=> ?_;obtain ⟨u,h1,J⟩:=A2 (dst:=dst) (ty:=ty) (pos :=pos) (af:=af) (g:=g) C M I;exact ⟨r,u,w,h1,.inl J,St.refl C⟩
   · split at A
     · rename_i fo L ab;split at A
       · obtain ⟨L⟩:=L;exact Fb U V O Z A
       · cases A
     · split at A <;> cases A
     · rename_i ac E;split at A
       · rename_i v1 h1 hm;cases A;have E:∀ c,o≠.defer c:=fun c e=>by subst e; simp [nY] at hm
         exact jC.run E (Iy hm) fun T r w N σ dst ty pos af g hT C I=>Iz C hm hT I
       · split at A
         · rename_i v1 h1 hm;cases hle:bj h.nx h1.nx
           · rw [hle] at A; cases A
           rw [hle] at A;cases A;have E:∀ c,o≠.defer c:=fun c e=>by subst e; simp [sf] at hm
           exact jC.run E (bQ hle) fun T r w N σ dst ty pos af g hT C I=>IA C hm hT I
         · cases A
end
end Go.Hb
namespace Go.Hb
section
variable {P:av} {G:Nat} {X:Xt} {ih:Tk→Rs} {n:Nat} {r:Rn}
theorem ox {fr C:Tr AV} {d:Option Nat} {v:AV} {u:ag} {σ:Nat→ag} (A:e7 n fr d v=some C) (I:dN r n fr σ) (J:den r v=some u):dN r n C (dd σ d u):=by
 cases d with
 | none=>simp only [e7,bH] at A; subst A; exact I
 | some d=>
   simp only [e7] at A;replace A:=a0 A; obtain ⟨E,A⟩:=A;simp only [bg] at E;cases A;intro i hi;simp only [dd,bo,c8,Tr.kg _ _ _ _ E.2];by_cases e:i=d
   · subst e;rw [if_pos rfl,show aM i i=true from by simp]; exact J
   · rw [if_neg e,show aM i d=false from by
      cases hb:aM i d
      · rfl
      · exact absurd (bO hb) e]
     exact I i hi
theorem uY {ops:List aE} {fr:Tr AV} {o:aE} {N:Fm} {σ:Nat→ag} (hg:ji N.n ops fr o.guard= .y) (A:dN r N.n fr σ):jw o (yielded ops.toArray (act N σ).tmps)=true :=by
 unfold ji at hg;split at hg
 · exact fE _ (by assumption) _
 · rename_i j want C;split at hg
   · rename_i L E;split at hg
     · rename_i t I;cases hb:aF t N.n
       · rw [hb] at hg; cases hg
       · rw [hb] at hg;simp only [cond_true] at hg;split at hg
         · rename_i b J;cases hbw:(b==want)
           · rw [hbw] at hg; cases hg
           · have h1:=A t<|cz.1 hb;rw [J] at h1;rw [lJ C (by simp [dC,E,I]) hb (iA h1),hbw]
         · cases hg
         · cases hg
     · cases hg
   · cases hg
theorem z3 {ops:List aE} {fr:Tr AV} {o:aE} {N:Fm} {σ:Nat→ag} (hg:ji N.n ops fr o.guard= .n) (C:dN r N.n fr σ):jw o (yielded ops.toArray (act N σ).tmps)=false :=by
 unfold ji at hg;split at hg
 · cases hg
 · rename_i j want E;split at hg
   · rename_i L I;split at hg
     · rename_i t J;cases hb:aF t N.n
       · rw [hb] at hg; cases hg
       · rw [hb] at hg;simp only [cond_true] at hg;split at hg
         · rename_i b A;cases hbw:(b==want)
           · have h1:=C t<|cz.1 hb;rw [A] at h1;rw [lJ E (by simp [dC,I,J]) hb (iA h1),hbw]
           · rw [hbw] at hg; cases hg
         · rename_i A;have h1:=C t<|cz.1 hb;rw [A] at h1;rw [gS] at h1;exact xB E (by simp [dC,I,J]) hb (gN h1).symm
         · cases hg
     · cases hg
   · cases hg
theorem qc (ab:Good P G ih) (ac:gQ P G X) (Z:fJ P) (ad:∀ f args h v h',ih (.cl f args h)= .rv v h'→∃ fn c,P.funcs[f]? =some fn∧fn.body=some c) {rd:Option Nat} {ops:List aE} :∀ {l:List aE} {fr V:Tr AV} {D U:List AD} {h h':Hp},
 jr P G X ih rd n ops l fr D h= .cd .cn V U h'→dg P G rd n (fun rr Q a w=>wpListIn (fe rr) 0 P ops.toArray Q l a w) fr D h .cn V U h'
 | [],fr,V,D,U,h,h',he=>by
   simp only [jr,Rs.cd.injEq,true_and] at he;obtain ⟨rfl,rfl,rfl⟩:=he;exact ⟨aV _,fun T r w σ Dl rr Q hT C A I M L=>L r w σ Dl (St.refl C) A I⟩
 | o::l,fr,V,D,U,h,h',he=>by
   simp only [jr] at he;split at he
   · rename_i hg;split at he
     · rename_i xs al;split at he
       · rename_i v h1 bP;split at he
         · rename_i aq O;obtain ⟨n1,s1⟩:=A4 ab ac Z ad bP;obtain ⟨n2,s2⟩:=qc ab ac Z ad he;refine ⟨cX n1 n2,fun T r w σ Dl rr Q hT C A I M L=> ?_⟩;show wpListIn _ _ _ _ _ _ _ _;unfold wpListIn;rw [if_pos (uY (N:=⟨n,Dl,[],rr⟩) hg A)];obtain ⟨d,op,ty,pos,af,g⟩:=o;refine s1 T r w ⟨n,Dl,[],rr⟩ σ d ty pos af g _ Q (cX n2 hT) C (sd C.eG A al) fun r' u w' hu bh=> ?_;rw [eD];exact s2 T r' w' _ Dl rr Q hT bh.hr (ox O (A.le bh.le) hu) (l9 bh.le I) (Bc bh.le M) fun am an ao ag ak aj ai=>L am an ao ag (bh.trans ak) aj ai
         · cases he
       · rename_i a bP;split at he
         · split at he
           · rename_i aq O;obtain ⟨n2,s2⟩:=qc ab ac Z ad he;refine ⟨n2,fun T r w σ Dl rr Q hT C A I M L=> ?_⟩;have ay:rr=none:=by
              cases rr with
              | none=>rfl
              | some k=>exact M.elim
             subst ay;show wpListIn _ _ _ _ _ _ _ _;unfold wpListIn;rw [if_pos (uY (N:=⟨n,Dl,[],none⟩) hg A)];obtain ⟨d,op,ty,pos,af,g⟩:=o;simp only at bP al O;have aA:=sd (N:=⟨n,Dl,[],none⟩) C.eG A al;unfold qa at bP;split at bP
             · cases bP
             · split at bP
               · cases bP
               · split at bP
                 · rename_i fo E ap;split at bP
                   · unfold rf at bP;split at bP
                     · split at bP
                       · split at bP <;> cases bP
                       · split at bP <;> cases bP
                     · split at bP <;> cases bP
                     · cases bP
                   · cases bP
                 · rename_i fo E ap _ _;split at bP
                   · rename_i f aB c' args _ _;cases bP;obtain ⟨E⟩:=E;obtain ⟨u,us,ae,aw,au⟩:=dE aA;simp only [fy,eA,kG] at ae;obtain ⟨ae,rfl⟩:=ae;obtain ⟨ah,c2,ha,av,rfl⟩:=kV aw;refine ⟨fun f _=>trivial,?_⟩;have az:(execOp (ev ⟨n,Dl,[],none⟩ σ) ⟨d,.defer ⟨.value fo,⟨E⟩,ap⟩,ty,pos,af,g⟩).run P w= .ok (.defer {target:= .fn (.func f) c2.toArray,args:=ah.toArray++(⟨E⟩:Array aY).map (ev ⟨n,Dl,[],none⟩ σ)}) w:=by
                      simp [execOp,resolve,ae,lL]
                     show tt _ _ _ _ _ _ _ (kD P (Oper.semAt (fe none).round _ _) w);rw [pJ,Oper.semAt_none,dq,az];simp only [Oper.uponIn_defer];have ax:({(act ⟨n,Dl,[],none⟩ σ) with defers:= {target:=Target.fn (.func f) c2.toArray,args:=ah.toArray++(⟨E⟩:Array aY).map (ev ⟨n,Dl,[],none⟩ σ)} ::(act ⟨n,Dl,[],none⟩ σ).defers} :Act)=act ⟨n,{target:= .fn (.func f) c2.toArray,args:=ah.toArray++(⟨E⟩:Array aY).map (ev ⟨n,Dl,[],none⟩ σ)} ::Dl,[],none⟩ σ:=rfl;rw [ax,eD];refine s2 T r w _ _ none Q hT C (ox O A<|gS r) ⟨⟨_,_,_,eO ha (eO au av),J,by simp⟩,I⟩ M fun am an ao ag ak aj ai=>L am an ao ag ak aj ai
                   · cases bP
                 · split at bP
                   · cases bP
                   · split at bP
                     · rename_i ar _;cases hle:bj h.nx ar.nx
                       · rw [hle] at bP; cases bP
                       · rw [hle] at bP; cases bP
                     · cases bP
           · cases he
         · cases he
       · cases he
     · cases he
   · rename_i hg;split at he
     · rename_i aq O;obtain ⟨n2,s2⟩:=qc ab ac Z ad he;refine ⟨n2,fun T r w σ Dl rr Q hT C A I M L=> ?_⟩;show wpListIn _ _ _ _ _ _ _ _;unfold wpListIn;rw [if_neg (by rw [z3 (N:=⟨n,Dl,[],rr⟩) hg A]; simp)];refine ⟨fun f _=>kX _ f,?_⟩;rw [eD];exact s2 T r w _ Dl rr Q hT C (ox O A<|gS r) I M L
     · cases he
   · cases he
end
end Go.Hb
namespace Go.Hb
section
variable {P:av} {G:Nat} {X:Xt} {ih:Tk→Rs} {n:Nat} {r:Rn} {T:Nat} {h:Hp} {w:ai}
theorem HR.loop (hr:HR P G r T h w) {l:Nat} {st:LoopState} {E:Option bJ} {fr:Tr AV} {ps:List Nat} {aQ body:bJ} {D:Nat} (M:h.t.get l=some (.loop st E n fr ps aQ body D)):
 ∃ q fn A C,r l=some q∧w.heap[q.ax]? =some (.loop {state:=st,pending:=E,fn:=fn,tmps:=A,params:=ps.toArray,assign:=aQ,body:=body,defers:=C})∧(∃ x,r D=some x∧x.ax=C)∧A.size=n∧∀ i,i < n→den r (c8 fr i)=A[i]? :=by
 obtain ⟨q,O,fn,A,C,h1,I,J,L⟩:=hr.live l _ M;exact ⟨q,fn,A,C,O,h1,I,J,L⟩
theorem HR.wy (hr:HR P G r T h w) {l:Nat} {q:Loc} {st st':LoopState} {E pe':Option bJ} {fr:Tr AV} {ps:List Nat} {aQ body:bJ} {D fn C:Nat} {A:Array ag} (U:h.t.get l=some (.loop st E n fr ps aQ body D)) (L:bj G l=true) (hb:aF l bX=true) (V:r l=some q)
 (hw:w.heap[q.ax]? =some (.loop {state:=st,pending:=E,fn:=fn,tmps:=A,params:=ps.toArray,assign:=aQ,body:=body,defers:=C})) (I:∃ x,r D=some x∧x.ax=C) (Z:A.size=n) (M:∀ i,i < n→den r (c8 fr i)=A[i]?):
 St P G T r h w r ⟨h.t.set l (.loop st' pe' n fr ps aQ body D),h.nx⟩ (w.putObj q.ax<|.loop {state:=st',pending:=pe',fn:=fn,tmps:=A,params:=ps.toArray,assign:=aQ,body:=body,defers:=C}):=by
 have aP:=(eM.1 hw).1;refine hr.kr U hb V (bQ L) ?_ ⟨J,J,by simp [DC],fun k _ O=>DD O⟩;rw [DE aP];exact ⟨fn,A,C,J,I,Z,M⟩
theorem BD {σ:Nat→ag} :∀ {ps:List Nat} {args:List AV} {L:List ag} {fr A:Tr AV},mA n ps args fr=some A→dN r n fr σ→aK r args=some L→L.length=ps.length∧dN r n A ((ps.zip L).foldl (fun s p=>bo s p.1 p.2) σ)
 | [],[],L,fr,A,hs,hf,hd=>by
   simp only [mA,bH] at hs;subst hs;rw [jD hd]; exact ⟨rfl,hf⟩
 | [],_::_,_,_,_,hs,_,_=>by simp [mA] at hs
 | _::_,[],_,_,_,hs,_,_=>by simp [mA] at hs
 | p::ps,v::vs,L,fr,A,hs,hf,hd=>by
   simp only [mA] at hs;split at hs
   · rename_i O h1;obtain ⟨u,us,rfl,E,I⟩:=dE hd;have C:=ox h1 hf E;simp only [dd] at C;obtain ⟨J,M⟩:=BD hs C I;exact ⟨by simp [J],M⟩
   · cases hs
theorem EA (N:Fm) (l:List (Tmp×ag)) (σ:Nat→ag):l.foldl (fun t p=>t.setIfInBounds p.1 p.2) (act N σ).tmps=(act N<|l.foldl (fun s p=>bo s p.1 p.2) σ).tmps:=Ez N l σ
theorem Ey {A:Array ag} {N:Fm} (C:A.size=N.n):A=(act N fun i=>A.getD i undef).tmps:=by
 apply Array.ext_getElem?;intro i;rw [iy];by_cases hi:i < N.n
 · rw [if_pos hi,ij,mU U]; rfl
 · rw [if_neg hi,Array.getElem?_eq_none U]
theorem Fw {c:Bool} {p:Rs} {v:AV} {h:Hp} (A:cond c p .no= .rv v h):c=true∧p= .rv v h:=by
 cases c
 · cases A
 · exact ⟨J,A⟩
theorem Lc (ak:Good P G ih) {l:Nat} {args:List AV} {h':Hp} {v:AV} (A:qC G ih l args h= .rv v h'):tW P G l args h v h':=by
 unfold qC at A;split at A
 · rename_i bj n fr ps aQ body d aS;split at A
   · rename_i aB aV;split at A
     · rename_i aD h1 aH;have s1:=ak<|.cd (some l) n aQ aB [] h;rw [aH] at s1;obtain ⟨n1,s1⟩:=s1;split at A
       · rename_i au m1 aA a2 ay az d1 al;replace A:=Fw A; obtain ⟨E,A⟩:=A;simp only [bg] at E;split at A
         · rename_i e bc I aI;have s2:=ak<|.cd (some l) n body aD [] ⟨h1.t.set l (.loop .busy au m1 aA a2 ay az d1),h1.nx⟩;rw [aI] at s2;obtain ⟨n2,s2⟩:=s2;simp only at n2;split at A
           · rename_i bl ar aj av ae ah d2 am;have key:∀ (jump:Option bJ) (st:LoopState),jump=zO e→st=(if jump.isNone then .ready else .done)→v= .bool jump.isNone→h'=⟨I.t.set l (.loop st jump ar aj av ae ah d2),I.nx⟩→tW P G l args h v h':=by
              intro jump st ab bh a1 aR;subst a1 aR;refine ⟨cX n1 n2,fun T r w L q hT hr aJ ac=> ?_⟩;simp only at hT;obtain ⟨q',fn,C,bp,an,hw,bd,aX,aN⟩:=hr.loop aS;rw [ac] at an; cases an;have aW:=BD (σ:=fun i=>C.getD i undef) aV (fun i hi=>by
               show den r (c8 fr i)=some (C.getD i undef);rw [aN i hi,ij,mU U]; rfl) aJ
              obtain ⟨hlen,aL⟩:=aW;have aU:=run_yield (P:=P) (args:=L.toArray) hw<|by simpa using hlen
              refine ⟨_,_,_,_,aU,roundIn_of_wpIn (F:=iP) trivial ?_⟩;have a0:((ps.toArray.zip L.toArray).foldl (fun tmps (p:Tmp×ag)=>tmps.setIfInBounds p.1 p.2) C)=(act ⟨n,[],[],some q.ax⟩<|(ps.zip L).foldl (fun s p=>bo s p.1 p.2) fun i=>C.getD i undef).tmps:=by
               rw [← CX,Array.toList_zip];simp only [];rw [← EA ⟨n,[],[],some q.ax⟩];rw [← Ey (N:=⟨n,[],[],some q.ax⟩) aX]
              have ai:({tmps:=((ps.toArray.zip L.toArray).foldl (fun tmps (p:Tmp×ag)=>tmps.setIfInBounds p.1 p.2) C),defers:= []} :Act)=act ⟨n,[],[],some q.ax⟩ ((ps.zip L).foldl (fun s p=>bo s p.1 p.2) fun i=>C.getD i undef):=by rw [a0]; rfl
              simp only at ai ⊢;rw [ai];refine s1 T r w _ [] (some q.ax) _ U hr aL trivial ⟨q,ac,J⟩ fun a3 bv a8 ad O aM aK=> ?_;have aG:ad= []:=by cases ad; rfl; exact aK.elim
              subst aG;obtain ⟨bm,ba,bt,bq,M,ap,aE,aY,aO⟩:=O.hr.loop al;have :=O.le _ _ ac;rw [M] at this; cases this;have aw:=O.hr.wy (st':= .busy) (pe':=au) al E.1 E.2 M ap aE aY aO;refine ⟨_,run_beginRound ap J,?_⟩;refine s2 T a3 _ a8 [] (some q.ax) _ U aw.hr aM trivial ⟨q,M,J⟩ fun a4 a7 bw a9 V bi bf=> ?_;obtain ⟨bn,bb,bu,br,ao,aq,aF,aZ,aP⟩:=V.hr.loop am;have :=V.le _ _ M;rw [ao] at this; cases this;have a5:=V.hr.wy (st':=st) (pe':=jump) am E.1 E.2 ao aq aF aZ aP;have Z:=run_endRound (P:=P) jump aq;simp only at Z;rw [← bh] at Z;have a6:=St.trans (St.trans (St.trans O aw) V) a5;have fin:∃ v w',(Instr.endRound q.ax jump).run P a7= .ok v w'∧∃ u r',(Ending.returned v)= .returned u∧den r' (.bool jump.isNone)=some u∧St P G T r h w r' ⟨I.t.set l (.loop st jump ar aj av ae ah d2),I.nx⟩ w':=
               ⟨_,_,Z,_,a4,rfl,rfl,a6⟩
              cases e with
              | cn=>subst ab; exact fin
              | ret=>subst ab; exact fin
              | ext i=>subst ab; exact fin
             split at A
             · cases A;exact key none .ready J J J J
             · rename_i aT;cases A;cases e with
               | cn=>exact absurd rfl aT
               | ret=>exact key (some .ret) .done rfl rfl rfl rfl
               | ext i=>exact key (some<|.exit i) .done rfl rfl rfl rfl
           · cases A
         · cases A
       · cases A
     · cases A
   · cases A
 · cases A
end
end Go.Hb
namespace Go.Hb
section
variable {P:av} {G:Nat} {X:Xt} {ih:Tk→Rs} {n:Nat} {r:Rn} {T:Nat} {h:Hp} {w:ai}
theorem Fv {c:Bool} {p:Rs} {e:EX} {fr:Tr AV} {D:List AD} {h:Hp} (A:cond c p .no= .cd e fr D h):c=true∧p= .cd e fr D h:=by
 cases c
 · cases A
 · exact ⟨J,A⟩
theorem zA (ak:Good P G ih) {rd:Option Nat} {fr J:Tr AV} {D I:List AD} {l:Nat} {h':Hp} {e:EX} (he:nA G ih rd n fr D l h= .cd e J I h'):h.nx≤h'.nx∧
 ∀ (T:Nat) (r:Rn) (w:ai) (σ:Nat→ag) (Dl:List Deferred) (rr:Option Nat) (Q:bt→Act→ai→Prop) (q:Loc) (u:ag),h'.nx≤T→HR P G r T h w→r l=some q→dN r n fr σ→jd r D Dl→qf r rd rr→
   (∀ (r':Rn) (w':ai) (σ':Nat→ag) (E:List Deferred),St P G T r h w r' h' w'→dN r' n J σ'→jd r' I E→Q (jg e) (act ⟨n,E,[],rr⟩ σ') w')→rangePost (fe rr) 0 P q.ax Q (act ⟨n,Dl,[],rr⟩ σ) (.returned u) w:=by
 unfold nA at he;split at he
 · rename_i st A m L ps aQ body d ac;have key:cond (bj G l && aF l bX) (match A with
    | none=>Rs.cd .cn fr D ⟨h.t.set l (.loop .exhausted A m L ps aQ body d),h.nx⟩
    | some c=>ih (.cd rd n c fr D ⟨h.t.set l (.loop .exhausted A m L ps aQ body d),h.nx⟩)) .no= .cd e J I h'→st≠.busy→h.nx≤h'.nx∧
   ∀ (T:Nat) (r:Rn) (w:ai) (σ:Nat→ag) (Dl:List Deferred) (rr:Option Nat) (Q:bt→Act→ai→Prop) (q:Loc) (u:ag),h'.nx≤T→HR P G r T h w→r l=some q→dN r n fr σ→jd r D Dl→qf r rd rr→
     (∀ (r':Rn) (w':ai) (σ':Nat→ag) (E:List Deferred),St P G T r h w r' h' w'→dN r' n J σ'→jd r' I E→Q (jg e) (act ⟨n,E,[],rr⟩ σ') w')→rangePost (fe rr) 0 P q.ax Q (act ⟨n,Dl,[],rr⟩ σ) (.returned u) w:=by
     intro he bh;obtain ⟨O,he⟩:=Fv he;simp only [bg] at O;have run:∀ (r:Rn) (w:ai) (T:Nat) (q:Loc),HR P G r T h w→r l=some q→∃ w',(Instr.endLoop q.ax).run P w= .ok A w'∧St P G T r h w r ⟨h.t.set l (.loop .exhausted A m L ps aQ body d),h.nx⟩ w':=by
      intro r w T q hr C;obtain ⟨q',fn,ay,aw,ad,hw,aj,ap,an⟩:=hr.loop ac;rw [C] at ad; cases ad;exact ⟨_,run_endLoop (P:=P) hw bh,hr.wy (st':= .exhausted) (pe':=A) ac O.1 O.2 C hw aj ap an⟩
     cases A with
     | none=>
       cases he;refine ⟨aV _,fun T r w σ Dl rr Q q u hT hr C V U ae Z=> ?_⟩;obtain ⟨w',ab,M⟩:=run r w T q hr C;exact ⟨none,w',ab,Z r w' σ Dl M V U⟩
     | some c=>
       simp only at he;have s1:=ak<|.cd rd n c fr D ⟨h.t.set l (.loop .exhausted (some c) m L ps aQ body d),h.nx⟩;rw [he] at s1;obtain ⟨n1,s1⟩:=s1;refine ⟨n1,fun T r w σ Dl rr Q q u hT hr C V U ae Z=> ?_⟩;obtain ⟨w',ab,M⟩:=run r w T q hr C;exact ⟨some c,w',ab,s1 T r w' σ Dl rr Q hT M.hr V U ae fun aq au av ah ar am al=>Z aq au av ah (M.trans ar) am al⟩
   split at he
   · cases he
   · rename_i ao;exact key he ao
 · cases he
theorem IZ (ad:Good P G ih) (aK:fJ P) (aL:∀ f args h v h',ih (.cl f args h)= .rv v h'→∃ fn c,P.funcs[f]? =some fn∧fn.body=some c) {rd:Option Nat} {g:aY} {ps:List Nat} {aQ body:bJ} {fr aJ:Tr AV} {D aI:List AD} {h':Hp} {e:EX} (he:oh ih G rd n g ps aQ body fr D h= .cd e aJ aI h'):
 dg P G rd n (fun rr Q a w=>(Code.rangeFunc g ⟨ps⟩ aQ body).wpIn (fe rr) 0 P Q a w) fr D h e aJ aI h':=by
 unfold oh at he;split at he
 · rename_i f a c hg;split at he
   · split at he
     · rename_i h1 aM;split at he
       · rename_i ak Z;split at he
         · rename_i v aU V;have s1:=ad<|.cl f (a++(.fO h1.nx::c)) ak;rw [V] at s1;obtain ⟨m1,s1⟩:=s1;obtain ⟨a5,s2⟩:=zA ad he;have bc:=jJ aM;have a4:=jJ Z;obtain ⟨aj,ai,aw,an⟩:=aL _ _ _ _ _ V;have ao:=aK f aj ai aw an;refine ⟨U,fun T r w σ Dl rr Q hT hr M aq ae ay=> ?_⟩;have aZ:rr=none:=by
            cases rr with
            | none=>rfl
            | some k=>exact ae.elim
           subst aZ;refine wpIn_rangeFunc ?_;intro fn _;have L:=p7 (N:=⟨n,Dl,[],none⟩) hr.eG M hg;obtain ⟨A,c',ha,ap,L⟩:=kV L;obtain ⟨bi,aN,aB⟩:=hr.cS aM U 0 (w':=w.alloc<|.deferred<|some []) rfl rfl rfl fun r' _ _=>rfl;have a0:(w.alloc<|.deferred<|some []).heap.size=w.heap.size+1:=World.size_alloc _ _;obtain ⟨ac,O,E⟩:=aB.hr.cS Z U 0 (w':=(w.alloc<|.deferred<|some []).alloc<|.loop {state:= .ready,pending:=none,fn:=fn,tmps:=(act ⟨n,Dl,[],none⟩ σ).tmps,params:=⟨ps⟩,assign:=aQ,body:=body,defers:=w.heap.size}) rfl rfl rfl fun r' hle _=>by
            refine ⟨fn,(act ⟨n,Dl,[],none⟩ σ).tmps,w.heap.size,J,⟨_,hle _ _ aN,J⟩,by simp [act],fun i hi=> ?_⟩;rw [iy,if_pos hi];exact ka hle<|ka aB.le<|M i hi
           have aD:=aB.trans E;rw [a0] at O;have al:=eO (gw aD.le ha)<|dB (show den ac (.fO h1.nx)=some (.func (.yield<|w.heap.size+1) #[] #[]) from by simp only [den,O])<|gw aD.le ap;have az:=s1 T ac _ _ U E.hr al;refine ⟨w.heap.size+1,[{target:= .collected w.heap.size,args:= #[]}],((w.alloc<|.deferred<|some []).alloc<|.loop {state:= .ready,pending:=none,fn:=fn,tmps:=(act ⟨n,Dl,[],none⟩ σ).tmps,params:=⟨ps⟩,assign:=aQ,body:=body,defers:=w.heap.size}),{target:= .fn (.func f) c'.toArray,args:=A.toArray++ #[.func (.yield<|w.heap.size+1) #[] #[]]},((w.alloc<|.deferred<|some []).alloc<|.loop {state:= .ready,pending:=none,fn:=fn,tmps:=(act ⟨n,Dl,[],none⟩ σ).tmps,params:=⟨ps⟩,assign:=aQ,body:=body,defers:=w.heap.size}),f,(A++(.func (.yield<|w.heap.size+1) #[] #[]::c')).toArray,_,?_,?_,fun _ _=>trivial,?_,fun h0=>(by cases h0),callsIn_wide.2<|jV az ?_⟩
           · exact run_enterLoop_outer _ _ _ _ _
           · have au:(act ⟨n,Dl,[],none⟩ σ).eval g= .func (.func f) A.toArray c'.toArray:=by rw [dq]; exact L
             simp only [resolve,au];simp [go_sem]
           · have am:A.toArray++ #[.func (.yield<|w.heap.size+1) #[] #[]]++c'.toArray=(A++(.func (.yield<|w.heap.size+1) #[] #[]::c')).toArray:=by simp
             have :=ao (A++(.func (.yield<|w.heap.size+1) #[] #[]::c')).toArray<|(w.alloc<|.deferred<|some []).alloc<|.loop {state:= .ready,pending:=none,fn:=fn,tmps:=(act ⟨n,Dl,[],none⟩ σ).tmps,params:=⟨ps⟩,assign:=aQ,body:=body,defers:=w.heap.size};simp only [invoke,am];exact this
           · rintro aS aF ⟨u,rfl,ag,_,I⟩;have ju:=aD.trans I;have hm:ag h.nx=some ⟨w.heap.size,0,0⟩:=I.le _ _<|E.le _ _ aN;exact s2 T ag aF σ ({target:= .collected w.heap.size,args:= #[]} ::Dl) none Q ⟨w.heap.size+1,0,0⟩ u hT I.hr (I.le _ _ O) (M.le ju.le) ⟨⟨_,hm,J⟩,l9 ju.le aq⟩ trivial fun aA aG aH ah aE av ar=>ay aA aG aH ah (ju.trans aE) av ar
         · cases he
       · cases he
     · cases he
   · rename_i bd;split at he
     · rename_i bj bf m0 a9 bg a6 a7 d aW;split at he
       · rename_i ak Z;split at he
         · rename_i v aU V;have s1:=ad<|.cl f (a++(.fO h.nx::c)) ak;rw [V] at s1;obtain ⟨m1,s1⟩:=s1;obtain ⟨a5,s2⟩:=zA ad he;have a4:=jJ Z;obtain ⟨aj,ai,aw,an⟩:=aL _ _ _ _ _ V;have ao:=aK f aj ai aw an;refine ⟨U,fun T r w σ Dl rr Q hT hr M aq ae ay=> ?_⟩;obtain ⟨aR,rfl⟩:∃ aR,rr=some aR:=by
            cases rr with
            | none=>exact ae.elim
            | some k=>exact ⟨k,rfl⟩
           obtain ⟨C,aO,aX⟩:=ae;obtain ⟨bh,a8,bl,ab,aP,a1,aV,bb,ba⟩:=hr.loop aW;rw [aO] at aP; cases aP;subst aX;refine wpIn_rangeFunc ?_;intro fn _;have L:=p7 (N:=⟨n,Dl,[],some C.ax⟩) hr.eG M hg;obtain ⟨A,c',ha,ap,L⟩:=kV L;obtain ⟨ac,O,E⟩:=hr.cS Z U 0 (w':=w.alloc<|.loop {state:= .ready,pending:=none,fn:=fn,tmps:=(act ⟨n,Dl,[],some C.ax⟩ σ).tmps,params:=⟨ps⟩,assign:=aQ,body:=body,defers:=ab}) rfl rfl rfl fun r' hle _=>by
            obtain ⟨x,a2,a3⟩:=aV;refine ⟨fn,(act ⟨n,Dl,[],some C.ax⟩ σ).tmps,ab,J,⟨x,hle _ _ a2,a3⟩,by simp [act],fun i hi=> ?_⟩;rw [iy,if_pos hi];exact ka hle<|M i hi
           have al:=eO (gw E.le ha)<|dB (show den ac (.fO h.nx)=some (.func (.yield w.heap.size) #[] #[]) from by simp only [den,O])<|gw E.le ap;have az:=s1 T ac _ _ U E.hr al;refine ⟨w.heap.size,[],(w.alloc<|.loop {state:= .ready,pending:=none,fn:=fn,tmps:=(act ⟨n,Dl,[],some C.ax⟩ σ).tmps,params:=⟨ps⟩,assign:=aQ,body:=body,defers:=ab}),{target:= .fn (.func f) c'.toArray,args:=A.toArray++ #[.func (.yield w.heap.size) #[] #[]]},(w.alloc<|.loop {state:= .ready,pending:=none,fn:=fn,tmps:=(act ⟨n,Dl,[],some C.ax⟩ σ).tmps,params:=⟨ps⟩,assign:=aQ,body:=body,defers:=ab}),f,(A++(.func (.yield w.heap.size) #[] #[]::c')).toArray,_,?_,?_,fun aT _=>kX _ aT,?_,fun h0=>(by cases h0),uI<|jV az ?_⟩
           · exact run_enterLoop_inner a1 _ _ _ _ _
           · have au:(act ⟨n,Dl,[],some C.ax⟩ σ).eval g= .func (.func f) A.toArray c'.toArray:=by rw [dq]; exact L
             simp only [resolve,au];simp [go_sem]
           · have am:A.toArray++ #[.func (.yield w.heap.size) #[] #[]]++c'.toArray=(A++(.func (.yield w.heap.size) #[] #[]::c')).toArray:=by simp
             have :=ao (A++(.func (.yield w.heap.size) #[] #[]::c')).toArray<|w.alloc<|.loop {state:= .ready,pending:=none,fn:=fn,tmps:=(act ⟨n,Dl,[],some C.ax⟩ σ).tmps,params:=⟨ps⟩,assign:=aQ,body:=body,defers:=ab};simp only [invoke,am];exact this
           · rintro aS aF ⟨u,rfl,ag,_,I⟩;have ju:=E.trans I;exact s2 T ag aF σ _ (some C.ax) Q ⟨w.heap.size,0,0⟩ u hT I.hr (I.le _ _ O) (M.le ju.le) (l9 ju.le aq) ⟨C,ju.le _ _ aO,J⟩ fun aA aG aH ah aE av ar=>ay aA aG aH ah (ju.trans aE) av ar
         · cases he
       · cases he
     · cases he
 · cases he
theorem wb {N:Fm} {σ:Nat→ag} (hr:HR P G r T h w) {fr:Tr AV} (J:dN r N.n fr σ):∀ {l:List ResultVar} {vs:List AV},g8 P N.n fr h l=some vs→∃ us,aK r vs=some us∧(l.mapM<|kv (act N σ).tmps).run P w= .ok us w
 | [],vs,A=>by
   simp only [g8,bH] at A;subst A;exact ⟨[],by simp [aK],by simp⟩
 | .tmp t::l,vs,A=>by
   simp only [g8] at A;split at A
   · rename_i ad E;replace A:=a0 A; obtain ⟨C,A⟩:=A;cases A;obtain ⟨us,h1,L⟩:=wb hr J E;have M:=J t<|cz.1 C;have U:=jt (P:=P) (w:=w)<|qg (P:=P) (N:=N) (σ:=σ) (w:=w) (t:=t);have I:ev N σ (.tmp t)=σ t:=by simp only [ev,C,cond_true]
     rw [I] at U;exact ⟨σ t::us,dB M h1,by simp [DT,U,L]⟩
   · cases A
 | .cell a t::l,vs,A=>by
   simp only [g8] at A;split at A
   · rename_i ad E;replace A:=a0 A; obtain ⟨C,A⟩:=A;split at A
     · rename_i v da;cases A;obtain ⟨us,h1,L⟩:=wb hr J E;have M:=J a<|cz.1 C;have I:ev N σ (.tmp a)=σ a:=by simp only [ev,C,cond_true]
       obtain ⟨b,off,u,V,hu,Z⟩:=Av hr da M;have ab:j3 P N σ w (.cell a t) u:=by
        rcases Z with ⟨ha,O⟩ | ⟨m,cs,ha,rfl,E,O⟩
        · exact iH (I.trans V) ha O
        · exact iI (I.trans V) ha E O
       have ac:=jt ab;exact ⟨u::us,dB hu h1,by simp [DT,ac,L]⟩
     · cases A
   · cases A
theorem wh {N:Fm} {σ:Nat→ag} {fn:Func} (hr:HR P G r T h w) {fr:Tr AV} (I:dN r N.n fr σ) {vs:List AV} (O:g8 P N.n fr h fn.results.toList=some vs):∃ u,den r (mz vs)=some u∧(results fn (act N σ).tmps).run P w= .ok u w:=by
 obtain ⟨us,h1,E⟩:=wb hr I O;have U:(results fn (act N σ).tmps)=(do let vs ← fn.results.mapM (kv (act N σ).tmps); pure (if h:vs.size=1 then vs[0] else .tuple vs)):=rfl;have C:=c7 h1;have A:(fn.results.mapM<|kv (act N σ).tmps).run P w= .ok us.toArray w:=by
  have :fn.results=fn.results.toList.toArray:=by simp
  rw [this,List.mapM_toArray];simp [E]
 rw [U];unfold mz;split
 · obtain ⟨u,rfl⟩:=qM.1 (show us.length=1 from C);exact ⟨u,et h1,by simp [A]⟩
 · rename_i M;refine ⟨.tuple us.toArray,by simp only [den,h1],?_⟩;have L:us.length≠1:=fun e=>by
    rw [C] at e;obtain ⟨v,rfl⟩:=qM.1 e;exact M v J
   simp [A,L]
end
end Go.Hb
namespace Go.Hb
section
variable {P:av} {G:Nat} {X:Xt} {ih:Tk→Rs} {n:Nat} {r:Rn} {T:Nat} {h:Hp} {w:ai}
theorem zV:∀ (l:List AV) (k:Nat) (fr:Tr AV) (i:Nat),k+l.length≤1048574→(gV k l fr).get i=if k≤i∧i < k+l.length then l[i - k]? else fr.get i
 | [],k,fr,i,_=>by rw [gV,if_neg (fun h=>by have :=h.1; have :=h.2; simp only [iU] at this; omega)]
 | v::l,k,fr,i,h=>by
   simp only [dx] at h;rw [gV,zV l (k+1) _ i U,Tr.kg _ _ _ _ (cz.2 (show k < 1048574 by omega))];by_cases h1:k+1≤i∧i < k+1 +l.length
   · rw [if_pos h1,if_pos (by simp only [dx]; omega)];obtain ⟨m,hm⟩:∃ m,i - k=m+1:=⟨i - k - 1,U⟩
     rw [hm,gK,show i - (k+1)=m from by omega]
   · rw [if_neg h1];by_cases A:i=k
     · rw [if_pos A,if_pos (by simp only [dx]; omega),A]; simp
     · rw [if_neg A,if_neg (by simp only [dx]; omega)]
theorem uO {args:List AV} {L:List ag} (A:aK r args=some L) (hb:bj args.length n=true) (hn:aF n bX=true):dN r n (gV 0 args .nil) (dj L):=by
 have hb:=bQ hb;have hn:n < 1048574:=cz.1 hn;have I:=c7 A;intro i hi;simp only [c8,zV args 0 .nil i U,dj,j2,true_and,cK,Nat.sub_zero];by_cases h1:i < args.length
 · rw [if_pos h1,bK h1];obtain ⟨u,C,E⟩:=nu A<|bK h1;simp only [E,b9,C,iw]
 · rw [if_neg h1,Tr.get_nil];simp only [gS,b9];rw [iT U]; rfl
theorem yL {f:FuncId} {args:Array ag} {u:FrameMode} {R A:Ending→FrameMode→ai→Prop} (C:CallsDIn iP 0 P f args u w R) (hr:∀ e u w,R e u w→A e u w):CallsDIn iP 0 P f args u w A:=
 ⟨C.1,fun c cs hu E=>let ⟨e,u',w',fr,h1,h2⟩:=C.2 c cs hu E; ⟨e,u',w',fr,hr _ _ _ h1,h2⟩⟩
theorem Fc {f:FuncId} {fn:Func} {id N d:Nat} {ty:au} {pos :String} {af:Array cH} {rest:List aE} {y:bJ} {args:List ag} {R:ai→Prop}
 (I:P.funcs[f]? =some fn) (hb:fn.body=some (.seq (.region id ⟨⟨some d,.call ⟨.builtin .recover,⟨[]⟩,⟨[]⟩⟩,ty,pos,af,none⟩::rest⟩ false) y)) (ae:fn.ntmps=N) (hn:bj args.length N=true)
 (h:wpListIn (fe none) 0 P (⟨some d,.call ⟨.builtin .recover,⟨[]⟩,⟨[]⟩⟩,ty,pos,af,none⟩::rest).toArray (Exit.then (y.wpIn (fe none) 0 P fun e a w=>(e= .normal∨e= .ret)∧a.defers= []∧∃ v,(results fn a.tmps).run P w= .ok v w∧R w) fun _ _ _=>False) rest (act ⟨N,[],[],none⟩<|bo (dj args) d .nilIface) w):
 CallsDIn iP 0 P f args.toArray .returning w fun e ar w'=> ∃ v,e= .returned v∧ar= .returning∧R w':=by
 subst ae;refine ⟨trivial,fun A cs hu _=> ?_⟩
 let b:Frame:= {(default:Frame) with fn:=f,kind:= .deferred}
 have ah:Frame.enter P f args.toArray .deferred=b.at (act ⟨fn.ntmps,[],[],none⟩<|dj args) [.code (.seq (.region id ⟨⟨some d,.call ⟨.builtin .recover,⟨[]⟩,⟨[]⟩⟩,ty,pos,af,none⟩::rest⟩ false) y)]:=by
  rw [← oB fn args [] hn];simp [Frame.enter,Frame.at,I,hb,b]
 have ap:ir (⟨⟨some d,.call ⟨.builtin .recover,⟨[]⟩,⟨[]⟩⟩,ty,pos,af,none⟩::rest⟩:Array aE).size=0::(lO 1 rest.length):=by
  rw [eh,dx,List.range_eq_range',List.range'_succ]
 have ak:=wpOpsIn_eq_wpListIn (F:=fe none) (n:=0) (P:=P) (ops:=(⟨some d,.call ⟨.builtin .recover,⟨[]⟩,⟨[]⟩⟩,ty,pos,af,none⟩::rest).toArray) (Q:=Exit.then (y.wpIn (fe none) 0 P fun e a w=>(e= .normal∨e= .ret)∧a.defers= []∧∃ v,(results fn a.tmps).run P w= .ok v w∧R w) fun _ _ _=>False) rest 1 fun j=>by simp [tK]
 rw [← ak] at h;obtain ⟨e,av,w',Z,C⟩:=wp_opsIn _ _ _ h b [.code y] (A::cs) rfl trivial (room_wide _);have C:=(arrivesIn_iff (b:=b) (fun _ _=>stepsIn_wide) rfl).1 C;have an:step P (lone (b.at (act ⟨fn.ntmps,[],[],none⟩<|dj args) (.inRegion (⟨some d,.call ⟨.builtin .recover,⟨[]⟩,⟨[]⟩⟩,ty,pos,af,none⟩::rest).toArray (0::lO 1 rest.length)::[.code y])) (A::cs) w)=
  .next (lone (b.at (act ⟨fn.ntmps,[],[],none⟩<|bo (dj args) d .nilIface) (.inRegion (⟨some d,.call ⟨.builtin .recover,⟨[]⟩,⟨[]⟩⟩,ty,pos,af,none⟩::rest).toArray (lO 1 rest.length)::[.code y])) (A::cs) w):=by
  have hg:=stepG_op (P:=P) (b:=b) (a:=act ⟨fn.ntmps,[],[],none⟩<|dj args) (k:= [.code y]) (cs:=A::cs) (w:=w) (ops:=(⟨some d,.call ⟨.builtin .recover,⟨[]⟩,⟨[]⟩⟩,ty,pos,af,none⟩::rest).toArray) (i:=0) (rest:=lO 1 rest.length) (o:=⟨some d,.call ⟨.builtin .recover,⟨[]⟩,⟨[]⟩⟩,ty,pos,af,none⟩) rfl (fE _ rfl _);have aq:(execOp (act ⟨fn.ntmps,[],[],none⟩<|dj args).eval ⟨some d,.call ⟨.builtin .recover,⟨[]⟩,⟨[]⟩⟩,ty,pos,af,none⟩).run P w= .ok .recover w:=by
   rw [dq];simp [execOp,resolve,invoke,builtin]
  have ac:=tryRecover_deferred (fr:=b.at (act ⟨fn.ntmps,[],[],none⟩<|dj args) (.inRegion (⟨some d,.call ⟨.builtin .recover,⟨[]⟩,⟨[]⟩⟩,ty,pos,af,none⟩::rest).toArray (0::lO 1 rest.length)::[.code y])) rfl (A::cs);have al:recoverD (A::cs)=none:=by simp [recoverD,hu]
  have aj:(b.at (act ⟨fn.ntmps,[],[],none⟩<|dj args) (.inRegion (⟨some d,.call ⟨.builtin .recover,⟨[]⟩,⟨[]⟩⟩,ty,pos,af,none⟩::rest).toArray (0::lO 1 rest.length)::[.code y])).finish .nilIface=b.at (act ⟨fn.ntmps,[],[],none⟩<|bo (dj args) d .nilIface) (.inRegion (⟨some d,.call ⟨.builtin .recover,⟨[]⟩,⟨[]⟩⟩,ty,pos,af,none⟩::rest).toArray (lO 1 rest.length)::[.code y]):=by
   rw [Frame.finish_at];have :=eD ⟨fn.ntmps,[],[],none⟩ (dj args) (some d) .nilIface;simp only [dd] at this;rw [← this]; rfl
  refine step_lone_go ?_;rw [hg,← aj];simp only [Frame.at] at ac ⊢;simp [stepG.apply,aq,ac,al]
 have O:Steps P (lone (Frame.enter P f args.toArray .deferred) (A::cs) w) (lone (b.at (act ⟨fn.ntmps,[],[],none⟩<|bo (dj args) d .nilIface) (.inRegion (⟨some d,.call ⟨.builtin .recover,⟨[]⟩,⟨[]⟩⟩,ty,pos,af,none⟩::rest).toArray (lO 1 rest.length)::[.code y])) (A::cs) w):=by
  rw [ah];refine .head step_seq<|.head step_region ?_;rw [ap];exact .one an
 cases e with
 | normal=>
   obtain ⟨aw,L,ad,am,E⟩:=Z b [] (A::cs) rfl trivial (room_wide _);have E:=(arrivesIn_iff (b:=b) (fun _ _=>stepsIn_wide) rfl).1 E;obtain ⟨kZ,U,v,ab,M⟩:=am;have V:({A with mode:= .returning} :Frame)=A:=by rw [← hu]
   rcases kZ with rfl | rfl
   · refine ⟨.returned v,.returning,ad,{b.at L [] with mode:= .returning},⟨v,J,J,M⟩,?_,J,J,J,U,fn,I,ab⟩;rw [V];exact stepsIn_wide.2<|Steps.trans O<|Steps.trans C<|Steps.trans E<|.one step_end
   · obtain ⟨todo,ao⟩:=E;refine ⟨.returned v,.returning,ad,{b.at L todo with mode:= .returning},⟨v,J,J,M⟩,?_,J,J,J,U,fn,I,ab⟩;rw [V];exact stepsIn_wide.2<|Steps.trans O<|Steps.trans C ao
 | _=>exact Z.elim
theorem vx (M:Good P G ih) (L:fJ P) (U:∀ f args h v h',ih (.df f args h)= .rv v h'→∃ fn c,P.funcs[f]? =some fn∧fn.body=some c):∀ {D:List AD} {h h':Hp},jo G ih D h=some h'→h.nx≤h'.nx∧∀ (T:Nat) (r:Rn) (w:ai) (Dl:List Deferred) (fn:Func) (tmps:Array ag) (R:Ending→ai→Prop),
 h'.nx≤T→HR P G r T h w→jd r D Dl→(∀ (r':Rn) (w':ai),St P G T r h w r' h' w'→∃ v,(results fn tmps).run P w'= .ok v w'∧R (.returned v) w')→LeavesInM iP 0 P fn tmps R Dl .returning w
 | [],h,h',he=>by
   simp only [jo,bH] at he;subst he;refine ⟨aV _,fun T r w Dl fn tmps R hT hr A C=> ?_⟩;have :Dl= []:=by cases Dl; rfl; exact A.elim
   subst this;exact C r w<|St.refl hr
 | .mark d::D,h,h',he=>by
   simp only [jo] at he;split at he
   · rename_i Z;replace he:=a0 he; obtain ⟨O,he⟩:=he;simp only [bg] at O;obtain ⟨n1,s1⟩:=vx M L U he;refine ⟨n1,fun T r w Dl fn tmps R hT hr A C=> ?_⟩;cases Dl with
     | nil=>exact A.elim
     | cons x Dl=>
       obtain ⟨⟨q,ab,rfl⟩,A⟩:=A;obtain ⟨q',ac,E⟩:=hr.live d _ Z;rw [ab] at ac; cases ac;have E:w.heap[q.ax]? =some (.deferred<|some []):=E;have aP:=(eM.1 E).1;have st:St P G T r h w r ⟨h.t.set d (.kd false),h.nx⟩ (w.putObj q.ax<|.deferred none):=
        hr.kr Z O.2 ab (bQ O.1) (by rw [DE aP]; rfl) ⟨rfl,rfl,by simp [DC],fun k _ C=>DD C⟩
       exact ⟨Dk,.inl ⟨q.ax,_,J,run_takeDeferred E,s1 T r _ Dl fn tmps R hT st.hr A fun r' w' st'=>C r' w'<|st.trans st'⟩⟩
   · cases he
 | .fn f args::D,h,h',he=>by
   simp only [jo] at he;split at he
   · rename_i v h1 V;have I:=M<|.df f args h;rw [V] at I;obtain ⟨am,I⟩:=I;obtain ⟨ae,ad,al,ah⟩:=U _ _ _ _ _ V;have aj:=L f ae ad al ah;obtain ⟨n1,s1⟩:=vx M L U he;refine ⟨cX am n1,fun T r w Dl fn tmps R hT hr A C=> ?_⟩;cases Dl with
     | nil=>exact A.elim
     | cons x Dl=>
       obtain ⟨⟨a,cap,aq,ha,rfl,ak⟩,A⟩:=A;refine ⟨Dk,.inr ⟨fun h0=>(by cases h0),.func f,cap,f,a.toArray,J,?_,fun _ _=>trivial,yL (I T r w a (cX n1 hT) hr ha) ?_⟩⟩
       · simp only [invoke,ak];exact aj a.toArray w
       · rintro e ar w' ⟨v,rfl,rfl,r',st⟩;exact s1 T r' w' Dl fn tmps R hT st.hr (l9 st.le A) fun an ap ao=>C an ap<|st.trans ao
   · cases he
def yi (P:av) (G:Nat) (X:Xt) (ih:Tk→Rs):Prop := ∀ (rd:Option Nat) (n id:Nat) (ops:List aE) (fr:Tr AV) (D:List AD) (h:Hp),match ry P G X ih n ops fr D h with
 | .cd e C A h'=>dg P G rd n (fun rr Q a w=>(De id ⟨ops⟩ true).wpIn (fe rr) 0 P Q a w) fr D h e C A h'
 | .no=>True
 | _=>False
theorem dg.bind {rd:Option Nat} {W W' I:Option Nat→(bt→Act→ai→Prop)→Act→ai→Prop} {fr O U:Tr AV} {D C E:List AD} {h h1 V:Hp} {L M:EX} (s1:dg P G rd n W fr D h L O C h1) (s2:dg P G rd n W' O C h1 M U E V)
 (ad:∀ rr Q a w,W rr (fun e a w=>e=jg L∧W' rr Q a w) a w→I rr Q a w):dg P G rd n I fr D h M U E V:=by
 obtain ⟨n1,s1⟩:=s1;obtain ⟨n2,s2⟩:=s2;refine ⟨cX n1 n2,fun T r w σ Dl rr Q hT hr aj ae Z am=>ad rr Q _ w ?_⟩;exact s1 T r w σ Dl rr _ (cX n2 hT) hr aj ae Z fun an aq au ab A ak ag=>⟨J,s2 T an aq au ab rr Q hT A.hr ak ag (Bc A.le Z) fun ao ar av ac ap al ah=>am ao ar av ac (A.trans ap) al ah⟩
theorem dg.map {rd:Option Nat} {W W':Option Nat→(bt→Act→ai→Prop)→Act→ai→Prop} {fr I:Tr AV} {D A:List AD} {h h1:Hp} {C E:EX} (s1:dg P G rd n W fr D h C I A h1)
 (M:∀ rr Q a w,W rr (fun e a w=>e=jg C∧Q (jg E) a w) a w→W' rr Q a w):dg P G rd n W' fr D h E I A h1:=by
 obtain ⟨n1,s1⟩:=s1;exact ⟨n1,fun T r w σ Dl rr Q hT hr V O ac ab=>M rr Q _ w<|s1 T r w σ Dl rr _ hT hr V O ac fun ad ag ah L ae Z U=>⟨J,ab ad ag ah L ae Z U⟩⟩
theorem JY (V:Good P G ih) (ad:fJ P) (ah:∀ f args h v h',ih (.df f args h)= .rv v h'→∃ fn c,P.funcs[f]? =some fn∧fn.body=some c) (f:Nat) (args:List AV) (h:Hp):kR P G (.cl f args h) (eL P G X ih<|.cl f args h):=by
 show kR P G (.cl f args h) (match P.funcs[f]? with
  | some fn=>match fn.body with
    | some c=>cond (bj args.length fn.ntmps && aF fn.ntmps bX) (match ih (.cd none fn.ntmps c (gV 0 args .nil) [] h) with
      | .cd (.ext _) _ _ _=> .no
      | .cd _ fr D h=>match jo G ih D h with
        | some h=>match g8 P fn.ntmps fr h fn.results.toList with
          | some vs=> .rv (mz vs) h
          | none=> .no
        | none=> .no
      | _=> .no) .no
    | none=> .no
  | none=> .no)
 split
 · rename_i fn ak;split
   · rename_i c ae;cases hc:(bj args.length fn.ntmps && aF fn.ntmps bX)
     · trivial
     · simp only [cond_true];simp only [bg] at hc;have key:∀ (e:EX) (fr:Tr AV) (D:List AD) (h1 A:Hp) (vs:List AV),(e= .cn∨e= .ret)→ih (.cd none fn.ntmps c (gV 0 args .nil) [] h)= .cd e fr D h1→jo G ih D h1=some A→g8 P fn.ntmps fr A fn.results.toList=some vs→kR P G (.cl f args h) (.rv (mz vs) A):=by
        intro e fr D h1 A vs ai M C E;have O:=V<|.cd none fn.ntmps c (gV 0 args .nil) [] h;rw [M] at O;obtain ⟨am,O⟩:=O;obtain ⟨n1,s1⟩:=vx V ad ah C;refine ⟨cX am n1,fun T r w L hT hr Z=> ?_⟩;have hlen:=c7 Z;refine callsIn_wide.1<|callsIn_of_wp_marks (F:=iP) (n:=0) ak ae trivial ?_;rw [oB fn L [] (by rw [hlen]; exact hc.1)];refine O T r w (dj L) [] none _ (cX n1 hT) hr (uO Z hc.1 hc.2) trivial trivial fun an ac ap I ab aj ag=> ?_;have fin:LeavesInM iP 0 P fn (act ⟨fn.ntmps,I,[],none⟩ ap).tmps (fun e w'=> ∃ v,e= .returned v∧∃ r',den r' (mz vs)=some v∧St P G T r h w r' A w') I .returning ac:=by
         refine s1 T an ac I fn _ _ hT ab.hr ag fun ao aq U=> ?_;obtain ⟨u,hu,al⟩:=wh (N:=⟨fn.ntmps,I,[],none⟩) U.hr (aj.le U.le) E;exact ⟨u,al,u,J,ao,hu,ab.trans U⟩
        rcases ai with rfl | rfl <;> exact fin
       cases M:ih (.cd none fn.ntmps c (gV 0 args .nil) [] h) with
       | no=>trivial
       | rv v h1=>trivial
       | cd e fr D h1=>
         cases e with
         | ext i=>trivial
         | cn=>
           simp only;cases C:jo G ih D h1 with
           | none=>trivial
           | some A=>
             simp only;cases E:g8 P fn.ntmps fr A fn.results.toList with
             | none=>trivial
             | some vs=>exact key .cn fr D h1 A vs (.inl rfl) M C E
         | ret=>
           simp only;cases C:jo G ih D h1 with
           | none=>trivial
           | some A=>
             simp only;cases E:g8 P fn.ntmps fr A fn.results.toList with
             | none=>trivial
             | some vs=>exact key .ret fr D h1 A vs (.inr rfl) M C E
   · trivial
 · trivial
end
end Go.Hb
namespace Go.Hb
section
variable {P:av} {G:Nat} {X:Xt} {ih:Tk→Rs} {n:Nat} {r:Rn} {T:Nat} {h:Hp} {w:ai}
theorem JZ (Z:Good P G ih) (an:gQ P G X) (am:fJ P) (ap:∀ f args h v h',ih (.cl f args h)= .rv v h'→∃ fn c,P.funcs[f]? =some fn∧fn.body=some c) (f:Nat) (args:List AV) (h:Hp):kR P G (.df f args h) (eL P G X ih<|.df f args h):=by
 cases hs:eL P G X ih (.df f args h) with
 | no=>trivial
 | cd e fr D h1=>
   exfalso;simp only [eL] at hs;split at hs;rename_i fn ae;split at hs;rename_i c ab;cases hc:(bj args.length fn.ntmps && aF fn.ntmps bX);rw [hc] at hs; cases hs;rw [hc] at hs;simp only [cond_true] at hs;split at hs;cases hs;split at hs <;> cases hs;cases hs;cases hs;cases hs
 | rv v h'=>
   simp only [eL] at hs;split at hs;rename_i fn ae;split at hs;rename_i c ab;cases hc:(bj args.length fn.ntmps && aF fn.ntmps bX);rw [hc] at hs; cases hs;rw [hc] at hs;simp only [cond_true] at hs;simp only [bg] at hc;split at hs;cases hs;rename_i e aE h1 ag A;split at hs;rename_i vs ah;cases hs;split at A;rename_i id d ty pos af rest y;split at A;rename_i aD aw;split at A;rename_i ak U av;obtain ⟨n1,s1⟩:=qc Z an am ap av;have s2:=Z<|.cd none fn.ntmps y ak [] U;rw [A] at s2;obtain ⟨n2,s2⟩:=s2;refine ⟨cX n1 n2,fun T r w L hT hr I=> ?_⟩;have hlen:=c7 I;refine Fc (R:=fun w'=> ∃ r',St P G T r h w r' h' w') ae ab J (by rw [hlen]; exact hc.1) ?_;have ar:=ox aw (uO I hc.1 hc.2) (show den r .db=some .nilIface from rfl);refine s1 T r w (bo (dj L) d .nilIface) [] none _ (cX n2 hT) hr ar trivial trivial fun ax ay aA aj ai au aq=> ?_;refine s2 T ax ay aA aj none _ hT ai.hr au aq trivial fun O az aB E C ad ac=> ?_;have V:E= []:=by cases E; rfl; exact ac.elim
   subst V;obtain ⟨u,hu,M⟩:=wh (N:=⟨fn.ntmps,[],[],none⟩) C.hr ad ah;have he:jg e= .normal∨jg e= .ret:=by
    cases e with
    | cn=>exact .inl rfl
    | ret=>exact .inr rfl
    | ext i=>exact (ag i rfl).elim
   exact ⟨he,J,u,M,O,ai.trans C⟩;cases A;cases A;have s2:=Z<|.cd none fn.ntmps c (gV 0 args .nil) [] h;rw [A] at s2;obtain ⟨n2,s2⟩:=s2;refine ⟨n2,fun T r w L hT hr I=> ?_⟩;have hlen:=c7 I;have ao:=callsDIn_of_wp (F:=iP) (n:=0) (u:= .returning) (w:=w) (args:=L.toArray) (R:=fun e w'=> ∃ v,e= .returned v∧∃ r',St P G T r h w r' h' w') ae ab trivial (by
    rw [oB fn L [] (by rw [hlen]; exact hc.1)];refine s2 T r w (dj L) [] none _ hT hr (uO I hc.1 hc.2) trivial trivial fun O az aB E C ad ac=> ?_;have V:E= []:=by cases E; rfl; exact ac.elim
    subst V;obtain ⟨u,hu,M⟩:=wh (N:=⟨fn.ntmps,[],[],none⟩) C.hr ad ah;cases e with
    | cn=>exact ⟨rfl,u,M,u,rfl,O,C⟩
    | ret=>exact ⟨rfl,u,M,u,rfl,O,C⟩
    | ext i=>exact (ag i rfl).elim)
   exact yL ao fun e aG w' ⟨h1,v,U,al⟩=>⟨v,U,h1,al⟩
   cases hs;cases hs;cases hs;cases hs
theorem xD {c:bJ} {rr:Option Nat} {Q:bt→Act→ai→Prop} {a:Act} {w:ai} (Z:c.wpIn (fe rr) 0 P (Exit.then (sX P c rr Q) Q) a w):sX P c rr Q a w:=by
 intro b k cs L hb hr;obtain ⟨e,E,I,C,A⟩:=Z b (.inLoop c::k) cs L hb hr;cases e with
 | normal=>
   obtain ⟨U,M,ac,ab,V⟩:=C b k cs L hb hr;exact ⟨U,M,ac,ab,.of_steps (StepsIn.trans A<|.one (fenced_calm hb hr J) stepR_inLoop) V⟩
 | exit id=>exact ⟨.exit id,E,I,C,.pass (x:= .inLoop c) rfl (fun _ _=> .inl<|by simp) A⟩
 | goto l=>exact ⟨.goto l,E,I,C,.pass (x:= .inLoop c) rfl (fun _ _=> .inl<|by simp) A⟩
 | ret=>exact ⟨.ret,E,I,C,.pass (x:= .inLoop c) rfl (fun _ _=> .inl<|by simp) A⟩
 | panic O=>exact ⟨.panic O,E,I,C,.pass (x:= .inLoop c) rfl (fun _ _=> .inl<|by simp) A⟩
 | outgrown=>exact ⟨.outgrown,E,I,C,.pass (x:= .inLoop c) rfl (fun _ _=> .inl<|by simp) A⟩
theorem K6 {c:bJ} {rr:Option Nat} {Q:bt→Act→ai→Prop} {a:Act} {w:ai} (h:sX P c rr Q a w):(Code.loop c).wpIn (fe rr) 0 P Q a w:=by
 intro b k cs I hb hr;obtain ⟨e,A,w',E,C⟩:=h b k cs I hb hr;exact ⟨e,A,w',E,.of_steps (.one (fenced_calm hb hr J) stepR_loop) C⟩
theorem Good.l6 (A:Good P G ih) {rd:Option Nat} {c:bJ} {fr:Tr AV} {D:List AD} {h h':Hp} {v:AV} (C:ih (.cd rd n c fr D h)= .rv v h'):False:=by
 have :=A (.cd rd n c fr D h); rw [C] at this; exact this
theorem Good.Az (A:Good P G ih) {rd:Option Nat} {c:bJ} {fr:Tr AV} {D:List AD} {h h':Hp} {v:AV} (C:ih (.lp rd n c fr D h)= .rv v h'):False:=by
 have :=A (.lp rd n c fr D h); rw [C] at this; exact this
theorem J0 (A:Good P G ih) (rd:Option Nat) (n:Nat) (c:bJ) (fr:Tr AV) (D:List AD) (h:Hp):kR P G (.lp rd n c fr D h) (eL P G X ih<|.lp rd n c fr D h):=by
 simp only [eL];cases hi:ih (.cd rd n c fr D h) with
 | no=>trivial
 | rv v h1=>exact (A.l6 hi).elim
 | cd e E C h1=>
   have s1:=A<|.cd rd n c fr D h;rw [hi] at s1;cases e with
   | cn=>
     simp only;have s2:=A<|.lp rd n c E C h1;cases hj:ih (.lp rd n c E C h1) with
     | no=>trivial
     | rv v I=>exact (A.Az hj).elim
     | cd L M J I=>
       rw [hj] at s2;exact dg.bind s1 s2 fun rr Q a w hw=>xD (wpIn_mono hw fun e a w he=>by
        obtain ⟨rfl,he⟩:=he; exact he)
   | ret=>exact dg.map s1 fun rr Q a w hw=>xD<|wpIn_mono hw fun e a w he=>by obtain ⟨rfl,he⟩:=he; exact he
   | ext i=>exact dg.map s1 fun rr Q a w hw=>xD<|wpIn_mono hw fun e a w he=>by obtain ⟨rfl,he⟩:=he; exact he
theorem dg.here {rd:Option Nat} {W:Option Nat→(bt→Act→ai→Prop)→Act→ai→Prop} {fr:Tr AV} {D:List AD} {h:Hp} {e:EX} (A:∀ rr Q a w,Q (jg e) a w→W rr Q a w):dg P G rd n W fr D h e fr D h:=
 ⟨aV _,fun T r w σ Dl rr Q hT hr E C J I=>A rr Q _ w<|I r w σ Dl (St.refl hr) E C⟩
theorem sg {rd:Option Nat} {ops:List aE} :∀ {l:List aE} {fr:Tr AV} {D:List AD} {h:Hp},(∃ C A h',jr P G X ih rd n ops l fr D h= .cd .cn C A h')∨jr P G X ih rd n ops l fr D h= .no
 | [],fr,D,h=> .inl ⟨fr,D,h,rfl⟩
 | o::l,fr,D,h=>by
   simp only [jr];split
   · split
     · split
       · split
         · exact sg
         · exact .inr J
       · split
         · split
           · exact sg
           · exact .inr J
         · exact .inr J
       · exact .inr J
     · exact .inr J
   · split
     · exact sg
     · exact .inr J
   · exact .inr J
theorem I0 (E:Good P G ih) {rd:Option Nat} {g:aY} {ps:List Nat} {aQ body:bJ} {fr:Tr AV} {D:List AD} {h h':Hp} {v:AV} (A:oh ih G rd n g ps aQ body fr D h= .rv v h'):False:=by
 have C:∀ {fr:Tr AV} {D:List AD} {l:Nat} {h:Hp},nA G ih rd n fr D l h= .rv v h'→False:=by
  intro fr D l h A;unfold nA at A;split at A
  · split at A
    · cases A
    · rename_i J m I ps aQ body d _ _;cases hc:(bj G l && aF l bX)
      · rw [hc] at A; cases A
      · rw [hc] at A;simp only [cond_true] at A;split at A
        · cases A
        · exact E.l6 A
  · cases A
 unfold oh at A;split at A
 · split at A
   · split at A
     · split at A
       · split at A
         · exact C A
         · cases A
       · cases A
     · cases A
   · split at A
     · split at A
       · split at A
         · exact C A
         · cases A
       · cases A
     · cases A
 · cases A
theorem JX (A:Good P G ih) (ad:gQ P G X) (V:fJ P) (ac:yi P G X ih) (Z:∀ f args h v h',ih (.cl f args h)= .rv v h'→∃ fn c,P.funcs[f]? =some fn∧fn.body=some c) (rd:Option Nat) (n:Nat) (c:bJ) (fr:Tr AV) (D:List AD) (h:Hp):kR P G (.cd rd n c fr D h) (eL P G X ih<|.cd rd n c fr D h):=by
 cases c with
 | skip =>exact dg.here fun rr Q a w O=>wpIn_skip O
 | region id ops draw=>
   obtain ⟨ops⟩:=ops;simp only [eL];cases draw with
   | true =>
     simp only [cond_true];have :=ac rd n id ops fr D h;split at this
     · rename_i he; rw [he]; exact this
     · rename_i he; rw [he]; trivial
     · exact this.elim
   | false =>
     simp only [cond_false];rcases sg (P:=P) (G:=G) (X:=X) (ih:=ih) (n:=n) (rd:=rd) (ops:=ops) (l:=ops) (fr:=fr) (D:=D) (h:=h) with ⟨aj,ag,h',he⟩ | he
     · rw [he];obtain ⟨n1,s1⟩:=qc A ad V Z he;exact ⟨n1,fun T r w σ Dl rr Q hT hr C J M L=>wpIn_region_lit<|s1 T r w σ Dl rr Q hT hr C J M L⟩
     · rw [he]; trivial
 | seq a b=>
   simp only [eL];cases hi:ih (.cd rd n a fr D h) with
   | no=>trivial
   | rv v h1=>exact (A.l6 hi).elim
   | cd e I E h1=>
     have s1:=A<|.cd rd n a fr D h;rw [hi] at s1;cases e with
     | cn=>
       simp only;have s2:=A<|.cd rd n b I E h1;cases hj:ih (.cd rd n b I E h1) with
       | no=>trivial
       | rv v ab=>exact (A.l6 hj).elim
       | cd ai ak ah ab=>
         rw [hj] at s2;exact dg.bind s1 s2 fun rr Q a w hw=>wpIn_seq<|wpIn_mono hw fun e a w he=>by obtain ⟨rfl,he⟩:=he; exact he
     | ret=>exact dg.map s1 fun rr Q a w hw=>wpIn_seq<|wpIn_mono hw fun e a w he=>by obtain ⟨rfl,he⟩:=he; exact he
     | ext i=>exact dg.map s1 fun rr Q a w hw=>wpIn_seq<|wpIn_mono hw fun e a w he=>by obtain ⟨rfl,he⟩:=he; exact he
 | cond x a b=>
   simp only [eL];split
   · rename_i U;have s1:=A<|.cd rd n a fr D h;cases hi:ih (.cd rd n a fr D h) with
     | no=>trivial
     | rv v h1=>exact (A.l6 hi).elim
     | cd e I E h1=>
       rw [hi] at s1;obtain ⟨n1,s1⟩:=s1;exact ⟨n1,fun T r w σ Dl rr Q hT hr C J M L=>wpIn_cond_true (by rw [dq]; exact iA<|p7 (N:=⟨n,Dl,[],rr⟩) hr.eG C U)<|s1 T r w σ Dl rr Q hT hr C J M L⟩
   · rename_i U;have s1:=A<|.cd rd n b fr D h;cases hi:ih (.cd rd n b fr D h) with
     | no=>trivial
     | rv v h1=>exact (A.l6 hi).elim
     | cd e I E h1=>
       rw [hi] at s1;obtain ⟨n1,s1⟩:=s1;exact ⟨n1,fun T r w σ Dl rr Q hT hr C J M L=>wpIn_cond_false (by rw [dq]; exact iA<|p7 (N:=⟨n,Dl,[],rr⟩) hr.eG C U)<|s1 T r w σ Dl rr Q hT hr C J M L⟩
   · trivial
 | block id c=>
   simp only [eL];cases hi:ih (.cd rd n c fr D h) with
   | no=>trivial
   | rv v h1=>exact (A.l6 hi).elim
   | cd e I E h1=>
     have s1:=A<|.cd rd n c fr D h;rw [hi] at s1;cases e with
     | cn=>exact dg.map s1 fun rr Q a w hw=>wpIn_block<|wpIn_mono hw fun e a w he=>by obtain ⟨rfl,he⟩:=he; exact he
     | ret=>exact dg.map s1 fun rr Q a w hw=>wpIn_block<|wpIn_mono hw fun e a w he=>by obtain ⟨rfl,he⟩:=he; exact he
     | ext j=>
       simp only;cases hj:aM j id
       · have ae:j≠id:=fun e=>by subst e; simp at hj
         exact dg.map s1 fun rr Q a w hw=>wpIn_block (wpIn_mono hw fun e a w he=>by
          obtain ⟨rfl,he⟩:=he;simp only [jg,Dj,if_neg ae]; exact he)
       · obtain rfl :=bO hj;exact dg.map s1 fun rr Q a w hw=>wpIn_block (wpIn_mono hw fun e a w he=>by
          obtain ⟨rfl,he⟩:=he;simp only [jg,Dj,if_true]; exact he)
 | loop c=>
   simp only [eL];cases hi:ih (.lp rd n c fr D h) with
   | no=>trivial
   | rv v h1=>exact (A.Az hi).elim
   | cd e I E h1=>
     have s1:=A<|.lp rd n c fr D h;rw [hi] at s1;obtain ⟨n1,s1⟩:=s1;exact ⟨n1,fun T r w σ Dl rr Q hT hr C J M L=>K6<|s1 T r w σ Dl rr Q hT hr C J M L⟩
 | rangeFunc g ps aQ body=>
   obtain ⟨ps⟩:=ps;simp only [eL];cases hi:oh ih G rd n g ps aQ body fr D h with
   | no=>trivial
   | rv v h1=>exact (I0 A hi).elim
   | cd e I E h1=>exact IZ A V Z hi
 | exit id=>exact dg.here fun rr Q a w O=>wpIn_exit O
 | ret=>exact dg.here fun rr Q a w O=>wpIn_ret O
 | scope c=>trivial
 | label l=>trivial
 | goto l=>trivial
 | refuse s=>trivial
theorem J1 (A:Good P G ih) (l:Nat) (args:List AV) (h:Hp):kR P G (.yl l args h) (eL P G X ih<|.yl l args h):=by
 simp only [eL];cases hi:qC G ih l args h with
 | no=>trivial
 | rv v h1=>exact Lc A hi
 | cd e fr D h1=>
   exfalso;unfold qC at hi;split at hi
   · split at hi
     · split at hi
       · split at hi
         · rename_i L J I M C E d1 _;cases hc:(bj G l && aF l bX)
           · rw [hc] at hi; cases hi
           · rw [hc] at hi;simp only [cond_true] at hi;split at hi
             · split at hi
               · split at hi <;> cases hi
               · cases hi
             · cases hi
         · cases hi
       · cases hi
     · cases hi
   · cases hi
end
end Go.Hb
namespace Go.Hb
mutual
theorem nB:∀ {a b:AV},eu a b=true→a=b
 | .bool a,.bool b,h=>by simp only [eu,beq_iff_eq] at h; rw [h]
 | .int k a,.int k' b,h=>by
   simp only [eu] at h;cases hk:aM (dz k) (dz k')
   · rw [hk] at h; cases h
   · rw [hk] at h;simp only [cond_true,decide_eq_true_iff] at h;rw [mi hk,h]
 | .str l,.str m,h=>by simp only [eu,nC,decide_eq_true_iff] at h; rw [h]
 | .ptr b o,.ptr b' o',h=>by
   simp only [eu,bg] at h;rw [bO h.1,bO h.2]
 | .fY,.fY,_=>rfl
 | .sl b o n c x,.sl b' o' n' c' x',h=>by
   simp only [eu,bg,beq_iff_eq] at h;obtain ⟨⟨h1,A⟩,h3,h4,h5⟩:=h;rw [bO h1,bO A,bO h3,bO h4,h5]
 | .aC,.aC,_=>rfl
 | .map b,.map b',h=>by simp only [eu] at h; rw [bO h]
 | .jK,.jK,_=>rfl
 | .fn f a c,.fn f' a' c',h=>by
   simp only [eu,bg] at h;rw [bO h.1,mc h.2.1,mc h.2.2]
 | .fO l,.fO l',h=>by simp only [eu] at h; rw [bO h]
 | .gZ,.gZ,_=>rfl
 | .eR t v,.eR t' v',h=>by
   simp only [eu,bg] at h;rw [bO h.1,nB h.2]
 | .db,.db,_=>rfl
 | .agg l,.agg m,h=>by simp only [eu] at h; rw [mc h]
 | .bU l,.bU m,h=>by simp only [eu] at h; rw [mc h]
theorem mc:∀ {a b:List AV},je a b=true→a=b
 | [],[],_=>rfl
 | a::l,b::m,h=>by
   simp only [je] at h;cases hk:eu a b
   · rw [hk] at h; cases h
   · rw [hk] at h; rw [nB hk,mc h]
 | [],_::_,h=>by simp [je] at h
 | _::_,[],h=>by simp [je] at h
end
theorem ur {c p:Bool} (h:cond c p false =true):c=true∧p=true :=by
 cases c
 · cases h
 · exact ⟨J,h⟩
theorem vC {t:Nat} :∀ {l:List Nat},pW t l=true↔t∈l
 | []=>by simp [pW]
 | u::l=>by
   simp only [pW,fQ];cases hb:aM t u
   · have :t≠u:=fun e=>by subst e; simp at hb
     simp only [cond_false,vC,this,false_or]
   · have :=bO hb;simp [this]
theorem zt {i:Nat} :∀ {l:List cH},pH i l=true→∀ e∈l,dw .any e=true→e.on < i
 | [],_,e,he,_=>by cases he
 | x::l,h,e,he,hb=>by
   simp only [pH] at h;cases hx:(dw .any x && !(aF x.on i))
   · rw [hx] at h;rcases fQ.1 he with rfl | he
     · rw [hb] at hx;simp only [Bool.true_and,Bool.not_eq_false'] at hx;exact cz.1 hx
     · exact zt h e he hb
   · rw [hx] at h; cases h
def ng (ops:List aE) (X:Nat→Prop):Prop := ∀ i o,X i→ops[i]? =some o→∀ e∈o.after.toList,dw .any e=true→X e.on
theorem vM {l:List Nat} {i:Nat} :lz l i=(l[i]?).getD 0:=by
 unfold lz
 induction l generalizing i with
 | nil=>simp [ko]
 | cons a l ih=>
   cases i with
   | zero=>simp [ko]
   | succ i=>simp [ko,ih]
theorem vA {acc:List Nat} {j:Nat} :∀ {l:List cH},qV (lu acc l) j=true→∃ e∈l,dw .any e=true∧e.on < acc.length∧(j=e.on∨qV (lz acc e.on) j=true)
 | [],h=>by simp [lu] at h
 | e::l,h=>by
   simp only [lu] at h;cases hb:(dw .any e && aF e.on acc.length)
   · rw [hb] at h;obtain ⟨A,h1,C⟩:=vA h;exact ⟨A,kK _ h1,C⟩
   · rw [hb] at h;simp only [bg] at hb;simp only [cond_true] at h;have h':((2 ^ e.on ||| lz acc e.on) ||| lu acc l).testBit j=true :=h;simp only [Nat.testBit_or,mV,Nat.testBit_two_pow,decide_eq_true_iff] at h';rcases h' with (h' | h') | h'
     · exact ⟨e,kL,hb.1,cz.1 hb.2,.inl h'.symm⟩
     · exact ⟨e,kL,hb.1,cz.1 hb.2,.inr h'⟩
     · obtain ⟨A,h1,C⟩:=vA h';exact ⟨A,kK _ h1,C⟩
theorem zl {ops:List aE} {X:Nat→Prop} (A:ng ops X):∀ (l:List aE) (acc:List Nat),(∀ k,l[k]? =ops[acc.length+k]?)→(∀ i j,i < acc.length→qV (lz acc i) j=true→j < i∧(X i→X j))→
 ∀ i j,qV (lz (gy l acc) i) j=true→j < i∧(X i→X j)
 | [],acc,_,ha,i,j,h=>by
   simp only [gy] at h;rcases dk i acc.length with hi | hi
   · exact ha i j hi h
   · rw [vM,iT hi] at h; simp at h
 | o::l,acc,hl,ha,i,j,h=>by
   simp only [gy] at h;refine zl A l (acc++ [lu acc o.after.toList]) (fun k=> ?_) (fun i j hi hb=> ?_) i j h
   · have :=hl<|k+1;simp only [gK] at this;rw [this]; congr 1; simp; omega
   · rw [vM] at hb;rcases dk i acc.length with h1 | h1
     · rw [ey h1,← vM] at hb; exact ha i j h1 hb
     · have :i=acc.length:=by simp at hi; omega
       subst this;rw [ez (aV _)] at hb;simp only [Nat.sub_self,gL,iw] at hb;obtain ⟨e,he,I,aP,C⟩:=vA hb;have J:ops[acc.length]? =some o:=by
        have :=hl 0;simpa using this.symm
       rcases C with rfl | C
       · exact ⟨aP,fun E=>A _ _ E J e he I⟩
       · obtain ⟨M,L⟩:=ha _ _ aP C;exact ⟨U,fun E=>L<|A _ _ E J e he I⟩
theorem pw {ops:List aE} {X:Nat→Prop} (A:ng ops X) {i j:Nat} (h:iY (gy ops []) i j=true):j < i∧(X i→X j):=
 zl A ops [] (fun k=>by simp) (fun i j hi=>by simp at hi) i j h
structure tU (ops:List aE) (dp:List Nat) (i j:Nat) (oi oj:aE):Prop where
 ne:∀ t,oi.dst=some t→oj.dst≠some t
 ap:iY dp i j=true∨((∀ t,oj.dst=some t→t∉n9 ops oi)∧∀ t,oi.dst=some t→t∉n9 ops oj)
theorem yQ {ops:List aE} {I:List Nat} {i:Nat} {J:aE} :∀ {l:List aE} {b:Nat},ri ops I i J b l=true→∀ k C,l[k]? =some C→b+k < i→tU ops I i (b+k) J C
 | [],b,_,k,C,hk,_=>by simp at hk
 | o::l,b,h,k,C,hk,aP=>by
   simp only [ri] at h;rw [cz.2 (show b < i by omega)] at h;simp only [cond_true,bg,jU,mV] at h;cases k with
   | zero=>
     simp only [gL,bH] at hk;subst hk;refine ⟨fun t h1 A=> ?_,?_⟩
     · have :=h.1.1;rw [h1,A] at this;simp [zD] at this
     · rcases h.1.2 with h1 | ⟨h1,A⟩
       · exact .inl h1
       · refine .inr ⟨fun t E hm=> ?_,fun t E hm=> ?_⟩
         · rw [E] at h1; simp only [rX] at h1; rw [vC.2 hm] at h1; cases h1
         · rw [E] at A; simp only [rX] at A; rw [vC.2 hm] at A; cases A
   | succ k=>
     simp only [gK] at hk;have :=yQ h.2 k C hk U;rwa [show b+1 +k=b+(k+1) from by omega] at this
theorem ui {ops:List aE} {E:List Nat} :∀ {l:List aE} {b:Nat},nt ops E b l=true→∀ k A,l[k]? =some A→pH (b+k) A.after.toList=true∧∀ j C,ops[j]? =some C→j < b+k→tU ops E (b+k) j A C
 | [],b,_,k,A,hk=>by simp at hk
 | o::l,b,h,k,A,hk=>by
   simp only [nt,bg] at h;cases k with
   | zero=>
     simp only [gL,bH] at hk;subst hk;refine ⟨h.1.1,fun j C I aP=> ?_⟩;have :=yQ h.1.2 j C I U;rwa [cK] at this
   | succ k=>
     simp only [gK] at hk;have :=ui h.2 k A hk;rwa [show b+1 +k=b+(k+1) from by omega] at this
theorem zF {a:Option AV} {v:AV} (h:uD a v=true):a=some v:=by
 cases a with
 | none=>cases h
 | some a=>rw [nB h]
theorem AX {P:av} {A:List Nat} {i:Nat} {o:Op} {xs:List AV} {v:AV} :∀ {l:List Rec} {b:Nat},pZ P A i o xs v b l=true→∀ k q,l[k]? =some q→
 (q.k= .c→(b+k < i→iY A i (b+k)=true∨iG P o xs q.hb=some v)∧(¬b+k < i→iY A (b+k) i=true∨iG P o xs q.ha=some v))∧(q.k= .a→¬b+k < i)
 | [],b,_,k,q,hk=>by simp at hk
 | x::l,b,h,k,q,hk=>by
   simp only [pZ] at h;obtain ⟨h1,C⟩:=ur h;cases k with
   | succ k=>
     simp only [gK] at hk;have :=AX C k q hk;rwa [show b+1 +k=b+(k+1) from by omega] at this
   | zero=>
     simp only [gL,bH] at hk;subst hk;rw [jy];refine ⟨fun E=> ?_,fun ha aP=> ?_⟩
     · rw [E] at h1;simp only at h1;refine ⟨fun aP=> ?_,fun aP=> ?_⟩
       · rw [cz.2 aP] at h1;simp only [cond_true,mV] at h1;exact h1.imp id zF
       · have :aF b i=false :=by cases hb:aF b i; rfl; exact absurd (cz.1 hb) aP
         rw [this] at h1;simp only [cond_false,mV] at h1;exact h1.imp id zF
     · rw [ha,cz.2 aP] at h1; cases h1
theorem AW {C:List Nat} {i:Nat} :∀ {l:List Rec} {b:Nat},pY C i b l=true→∀ k q,l[k]? =some q→(q.k= .c∨q.k= .a)→b+k < i→iY C i (b+k)=true
 | [],b,_,k,q,hk,_,_=>by simp at hk
 | x::l,b,h,k,q,hk,A,aP=>by
   simp only [pY] at h;obtain ⟨h1,E⟩:=ur h;cases k with
   | succ k=>
     simp only [gK] at hk;have :=AW E k q hk A U;rwa [show b+1 +k=b+(k+1) from by omega] at this
   | zero=>
     simp only [gL,bH] at hk;subst hk;rw [jy] at aP ⊢;rcases A with A | A <;> (rw [A] at h1; simp only at h1; rw [cz.2 aP] at h1; exact h1)
theorem AY {P:av} {E:List Nat} {rs:List Rec} :∀ {l:List aE} {m:List Rec} {b:Nat},kp P E rs b l m=true→l.length=m.length∧∀ k o q,l[k]? =some o→m[k]? =some q→(q.k= .l→pZ P E (b+k) o.op q.xs q.v 0 rs=true)∧(q.k= .c→pY E (b+k) 0 rs=true)
 | [],[],b,_=>⟨rfl,fun k o q A=>by simp at A⟩
 | [],_::_,b,h=>by simp [kp] at h
 | _::_,[],b,h=>by simp [kp] at h
 | o::l,q::m,b,h=>by
   simp only [kp] at h;obtain ⟨h1,J⟩:=ur h;obtain ⟨L,M⟩:=AY J;refine ⟨by simp [L],fun k O q' A C=> ?_⟩;cases k with
   | succ k=>
     simp only [gK] at A C;have :=M k O q' A C;rwa [show b+1 +k=b+(k+1) from by omega] at this
   | zero=>
     simp only [gL,bH] at A C;subst A; subst C;rw [jy];exact ⟨fun I=>by rw [I] at h1; exact h1,fun I=>by rw [I] at h1; exact h1⟩
end Go.Hb
namespace Go.Hb
section
variable {P:av} {G:Nat} {X:Xt} {ih:Tk→Rs} {n:Nat}
inductive Cl (P:av) (G:Nat) (o:Op) (q:Rec):Prop
 | p:q.k= .p→my P o q.xs=some q.v→q.ha=q.hb→Cl P G o q
 | l:q.k= .l→iG P o q.xs q.hb=some q.v→q.ha=q.hb→Cl P G o q
 | a (e:au) (l:List AV):q.k= .a→o= .alloc e→q7 P e=some l→cS q.hb (.cells l e 0 .x)=some q.ha→q.v= .ptr q.hb.nx 0→Cl P G o q
 | c:q.k= .c→jC P G o q.xs q.hb q.v q.ha→Cl P G o q
structure nj (P:av) (G n:Nat) (ops:List aE) (o:aE) (q:Rec) (fr fr':Tr AV) (h h':Hp):Prop where
 hb:q.hb=h
 ha:q.ha=h'
 set :e7 n fr o.dst q.v=some fr'
 run:(ji n ops fr o.guard= .y∧jN G n fr (fy o.op)=some q.xs∧Cl P G o.op q)∨(ji n ops fr o.guard= .n∧q.k= .s∧q.v= .bU []∧q.ha=q.hb)
theorem IQ (J:Good P G ih) (L:gQ P G X) (I:fJ P) (M:∀ f args h v h',ih (.cl f args h)= .rv v h'→∃ fn c,P.funcs[f]? =some fn∧fn.body=some c) {E:Bool} {o:Op} {xs:List AV} {h:Hp} {q:Rec} (A:vX P G X ih E o xs h=some q):q.xs=xs∧q.hb=h∧Cl P G o q:=by
 unfold vX at A;split at A
 · rename_i v hp; cases A; exact ⟨rfl,rfl,.p rfl hp rfl⟩
 · split at A
   · rename_i v C; cases A; exact ⟨rfl,rfl,.l rfl C rfl⟩
   · split at A
     · rename_i e _ _;split at A
       · rename_i l C;split at A
         · rename_i h' hn; cases A; exact ⟨rfl,rfl,.a e l rfl rfl C hn rfl⟩
         · cases A
       · cases A
     · split at A
       · rename_i v h' O; cases A; exact ⟨rfl,rfl,.c rfl (A4 J L I M O)⟩
       · cases A
theorem Cl.nx {o:Op} {q:Rec} (h:Cl P G o q):q.hb.nx≤q.ha.nx:=by
 cases h with
 | p _ _ h=>rw [h]; exact aV _
 | l _ _ h=>rw [h]; exact aV _
 | a e l _ _ _ h _=>have :=jJ h; omega
 | c _ h=>exact h.1
theorem nj.nx {ops:List aE} {o:aE} {q:Rec} {fr C:Tr AV} {h h':Hp} (A:nj P G n ops o q fr C h h'):h.nx≤h'.nx:=by
 rw [← A.hb,← A.ha];rcases A.run with ⟨_,_,h⟩ | ⟨_,_,_,h⟩
 · exact h.nx
 · rw [h]; exact aV _
theorem Bg (ac:Good P G ih) (ad:gQ P G X) (ab:fJ P) (ae:∀ f args h v h',ih (.cl f args h)= .rv v h'→∃ fn c,P.funcs[f]? =some fn∧fn.body=some c) {ops:List aE} {Z:List Nat} :∀ {l:List aE} {i:Nat} {last:Option Nat} {fr C:Tr AV} {h E:Hp} {rs:List Rec},ku P G X ih n ops Z i last l fr h=some (rs,C,E)→
 ∃ (F:Nat→Tr AV) (H:Nat→Hp),F 0=fr∧H 0=h∧F l.length=C∧H l.length=E∧rs.length=l.length∧∀ k o q,l[k]? =some o→rs[k]? =some q→nj P G n ops o q (F k) (F<|k+1) (H k) (H<|k+1)
 | [],i,last,fr,C,h,E,rs,hr=>by
   simp only [ku,bH,gq] at hr;obtain ⟨rfl,rfl,rfl⟩:=hr;exact ⟨fun _=>fr,fun _=>h,J,J,J,J,J,fun k o q I=>by simp at I⟩
 | o::l,i,last,fr,C,h,E,rs,hr=>by
   have key:∀ (q:Rec) (A:Tr AV) (j:Nat) (la:Option Nat) (iH:List Rec),nj P G n ops o q fr A h q.ha→ku P G X ih n ops Z j la l A q.ha=some (iH,C,E)→rs=q::iH→
    ∃ (F:Nat→Tr AV) (H:Nat→Hp),F 0=fr∧H 0=h∧F (o::l).length=C∧H (o::l).length=E∧rs.length=(o::l).length∧∀ k O q,(o::l)[k]? =some O→rs[k]? =some q→nj P G n ops O q (F k) (F<|k+1) (H k) (H<|k+1):=by
    intro q A j la iH ap M ag;obtain ⟨F,H,h1,U,al,am,an,ao⟩:=Bg ac ad ab ae M;refine ⟨fun k=>match k with | 0=>fr | k+1=>F k,fun k=>match k with | 0=>h | k+1=>H k,J,J,al,am,by rw [ag]; simp [an],fun k O q' I L=> ?_⟩;subst ag;cases k with
    | zero=>
      simp only [gL,bH] at I L;subst I; subst L;simp only [h1,U]; exact ap
    | succ k=>exact ao k O q' (by simpa using I)<|by simpa using L
   simp only [ku] at hr;split at hr
   · rename_i hg;split at hr
     · rename_i xs aq;split at hr
       · rename_i q L;split at hr
         · rename_i A V;split at hr
           · rename_i iH ak U M;cases hr;obtain ⟨ah,ai,aj⟩:=IQ ac ad ab ae L;exact key q A _ _ iH ⟨ai,J,V,.inl ⟨hg,by rw [ah]; exact aq,aj⟩⟩ M J
           · cases hr
         · cases hr
       · cases hr
     · cases hr
   · rename_i hg;split at hr
     · rename_i A V;split at hr
       · rename_i iH ak U M;cases hr;exact key ⟨.s,[],.bU [],h,h⟩ A _ _ iH ⟨J,J,V,.inr ⟨hg,J,J,J⟩⟩ M J
       · cases hr
     · cases hr
   · cases hr
structure Sq (P:av) (G n:Nat) (ops:List aE) (rs:List Rec) (F:Nat→Tr AV) (H:Nat→Hp):Prop where
 len:rs.length=ops.length
 line:∀ k o q,ops[k]? =some o→rs[k]? =some q→nj P G n ops o q (F k) (F<|k+1) (H k) (H<|k+1)
 pair:∀ i j oi oj,ops[i]? =some oi→ops[j]? =some oj→j < i→tU ops (gy ops []) i j oi oj
 mb:∀ i o,ops[i]? =some o→∀ e∈o.after.toList,dw .any e=true→e.on < i
theorem BB {fr C:Tr AV} {d:Option Nat} {v:AV} (A:e7 n fr d v=some C) (t:Nat):c8 C t=if d=some t then v else c8 fr t:=by
 cases d with
 | none=>simp only [e7,bH] at A; subst A; simp
 | some d=>
   simp only [e7] at A;replace A:=a0 A; obtain ⟨E,A⟩:=A;simp only [bg] at E;cases A;simp only [c8,Tr.kg _ _ _ _ E.2,bH];by_cases e:t=d
   · subst e; simp
   · rw [if_neg e,if_neg (fun x=>e x.symm)]
variable {ops:List aE} {rs:List Rec} {F:Nat→Tr AV} {H:Nat→Hp}
theorem Sq.get (s:Sq P G n ops rs F H) {i:Nat} {o:aE} (A:ops[i]? =some o):∃ q,rs[i]? =some q:=by
 have :=(cI.1 A).1;exact ⟨rs[i]'(by rw [s.len]; exact this),bK _⟩
theorem Sq.get' (s:Sq P G n ops rs F H) {i:Nat} {q:Rec} (A:rs[i]? =some q):∃ o,ops[i]? =some o:=by
 have :=(cI.1 A).1;exact ⟨ops[i]'(by rw [← s.len]; exact this),bK _⟩
theorem Sq.slot (s:Sq P G n ops rs F H) (t:Nat):∀ k,k≤ops.length→(∃ j o q,j < k∧ops[j]? =some o∧o.dst=some t∧rs[j]? =some q∧c8 (F k) t=q.v)∨((∀ j o,j < k→ops[j]? =some o→o.dst≠some t)∧c8 (F k) t=c8 (F 0) t)
 | 0,_=> .inr ⟨fun j o h=>by omega,rfl⟩
 | k+1,hk=>by
   have A:ops[k]? =some (ops[k]'U):=bK _;generalize ops[k]'U=o at A;obtain ⟨q,L⟩:=s.get A;have Z:=s.line k o q A L;rw [BB Z.set t];by_cases e:o.dst=some t
   · rw [if_pos e]; exact .inl ⟨k,o,q,lR _,A,e,L,rfl⟩
   · rw [if_neg e];rcases s.slot t k U with ⟨j,J,q',h1,C,M,O,V⟩ | ⟨h1,C⟩
     · exact .inl ⟨j,J,q',U,C,M,O,V⟩
     · refine .inr ⟨fun j J E I=> ?_,C⟩;rcases Eb.1 E with E | rfl
       · exact h1 j J E I
       · rw [A] at I; cases I; exact e
def lY (ops:List aE) (rs:List Rec) (f0:Tr AV) (Y:Nat→Prop) (fx:Tr AV):Prop := ∀ t,(∃ j o q,Y j∧ops[j]? =some o∧o.dst=some t∧rs[j]? =some q∧c8 fx t=q.v)∨((∀ j o,Y j→ops[j]? =some o→o.dst≠some t)∧c8 fx t=c8 f0 t)
theorem lY.set {f0 fx J:Tr AV} {Y:Nat→Prop} (O:lY ops rs f0 Y fx) {i:Nat} {o:aE} {q:Rec} (L:ops[i]? =some o) (M:rs[i]? =some q) (h:e7 n fx o.dst q.v=some J):lY ops rs f0 (fun j=>Y j∨j=i) J:=by
 intro t;rw [BB h t];by_cases e:o.dst=some t
 · rw [if_pos e]; exact .inl ⟨i,o,q,.inr rfl,L,e,M,rfl⟩
 · rw [if_neg e];rcases O t with ⟨j,I,q',h1,A⟩ | ⟨h1,A⟩
   · exact .inl ⟨j,I,q',.inl h1,A⟩
   · refine .inr ⟨fun j I C E=> ?_,A⟩;rcases C with C | rfl
     · exact h1 j I C E
     · rw [L] at E; cases E; exact e
theorem Jm {fr C:Tr AV} {d:Option Nat} {v:AV} (A:e7 n fr d v=some C) (fx:Tr AV):∃ E,e7 n fx d v=some E:=by
 cases d with
 | none=>exact ⟨fx,rfl⟩
 | some d=>
   simp only [e7] at A ⊢;replace A:=a0 A; obtain ⟨I,A⟩:=A;rw [I]; exact ⟨_,rfl⟩
theorem Sq.EE (s:Sq P G n ops rs F H) {Y:Nat→Prop} (ah:ng ops Y) {i:Nat} {o:aE} (Z:ops[i]? =some o) (hi:¬Y i) (hr:ng ops (fun j=>Y j∨j=i)) {fx:Tr AV} (ac:lY ops rs (F 0) Y fx) {t:Nat} (ad:t∈n9 ops o):c8 fx t=c8 (F i) t:=by
 have aj:=(cI.1 Z).1;rcases s.slot t i U with ⟨j,O,ak,h1,I,M,ae,ag⟩ | ⟨h1,I⟩
 · have hp:=s.pair i j o O Z I h1;have ai:Y j:=by
    rcases hp.ap with hb | ⟨hb,_⟩
    · rcases (pw hr hb).2 (.inr rfl) with h | h
      · exact h
      · omega
    · exact absurd ad<|hb t M
   rcases ac t with ⟨C,L,q',E,A,J,V,ab⟩ | ⟨E,A⟩
   · have :C=j:=by
      rcases qR C j with aP | he | aP
      · exact absurd J<|(s.pair j C O L I A aP).ne t M
      · exact he
      · exact absurd M<|(s.pair C j L O A I aP).ne t J
     subst this;rw [ae] at V; cases V;rw [ab,ag]
   · exact absurd M<|E j O ai I
 · rcases ac t with ⟨C,L,q',E,A,J,V,ab⟩ | ⟨E,A⟩
   · exfalso;rcases qR C i with aP | he | aP
     · exact h1 C L aP A J
     · subst he; exact hi E
     · rcases (s.pair C i L o A Z aP).ap with hb | ⟨_,hb⟩
       · exact hi<|(pw ah hb).2 E
       · exact hb t J ad
   · rw [A,I]
theorem Ix {fr fx:Tr AV} {x:aY} (h:∀ t,x= .tmp t→c8 fx t=c8 fr t):jM G n fx x=jM G n fr x:=by
 cases x with
 | tmp t=>simp only [jM,h t rfl]
 | const v=>rfl
 | func f=>rfl
 | global g=>rfl
theorem A1 {fr fx:Tr AV} :∀ {l:List aY},(∀ t∈oF l,c8 fx t=c8 fr t)→jN G n fx l=jN G n fr l
 | [],_=>rfl
 | x::l,h=>by
   simp only [jN];rw [Ix (fr:=fr) (fx:=fx) fun t e=>h t (by subst e; simp [oF]),A1 (fr:=fr) (fx:=fx) (l:=l) fun t A=>h t (by cases x <;> simp [oF,A])]
theorem GQ {fr fx:Tr AV} {g:Option (Nat×Bool)} (h:∀ t∈uZ ops g,c8 fx t=c8 fr t):ji n ops fx g=ji n ops fr g:=by
 unfold ji;cases g with
 | none=>rfl
 | some p=>
   obtain ⟨j,want⟩:=p;simp only;cases hj:ops[j]? with
   | none=>rfl
   | some q=>
     simp only;cases hd:q.dst with
     | none=>rfl
     | some t=>
       simp only;rw [h t (by simp [uZ,hj,hd])]
theorem Sq.done (s:Sq P G n ops rs F H) {Y:Nat→Prop} (ad:∀ j,j < ops.length→Y j) {fx:Tr AV} (Z:lY ops rs (F 0) Y fx) (t:Nat):c8 fx t=c8 (F ops.length) t:=by
 rcases s.slot t ops.length (aV _) with ⟨j,U,ae,h1,E,O,ab,ac⟩ | ⟨h1,E⟩
 · rcases Z t with ⟨C,L,q',I,A,J,M,V⟩ | ⟨I,A⟩
   · have :C=j:=by
      rcases qR C j with aP | he | aP
      · exact absurd J<|(s.pair j C U L E A aP).ne t O
      · exact he
      · exact absurd O<|(s.pair C j L U A E aP).ne t J
     subst this;rw [ab] at M; cases M;rw [V,ac]
   · exact absurd O<|I j U (ad j h1) E
 · rcases Z t with ⟨C,L,q',I,A,J,M,V⟩ | ⟨I,A⟩
   · exact absurd J<|h1 C L (cI.1 A).1 A
   · rw [A,E]
theorem Sq.mono (s:Sq P G n ops rs F H) {i:Nat} :∀ {k:Nat},i≤k→k≤ops.length→(H i).nx≤(H k).nx
 | 0,h,_=>by have :i=0:=U
             subst this; exact aV _
 | k+1,h,hk=>by
   rcases dk k i with aP | hle
   · have :i=k+1:=U;subst this; exact aV _
   · have A:ops[k]? =some (ops[k]'U):=bK _;obtain ⟨q,C⟩:=s.get A;exact cX (s.mono hle U) (s.line k _ q A C).nx
theorem EH {e:au} {l:List AV} (ha:q7 P e=some l):dJ l=true∧∃ us:List ag,(∀ r,aK r l=some us)∧∀ (N:Fm) (σ:Nat→ag) (dst:Option Nat) (ty:au) (pos :String) (af:Array cH) (g:Option (Nat×Bool)) (w:ai),
 (execOp (ev N σ) ⟨dst,.alloc e,ty,pos,af,g⟩).run P w= .ok (.value<|.pointer<|some ⟨w.heap.size,0,none⟩) {w with heap:=w.heap.push<|.cells us.toArray e (0,0)} :=by
 unfold q7 at ha;split at ha
 · rename_i J A;split at ha
   · rename_i L E;replace ha:=a0 ha; obtain ⟨C,ha⟩:=ha;cases ha;refine ⟨C,J,fun r=>nV (r:=r) (fun v a=>lA 4) E,fun N σ dst ty pos af g w=> ?_⟩;unfold zeroOf at A;simp only [fg] at A;obtain ⟨i,hi,zv,I,rfl⟩:=A;simp [execOp,tk,zeroValue,c9 hi,I,newVar,newRow]
   · cases ha
 · cases ha
end
end Go.Hb
namespace Go.Hb
section
variable {P:av} {G n T:Nat} {ops:List aE} {rs:List Rec} {F:Nat→Tr AV} {H:Nat→Hp} {r0 r:Rn} {w0 w:ai} {h0:Hp} {Y:Nat→Prop} {lo:Nat}
structure HD (P:av) (G T:Nat) (ops:List aE) (rs:List Rec) (H:Nat→Hp) (r0:Rn) (w0:ai) (h0:Hp) (Y:Nat→Prop) (lo:Nat) (r:Rn) (w:ai):Prop where
 hi:lo≤rs.length
 lc:∀ j q,rs[j]? =some q→q.k= .c→(Y j↔j < lo)
 la:∀ j q,rs[j]? =some q→q.k= .a→j < lo→Y j
 hr:HR P G r 0 (H lo) w
 new:∀ i,(H lo).nx≤i→i < T→r i=none∨∃ j q,Y j∧lo≤j∧rs[j]? =some q∧q.k= .a∧q.hb.nx=i
 ks:∀ j q,Y j→lo≤j→rs[j]? =some q→q.k= .a→∃ k,r q.hb.nx=some ⟨k,0,0⟩∧w0.heap.size≤k∧(∀ i o q',(H lo).t.get i=some o→r i=some q'→q'.ax≠k)∧
  ∃ e l us,cS q.hb (.cells l e 0 .x)=some q.ha∧(∀ r,aK r l=some us)∧dJ l=true∧w.heap[k]? =some (.cells us.toArray e (0,0))
 n5:∀ j j' q q' x x',Y j→lo≤j→rs[j]? =some q→q.k= .a→Y j'→lo≤j'→rs[j']? =some q'→q'.k= .a→r q.hb.nx=some x→r q'.hb.nx=some x'→x.ax=x'.ax→j=j'
 le:r0.le r
 md:Md (Fr G r0 h0) w0 w
 dH:∀ g,g≤G→∀ k,k < w0.heap.size→Fr g r (H lo) k→Fr g r0 h0 k
 out:∀ i,(H ops.length).nx≤i→r i=r0 i
theorem Sq.fresh (s:Sq P G n ops rs F H) {j:Nat} {q:Rec} (E:rs[j]? =some q) (C:q.k= .a):q.hb=H j∧q.ha=H (j+1)∧(H<|j+1).nx=(H j).nx+1:=by
 obtain ⟨o,I⟩:=s.get' E;have A:=s.line j o q I E;refine ⟨A.hb,A.ha,?_⟩;rw [← A.hb,← A.ha];rcases A.run with ⟨_,_,h⟩ | ⟨_,h,_,_⟩
 · cases h with
   | p h _ _=>rw [C] at h; cases h
   | l h _ _=>rw [C] at h; cases h
   | a e l _ _ _ h _=>exact jJ h
   | c h _=>rw [C] at h; cases h
 · rw [C] at h; cases h
theorem Sq.alt (s:Sq P G n ops rs F H) {j i:Nat} {q q':Rec} (J:rs[j]? =some q) (E:q.k= .a) (A:rs[i]? =some q') (I:q'.k= .a) (aP:j < i):q.hb.nx < q'.hb.nx:=by
 obtain ⟨h1,O,V⟩:=s.fresh J E;obtain ⟨C,L,M⟩:=s.fresh A I;have :=s.mono (i:=j+1) (k:=i) U<|by have :=(cI.1 A).1; have :=s.len; omega
 rw [h1,C]; omega
theorem Sq.EF (s:Sq P G n ops rs F H) {j i:Nat} {q q':Rec} (E:rs[j]? =some q) (A:q.k= .a) (I:rs[i]? =some q') (C:q'.k= .a) (he:q.hb.nx=q'.hb.nx):j=i:=by
 rcases qR j i with h | h | h
 · have :=s.alt E A I C h; omega
 · exact h
 · have :=s.alt I C E A h; omega
theorem HD.xp (A:HD P G T ops rs H r0 w0 h0 Y lo r w) {q:Rec} (V:rs[lo]? =some q) (he:H (lo+1)=H lo) (ac:q.k≠.c) (ha:q.k≠.a):HD P G T ops rs H r0 w0 h0 Y (lo+1) r w:=by
 have E:∀ j q',rs[j]? =some q'→(q'.k= .c∨q'.k= .a)→j≠lo:=fun j q' E ad e=>by
  subst e; rw [V] at E; cases E;rcases ad with h | h
  · exact ac h
  · exact ha h
 refine ⟨(cI.1 V).1,fun j q' h1 C=> ?_,fun j q' h1 C O=>A.la j q' h1 C (by have :=E j q' h1 (.inr C); omega),by rw [he]; exact A.hr,fun i h1 C=> ?_,fun j q' h1 C O ab=>by rw [he]; exact A.ks j q' h1 U O ab,fun j ae ag ah x ai L Z I J M aj=>A.n5 j ae ag ah x ai L U I J M U,A.le,A.md,by rw [he]; exact A.dH,A.out⟩
 · rw [A.lc j q' h1 C]; have :=E j q' h1 (.inl C); omega
 · rw [he] at h1;rcases A.new i h1 C with h | ⟨j,q',L,Z,I,J,M⟩
   · exact .inl h
   · exact .inr ⟨j,q',L,by have :=E j q' I (.inr J); omega,I,J,M⟩
theorem HD.Kj (s:Sq P G n ops rs F H) (A:HD P G T ops rs H r0 w0 h0 Y lo r w) {q:Rec} (L:rs[lo]? =some q) (ha:q.k= .a) (ab:Y lo):HD P G T ops rs H r0 w0 h0 Y (lo+1) r w:=by
 obtain ⟨f1,f2,f3⟩:=s.fresh L ha;obtain ⟨k,M,ay,ao,e,l,us,hn,ap,h1,hw⟩:=A.ks lo q ab (aV _) L ha;rw [f1] at M;rw [f1,f2] at hn;unfold cS at hn;replace hn:=a0 hn; obtain ⟨V,hn⟩:=hn;simp only [bH] at hn;have az:(H<|lo+1).nx=(H lo).nx+1:=f3;refine ⟨(cI.1 L).1,fun j q' h1 E=> ?_,fun j q' h1 E ak=> ?_,?_,fun i h1 E=> ?_,fun j q' I ad C J=> ?_,fun j aq au av x aw I ad C J O ax=>A.n5 j aq au av x aw I U C J O U,A.le,A.md,?_,A.out⟩
 · rw [A.lc j q' h1 E];have :j≠lo:=fun e=>by subst e; rw [L] at h1; cases h1; rw [ha] at E; cases E
   omega
 · rcases Eb.1 ak with h | rfl
   · exact A.la j q' h1 E h
   · exact ab
 · rw [← hn];exact A.hr.put (r':=r) (w':=w) (q:=⟨k,0,0⟩) (Rn.le_refl r) V M (by rw [hw]; exact vQ (ap r) h1) (fun _ _ _=>rfl) (fun j ar q' _ al hr=>ao j ar q' al hr) (kM _) fun _ _ am=>absurd am<|tL _
 · rcases A.new i U E with h | ⟨j,q',I,ad,C,J,O⟩
   · exact .inl h
   · refine .inr ⟨j,q',I,?_,C,J,O⟩;rcases dk lo j with h | h
     · exact h
     · have :j=lo:=U;subst this;rw [L] at C; cases C;rw [f1] at O; omega
 · obtain ⟨ac,ae,ah,ai,aj⟩:=A.ks j q' I U C J;refine ⟨ac,ae,ah,fun i o x hi Z=> ?_,aj⟩;rw [← hn] at hi;simp only [Tr.kg _ _ _ _ V] at hi;split at hi
   · rename_i e; subst e;intro hb;rw [M] at Z; cases Z;have :=A.n5 lo j q q' _ _ ab (aV _) L ha I U C J (by rw [f1]; exact M) ae hb;omega
   · exact ai i o x hi Z
 · intro g hg ac an ag;rw [← hn] at ag;rcases Fr.set V M (Rn.le_refl r) A.hr ag with h | h
   · simp only at h; omega
   · exact A.dH g hg ac an h
theorem HD.up (s:Sq P G n ops rs F H) (E:HD P G T ops rs H r0 w0 h0 Y lo r w) {q:Rec} (A:rs[lo]? =some q) (C:q.k≠.c) (ha:q.k= .a→Y lo):HD P G T ops rs H r0 w0 h0 Y (lo+1) r w:=by
 obtain ⟨o,J⟩:=s.get' A;have I:=s.line lo o q J A;have same:q.ha=q.hb→H (lo+1)=H lo:=fun h=>by rw [← I.hb,← I.ha,h]
 rcases I.run with ⟨_,_,h⟩ | ⟨_,h,_,h'⟩
 · cases h with
   | p h _ h'=>exact E.xp A (same h') C<|by rw [h]; intro h; cases h
   | l h _ h'=>exact E.xp A (same h') C<|by rw [h]; intro h; cases h
   | a e l h _ _ _ _=>exact E.Kj s A h<|ha h
   | c h _=>exact absurd h C
 · exact E.xp A (same h') C<|by rw [h]; intro h; cases h
theorem HD.xq (s:Sq P G n ops rs F H) (A:HD P G T ops rs H r0 w0 h0 Y lo r w):∀ (i:Nat),lo≤i→i≤rs.length→(∀ j q,lo≤j→j < i→rs[j]? =some q→q.k≠.c∧(q.k= .a→Y j))→HD P G T ops rs H r0 w0 h0 Y i r w
 | 0,h,_,_=>by have :lo=0:=U
               subst this; exact A
 | i+1,h,hi,hall=>by
   rcases dk i lo with aP | hle
   · have :lo=i+1:=U;subst this; exact A
   · have h':=HD.xq s A i hle U fun j q a b c=>hall j q a U c;have C:rs[i]? =some (rs[i]'U):=bK _;exact h'.up s C (hall i _ hle (lR _) C).1 (hall i _ hle (lR _) C).2
theorem HD.skip (A:HD P G T ops rs H r0 w0 h0 Y lo r w) {i:Nat} {q:Rec} (ai:rs[i]? =some q) (ag:q.k≠.c) (ha:q.k≠.a):HD P G T ops rs H r0 w0 h0 (fun j=>Y j∨j=i) lo r w:=by
 have C:∀ j q',rs[j]? =some q'→(q'.k= .c∨q'.k= .a)→(Y j∨j=i)→Y j:=fun j q' C ah aj=>by
  rcases aj with h | rfl
  · exact h
  · rw [ai] at C; cases C;rcases ah with h | h
    · exact absurd h ag
    · exact absurd h ha
 refine ⟨A.hi,fun j q' h1 E=> ?_,fun j q' h1 E ae=> .inl (A.la j q' h1 E ae),A.hr,fun i h1 E=> ?_,fun j q' I J L M=>A.ks j q' (C j q' L (.inr M) I) J L M,fun j V Z ab x ak I J L M ac ad O U=>A.n5 j V Z ab x ak (C j Z L (.inr M) I) J L M (C V ab O (.inr U) ac) ad O U,A.le,A.md,A.dH,A.out⟩
 · rw [← A.lc j q' h1 E]; exact ⟨C j q' h1 (.inl E),.inl⟩
 · rcases A.new i h1 E with h | ⟨j,q',I,J⟩
   · exact .inl h
   · exact .inr ⟨j,q',.inl I,J⟩
theorem HR.grow {h:Hp} {r':Rn} {w':ai} (hr:HR P G r 0 h w) (hle:r.le r') (hw:∀ k,k < w.heap.size→w'.heap[k]? =w.heap[k]?):HR P G r' 0 h w':=by
 refine ⟨fun i o hi=> ?_,fun i j o J q q' hi I h1 A he=> ?_,fun i _ h=>absurd h (tL _),hr.eG.le hle,hr.base⟩
 · obtain ⟨q,h1,A⟩:=hr.live i o hi;refine ⟨q,hle _ _ h1,?_⟩;rw [hw _ (hr.lt hi h1)];exact A.le hle
 · obtain ⟨x,C,_⟩:=hr.live i o hi;obtain ⟨L,E,_⟩:=hr.live j J I;rw [hle _ _ C] at h1; cases h1;rw [hle _ _ E] at A; cases A;exact hr.inj i j o J _ _ hi I C E he
theorem HD.early (s:Sq P G n ops rs F H) (A:HD P G T ops rs H r0 w0 h0 Y lo r w) (hT:(H ops.length).nx≤T) {i:Nat} {q:Rec} {e:au} {l:List AV} {us:List ag} (O:rs[i]? =some q) (Z:q.k= .a) (aF:¬Y i) (hn:cS q.hb (.cells l e 0 .x)=some q.ha) (aP:∀ r,aK r l=some us) (h1:dJ l=true):
 r.le (r.ext q.hb.nx ⟨w.heap.size,0,0⟩)∧HD P G T ops rs H r0 w0 h0 (fun j=>Y j∨j=i) lo (r.ext q.hb.nx ⟨w.heap.size,0,0⟩) {w with heap:=w.heap.push<|.cells us.toArray e (0,0)} :=by
 obtain ⟨f1,f2,f3⟩:=s.fresh O Z;have aO:i < ops.length:=by rw [← s.len]; exact (cI.1 O).1
 have aH:lo≤i:=by
  rcases dk i lo with h | h
  · exact absurd (A.la i q O Z h) aF
  · exact h
 have m1:=s.mono aH<|Nat.le_of_lt aO;have aQ:=s.mono (i:=i+1) (k:=ops.length) U<|aV _;have aM:r q.hb.nx=none:=by
  rw [f1];rcases A.new (H i).nx m1 U with h | ⟨j,q',E,ab,I,ac,M⟩
  · exact h
  · have :=s.EF I ac O Z<|by rw [M,f1]
    subst this; exact absurd E aF
 have hle:=Rn.pU (r:=r) (i:=q.hb.nx) ⟨w.heap.size,0,0⟩ aM;have aG:∀ k,k < w.heap.size→({w with heap:=w.heap.push<|.cells us.toArray e (0,0)} :ai).heap[k]? =w.heap[k]? :=fun k Z=>by
  simp only [tc]; rw [if_neg U]
 have live:∀ j o x,(H lo).t.get j=some o→(r.ext q.hb.nx ⟨w.heap.size,0,0⟩) j=some x→r j=some x:=fun j o x h1 aE=>by
  obtain ⟨al,C,_⟩:=A.hr.live j o h1;rw [hle _ _ C] at aE; cases aE; exact C
 refine ⟨hle,A.hi,fun j q' C L=> ?_,fun j q' C L ah=> .inl (A.la j q' C L ah),A.hr.grow hle aG,fun ak C L=> ?_,fun j q' E ab I ac=> ?_,fun j av V aw x al E ab I ac M am ad an ao ae ap=> ?_,Rn.le_trans A.le hle,Md.trans' A.md (Ia w _ fun _=>False) (fun _ _ h=>h.elim),fun g hg k Z aL=> ?_,fun ak aN=> ?_⟩
 · rw [← A.lc j q' C L];refine ⟨fun h=> ?_,.inl⟩;rcases h with h | rfl
   · exact h
   · rw [O] at C; cases C; rw [Z] at L; cases L
 · by_cases he:ak=q.hb.nx
   · exact .inr ⟨i,q,.inr J,aH,O,Z,he.symm⟩
   · rw [Rn.jh _ _ he];rcases A.new ak C L with h | ⟨j,q',E,ab⟩
     · exact .inl h
     · exact .inr ⟨j,q',.inl E,ab⟩
 · rcases E with E | rfl
   · obtain ⟨k,C,L,ah,az,aI,aJ,aA,aB,aD,aj⟩:=A.ks j q' E ab I ac;exact ⟨k,hle _ _ C,L,fun i o x hi ar=>ah i o x hi (live i o x hi ar),az,aI,aJ,aA,aB,aD,by rw [aG k (eM.1 aj).1]; exact aj⟩
   · rw [O] at I; cases I;refine ⟨w.heap.size,Rn.fV _ _ _,A.md.size,fun i o x hi ar=> ?_,e,l,us,hn,aP,h1,by simp⟩;have :=A.hr.lt hi<|live i o x hi ar;omega
 · have dH:∀ j V x,Y j→lo≤j→rs[j]? =some V→V.k= .a→(r.ext q.hb.nx ⟨w.heap.size,0,0⟩) V.hb.nx=some x→r V.hb.nx=some x∧x.ax < w.heap.size:=fun j V x c1 c2 c3 aq ay=>by
    obtain ⟨k,C,L,ah,az,aI,aJ,aA,aB,aD,aj⟩:=A.ks j V c1 c2 c3 aq;rw [hle _ _ C] at ay; cases ay;exact ⟨C,(eM.1 aj).1⟩
   rcases E with E | rfl
   · obtain ⟨c1,c2⟩:=dH j V x E ab I ac ao;rcases M with M | rfl
     · obtain ⟨d1,d2⟩:=dH av aw al M am ad an ae;exact A.n5 j av V aw x al E ab I ac M am ad an c1 d1 ap
     · rw [O] at ad; cases ad;rw [Rn.fV] at ae; cases ae;simp only at ap; omega
   · rw [O] at I; cases I;rw [Rn.fV] at ao; cases ao;rcases M with M | rfl
     · obtain ⟨d1,d2⟩:=dH av aw al M am ad an ae;simp only at ap; omega
     · rfl
 · obtain ⟨j,o,x,c1,c2,c3,aq⟩:=aL;exact A.dH g hg k Z ⟨j,o,x,c1,c2,live j o x c2 c3,aq⟩
 · rw [Rn.jh _ _ (by rw [f1]; omega)]; exact A.out ak aN
theorem HD.Hc (s:Sq P G n ops rs F H) (A:HD P G T ops rs H r0 w0 h0 Y lo r w) (hT:(H ops.length).nx≤T) {q:Rec} (I:rs[lo]? =some q) (L:q.k= .c):HR P G r (H<|lo+1).nx (H lo) w:=by
 have Z:lo < ops.length:=by rw [← s.len]; exact (cI.1 I).1
 have ab:=s.mono (i:=lo+1) (k:=ops.length) U<|aV _;refine ⟨A.hr.live,A.hr.inj,fun i h1 V=> ?_,A.hr.eG,A.hr.base⟩;rcases A.new i h1 U with h | ⟨j,q',M,O,C,E,J⟩
 · exact h
 · exfalso;obtain ⟨f1,f2,f3⟩:=s.fresh C E;have :j≠lo:=fun e=>by subst e; rw [I] at C; cases C; rw [L] at E; cases E
   have :=s.mono (i:=lo+1) (k:=j) U<|by have :=(cI.1 C).1; have :=s.len; omega
   rw [f1] at J; omega
theorem HD.Kd (s:Sq P G n ops rs F H) (A:HD P G T ops rs H r0 w0 h0 Y lo r w) {q:Rec} (am:rs[lo]? =some q) (M:q.k= .c) {r':Rn} {w':ai} (st:St P G (H<|lo+1).nx r (H lo) w r' (H<|lo+1) w'):HD P G T ops rs H r0 w0 h0 (fun j=>Y j∨j=lo) (lo+1) r' w':=by
 have aJ:lo < ops.length:=by rw [← s.len]; exact (cI.1 am).1
 have aF:=s.mono (i:=lo+1) (k:=ops.length) U<|aV _;have al:∀ j q',rs[j]? =some q'→q'.k= .a→j≠lo:=fun j q' h1 ac e=>by subst e; rw [am] at h1; cases h1; rw [M] at ac; cases ac
 have O:∀ j q',rs[j]? =some q'→q'.k= .a→(Y j∨j=lo)→Y j:=fun j q' h1 ac aA=>aA.resolve_right<|al j q' h1 ac;refine ⟨(cI.1 am).1,fun j q' C J=> ?_,fun j q' C J aj=> ?_,⟨st.hr.live,st.hr.inj,fun i _ h=>absurd h (tL _),st.hr.eG,st.hr.base⟩,fun i C J=> ?_,fun j q' L an E I=> ?_,fun j ad ae ag x aL L an E I V aI Z ab ao ap au=> ?_,Rn.le_trans A.le st.le,Md.trans' A.md st.md (fun k M ak=>A.dH G (aV _) k M ak),fun g hg k M ak=>A.dH g hg k M (st.dH g hg k (lQ M A.md.size) ak),fun i hi=>(st.out i<|cX aF hi).trans<|A.out i hi⟩
 · rw [A.lc j q' C J]; omega
 · have :=al j q' C J;exact .inl<|A.la j q' C J U
 · rw [st.out i C];rcases A.new i (cX st.nx C) J with h | ⟨j,q',L,an,E,I,V⟩
   · exact .inl h
   · have :=al j q' E I;exact .inr ⟨j,q',.inl L,U,E,I,V⟩
 · obtain ⟨k,C,J,aj,av,aE,aH,aw,ay,az,ar⟩:=A.ks j q' (O j q' E I L) U E I;have aB:=(eM.1 ar).1;refine ⟨k,st.le _ _ C,J,fun i o x hi aD hb=> ?_,av,aE,aH,aw,ay,az,st.md.ax ar fun ⟨i,o,x,_,c2,c3,ah⟩=>aj i o x c2 c3 ah⟩;obtain ⟨i2,aG,x2,_,c2,c3,ah⟩:=st.dH 0 (j2 _) k aB ⟨i,o,x,j2 _,hi,aD,hb⟩;exact aj i2 aG x2 c2 c3 ah
 · obtain ⟨k,C,_⟩:=A.ks j ae (O j ae E I L) U E I;obtain ⟨aK,aq,_⟩:=A.ks ad ag (O ad ag Z ab V) U Z ab;rw [st.le _ _ C] at ao; cases ao;rw [st.le _ _ aq] at ap; cases ap;exact A.n5 j ad ae ag _ _ (O j ae E I L) U E I (O ad ag Z ab V) U Z ab C aq au
theorem HD.done (s:Sq P G n ops rs F H) (E:HD P G T ops rs H r0 w0 (H 0) Y lo r w) (hT:(H ops.length).nx≤T) (I:∀ j,j < ops.length→Y j):St P G T r0 (H 0) w0 r (H ops.length) w:=by
 have A:=E.xq s ops.length (by have :=E.hi; rw [s.len] at this; exact this) (by rw [s.len]; exact aV _) fun j q h1 C L=>⟨fun M=>by have :=(E.lc j q L M).1 (I j C); omega,fun _=>I j C⟩
 refine ⟨A.le,⟨A.hr.live,A.hr.inj,fun i h1 C=> ?_,A.hr.eG,A.hr.base⟩,s.mono (j2 _) (aV _),A.md,A.dH,A.out⟩;rcases A.new i h1 C with h | ⟨j,q',O,U,J,V,Z⟩
 · exact h
 · have :=(cI.1 J).1; have :=s.len; omega
theorem HD.start (s:Sq P G n ops rs F H) (hr:HR P G r0 T (H 0) w0) (A:∀ j,¬Y j):HD P G T ops rs H r0 w0 (H 0) Y 0 r0 w0:=
 ⟨j2 _,fun j q _ _=>⟨fun h=>absurd h (A j),fun h=>by omega⟩,fun j q _ _ h=>by omega,⟨hr.live,hr.inj,fun i _ h=>absurd h (tL _),hr.eG,hr.base⟩,fun i h1 C=> .inl (hr.new i h1 C),fun j q h=>absurd h (A j),fun j E q q' x I h=>absurd h (A j),Rn.le_refl _,Md.refl _ _,fun _ _ _ _ h=>h,fun _ _=>rfl⟩
end
end Go.Hb
namespace Go.Hb
section
variable {P:av} {G n T:Nat} {ops:List aE} {rs:List Rec} {F:Nat→Tr AV} {H:Nat→Hp}
def Yl (listed:Array Bool) (j:Nat):Prop :=listed[j]? =some true
theorem Ex {listed:Array Bool} {i:Nat} (hi:i < listed.size):Yl (listed.setIfInBounds i true)=fun j=>Yl listed j∨j=i:=by
 funext j;apply propext;unfold Yl;rw [qD];by_cases e:i=j
 · subst e; simp [hi]
 · rw [if_neg e];exact ⟨.inl,fun h=>h.resolve_right fun x=>e x.symm⟩
theorem filter_le {p p':Nat→Bool} (h:∀ j,p' j=true→p j=true):∀ l:List Nat,(l.filter p').length≤(l.filter p).length
 | []=>aV _
 | a::l=>by
   have :=filter_le h l;simp only [DO];cases hp:p' a
   · cases p a
     · simpa using this
     · simp only [if_true,qF,if_false,dx]; omega
   · rw [h a hp]; simp only [if_true,dx]; omega
theorem filter_lt {p p':Nat→Bool} (h:∀ j,p' j=true→p j=true) {i:Nat} (hp:p i=true) (A:p' i=false):∀ {l:List Nat},i∈l→(l.filter p').length < (l.filter p).length
 | a::l,hm=>by
   simp only [DO];rcases fQ.1 hm with rfl | hm
   · rw [hp,A];have :=filter_le h l;simp only [if_true,qF,if_false,dx]; omega
   · have :=filter_lt h hp A hm;cases hq:p' a
     · cases p a
       · simpa using this
       · simp only [if_true,qF,if_false,dx]; omega
     · rw [h a hq]; simp only [if_true,dx]; omega
def un (m:Nat) (listed:Array Bool):Nat:=((ir m).filter fun i=> !listed.getD i true).length
theorem Ki {m:Nat} {listed:Array Bool} {i:Nat} (hm:i < m) (hi:listed[i]? =some false):un m (listed.setIfInBounds i true) < un m listed:=by
 have aP:=(eM.1 hi).1;refine filter_lt (i:=i) (fun j A=> ?_) ?_ ?_ (qO.2 hm)
 · simp only [jU] at A ⊢;rw [ij,qD] at A;rw [ij];by_cases e:i=j
   · subst e; rw [if_pos rfl,if_pos aP] at A; simp at A
   · rw [if_neg e] at A; exact A
 · simp [ij,hi]
 · simp [ij,aP]
theorem IP {listed:Array Bool} {i:Nat} (J:listed.size=ops.length) (h:i∈dM .any ops.toArray listed):∃ o,ops[i]? =some o∧listed[i]? =some false∧∀ e∈o.after.toList,dw .any e=true→Yl listed e.on:=by
 unfold dM at h;rw [DW] at h;obtain ⟨h1,A⟩:=h;simp only [qO,eh] at h1;simp only [bg,jU,kJ] at A;have C:ops[i]? =some ops[i]:=bK _;generalize ops[i]=o at C;rw [C] at A;simp only [eV,iw] at A;have I:listed[i]? =some (listed[i]'U):=mU _;refine ⟨o,C,?_,fun e he hb=> ?_⟩
 · have :=A.1;rw [ij,I] at this;rw [I]; simp at this; rw [this]
 · have E:=A.2;rw [CV] at E;have :=E e<|by simpa using he
   rw [hb] at this;simp only [Bool.not_true,Bool.false_or] at this;unfold Yl;rw [ij] at this;cases hx:listed[e.on]? with
   | none=>rw [hx] at this; simp at this
   | some b=>rw [hx] at this; simp at this; rw [this]
theorem Bf (s:Sq P G n ops rs F H) {listed:Array Bool} (I:listed.size=ops.length) (h:dM .any ops.toArray listed= []):∀ j,j < ops.length→Yl listed j:=by
 intro j
 induction j using Nat.strongRecOn with
 | ind j ih=>
   intro E;have C:listed[j]? =some (listed[j]'U):=mU _;cases hb:listed[j]'U with
   | true =>unfold Yl; rw [C,hb]
   | false =>
     exfalso;have A:ops[j]? =some ops[j]:=bK _;generalize ops[j]=o at A;have :j∈dM .any ops.toArray listed:=by
      unfold dM;rw [DW];refine ⟨by simpa using E,?_⟩;simp only [bg,jU,kJ,A,eV,iw];refine ⟨by rw [ij,C,hb]; rfl,?_⟩;rw [CV];intro e he;cases hbd:dw .any e
      · simp
      · have aP:=s.mb j o A e (by simpa using he) hbd;have :=ih e.on aP U;unfold Yl at this;rw [ij,this]; simp
     rw [h] at this; cases this
variable {r0:Rn} {w0:ai} {rr:Option Nat} {Dl:List Deferred} {Q:bt→Act→ai→Prop}
theorem Ge (s:Sq P G n ops rs F H) (bm:kp P (gy ops []) rs 0 ops rs=true) (hT:(H ops.length).nx≤T) (aG:∀ r w σ,St P G T r0 (H 0) w0 r (H ops.length) w→dN r n (F ops.length) σ→Q .normal (act ⟨n,Dl,[],rr⟩ σ) w):
 ∀ (fuel:Nat) (listed:Array Bool) (lo:Nat) (fx:Tr AV) (σ:Nat→ag) (r:Rn) (w:ai),listed.size=ops.length→un ops.length listed≤fuel→ng ops (Yl listed)→lY ops rs (F 0) (Yl listed) fx→HD P G T ops rs H r0 w0 (H 0) (Yl listed) lo r w→
   (lo=0∨∃ j q,lo=j+1∧rs[j]? =some q∧q.k= .c∧Yl listed j)→dN r n fx σ→wpAnyIn (fe rr) 0 P .any ops.toArray Q fuel listed (act ⟨n,Dl,[],rr⟩ σ) w:=by
 have fin:∀ (listed:Array Bool) (lo:Nat) (fx:Tr AV) (σ:Nat→ag) (r:Rn) (w:ai),(∀ j,j < ops.length→Yl listed j)→lY ops rs (F 0) (Yl listed) fx→HD P G T ops rs H r0 w0 (H 0) (Yl listed) lo r w→dN r n fx σ→Q .normal (act ⟨n,Dl,[],rr⟩ σ) w:=by
  intro listed lo fx σ r w aR ad C O;refine aG r w σ (C.done s hT aR) fun i hi=> ?_;rw [← s.done aR ad i];exact O i hi
 intro fuel
 induction fuel with
 | zero=>
   intro listed lo fx σ r w ap a3 ax ad C aI O;have a0:(ir ops.length).filter (fun i=> !listed.getD i true)= []:=List.length_eq_zero_iff.1<|Nat.le_zero.1 a3;have hr:dM .any ops.toArray listed= []:=by
    unfold dM;rw [List.filter_eq_nil_iff] at a0 ⊢;intro a ha;have :=a0 a<|by simpa using ha
    simp only [jU,Bool.not_eq_false,bg,not_and] at this ⊢;intro h; rw [this] at h; cases h
   exact ⟨hr,fin listed lo fx σ r w (Bf s ap hr) ad C O⟩
 | succ fuel ih=>
   intro listed lo fx σ r w ap a3 ax ad C aI O;refine ⟨fun hr=>fin listed lo fx σ r w (Bf s ap hr) ad C O,fun i hi=> ?_⟩;obtain ⟨o,ab,aZ,bb⟩:=IP ap hi;have bd:=(cI.1 ab).1;have ao:¬Yl listed i:=fun h=>by unfold Yl at h; rw [aZ] at h; cases h
   obtain ⟨q,L⟩:=s.get ab;have ak:=s.line i o q ab L;have ay:ng ops (fun j=>Yl listed j∨j=i):=by
    intro j au am ac e he hb;rcases am with am | rfl
    · exact .inl<|ax j au am ac e he hb
    · rw [ab] at ac; cases ac; exact .inl<|bb e he hb
   have aw:=Ex (listed:=listed) (i:=i) U;have br:(listed.setIfInBounds i true).size=ops.length:=by simpa using ap
   have bt:un ops.length (listed.setIfInBounds i true)≤fuel:=by have :=Ki bd aZ; omega
   have aQ:∀ t∈n9 ops o,c8 fx t=c8 (F i) t:=fun t aq=>s.EE ax ab ao ay ad aq;obtain ⟨a4,a2⟩:=Jm ak.set fx;have bq:=ad.set ab L a2;have next :∀ (ar:Nat) (r':Rn) (u:ag) (w':ai),r.le r'→den r' q.v=some u→HD P G T ops rs H r0 w0 (H 0) (fun j=>Yl listed j∨j=i) ar r' w'→(ar=0∨∃ j q,ar=j+1∧rs[j]? =some q∧q.k= .c∧(Yl listed j∨j=i))→
    wpAnyIn (fe rr) 0 P .any ops.toArray Q fuel (listed.setIfInBounds i true) ((act ⟨n,Dl,[],rr⟩ σ).put o.dst u) w':=by
    intro ar r' u w' hle hu aF bf;rw [eD];refine ih _ ar a4 _ r' w' br bt ?_ ?_ ?_ ?_ (ox a2 (O.le hle) hu)
    · rw [aw]; exact ay
    · rw [aw]; exact bq
    · rw [aw]; exact aF
    · rcases bf with h | ⟨j,q,h1,I,Z,aj⟩
      · exact .inl h
      · exact .inr ⟨j,q,h1,I,Z,by rw [aw]; exact aj⟩
   have az:lo=0∨∃ j q,lo=j+1∧rs[j]? =some q∧q.k= .c∧(Yl listed j∨j=i):=aI.imp id fun ⟨j,q,h1,I,Z,aj⟩=>⟨j,q,h1,I,Z,.inl aj⟩
   have aU:=GQ (n:=n) (ops:=ops) (g:=o.guard) (fr:=F i) (fx:=fx) fun t aq=>aQ t<|List.mem_append_left _ aq;have bn:=A1 (G:=G) (n:=n) (l:=fy o.op) (fr:=F i) (fx:=fx) fun t aq=>aQ t<|List.mem_append_right _ aq;have bo:=AY bm;have aA:=bo.2 i o q ab L;rw [cK] at aA;show wpOpIn (fe rr) 0 P ops.toArray Q i _ _ w;unfold wpOpIn;rw [kJ,ab];show if _ then _ else _
   rcases ak.run with ⟨hg,bw,M⟩ | ⟨hg,aY,bv,bB⟩
   · rw [if_pos (uY (N:=⟨n,Dl,[],rr⟩) (aU.trans hg) O)];have aB:=sd (N:=⟨n,Dl,[],rr⟩) C.hr.eG O<|bn.trans bw;have bh:=ak.set;obtain ⟨d,op,ty,pos,af,g⟩:=o;simp only at aB M next aA
     cases M with
     | p E V aM=>
       have aJ:∀ c,op≠.defer c:=fun c e=>by subst e; simp [my] at V
       obtain ⟨u,h1,I⟩:=A3 (N:=⟨n,Dl,[],rr⟩) (dst:=d) (ty:=ty) (pos :=pos) (af:=af) (g:=g) V aB;exact sW aJ (.inl<|I w)<|next lo r u w (Rn.le_refl r) h1 (C.skip L (by rw [E]; intro h; cases h)<|by rw [E]; intro h; cases h) az
     | l E V aM=>
       have aJ:∀ c,op≠.defer c:=fun c e=>by subst e; simp [iG] at V
       have aE:=AX<|aA.1 E;have bi:iG P op q.xs (H lo)=some q.v:=by
        rcases dk i lo with aP | aW
        · rcases aI with h0 | ⟨j,A,h1,I,Z,aj⟩
          · omega
          · have an:=(aE j A I).1 Z;rw [cK] at an;have aX:¬j < i:=U;have bC:j≠i:=fun e=>by subst e; exact ao aj
            rcases an.2 aX with hb | hb
            · exact absurd ((pw ax hb).2 aj) ao
            · obtain ⟨au,ac⟩:=s.get' I;rw [(s.line j au A ac I).ha,← h1] at hb;exact hb
        ·
         have aN:∀ (m:Nat),lo≤m→m≤i→(∀ j A,lo≤j→j < m→rs[j]? =some A→A.k≠.c)→H m=H lo:=by
          intro m
          induction m with
          | zero=>intro h _ _; have :lo=0:=U
                  subst this; rfl
          | succ m aL=>
            intro h1 I Z;rcases dk m lo with aP | hle
            · have :lo=m+1:=U;subst this; rfl
            · have hm:=aL hle U fun j A a b c=>Z j A a U c;have a1:ops[m]? =some (ops[m]'U):=bK _;obtain ⟨al,aK⟩:=s.get a1;have aH:=s.line m _ al a1 aK;have bl:=Z m al hle (lR _) aK;have bj:al.k≠.a:=fun ha=>by
               have :=(aE m al aK).2 ha;omega
              have he:al.ha=al.hb:=by
               rcases aH.run with ⟨_,_,M⟩ | ⟨_,_,_,M⟩
               · cases M with
                 | p _ _ h=>exact h
                 | l _ _ h=>exact h
                 | a e l h _ _ _ _=>exact absurd h bj
                 | c h _=>exact absurd h bl
               · exact M
              rw [← aH.ha,he,aH.hb,hm]
         by_cases hex:∃ j A,lo≤j∧j < i∧rs[j]? =some A∧A.k= .c
         ·
          have first :∀ (m:Nat),lo≤m→m≤i→(∃ j A,lo≤j∧j < m∧rs[j]? =some A∧A.k= .c)→∃ j A,lo≤j∧j < i∧rs[j]? =some A∧A.k= .c∧∀ ae q',lo≤ae→ae < j→rs[ae]? =some q'→q'.k≠.c:=by
           intro m
           induction m with
           | zero=>rintro _ _ ⟨j,_,_,h,_⟩; omega
           | succ m aL=>
             intro h1 I ⟨j,A,aD,aO,ah,av⟩;by_cases hex:∃ j A,lo≤j∧j < m∧rs[j]? =some A∧A.k= .c
             · obtain ⟨ae,bA,a5,a6,a7,a8⟩:=hex;exact aL U U ⟨ae,bA,a5,a6,a7,a8⟩
             · refine ⟨j,A,aD,U,ah,av,fun ae q' a b c d=>hex ⟨ae,q',a,U,c,d⟩⟩
          obtain ⟨j,A,aD,aO,ah,av,a9⟩:=first i aW (aV _) hex
          have an:=(aE j A ah).1 av;rw [cK] at an;rcases an.1 aO with hb | hb
          · rcases (pw ay hb).2 (.inr rfl) with h | h
            · have :=(C.lc j A ah av).1 h; omega
            · omega
          · obtain ⟨au,ac⟩:=s.get' ah;rw [(s.line j au A ac ah).hb,aN j aD U a9] at hb;exact hb
         · have :=aN i aW (aV _) fun j A a b c d=>hex ⟨j,A,a,b,c,d⟩;rw [← this,← ak.hb]; exact V
       obtain ⟨u,h1,I⟩:=A2 (N:=⟨n,Dl,[],rr⟩) (dst:=d) (ty:=ty) (pos :=pos) (af:=af) (g:=g) C.hr bi aB;exact sW aJ (.inl I)<|next lo r u w (Rn.le_refl r) h1 (C.skip L (by rw [E]; intro h; cases h)<|by rw [E]; intro h; cases h) az
     | a e l E V aM bx bz=>
       subst V;obtain ⟨h1,us,bu,bp⟩:=EH aM;obtain ⟨hle,aF⟩:=C.early s hT L E ao bx bu h1;refine sW (fun c e=>by cases e) (.inl<|bp ⟨n,Dl,[],rr⟩ σ d ty pos af g w)<|next lo _ _ _ hle ?_ aF az
       rw [bz];simp only [den,Rn.fV,cK]
     | c E V=>
       have ba:=AW<|aA.2 E;have aP:lo≤i:=by
        rcases dk i lo with h | h
        · exact absurd ((C.lc i q L E).2 h) ao
        · exact h
       have aS:∀ j A,j < i→rs[j]? =some A→(A.k= .c∨A.k= .a)→Yl listed j:=fun j A aX am aG=>by
        have hb:=ba j A am aG U;rw [cK] at hb;rcases (pw ay hb).2 (.inr rfl) with h | h
        · exact h
        · omega
       have aT:=C.xq s i aP (by rw [s.len]; omega) fun j A a b c=>⟨fun M=>by have :=(C.lc j A c M).1 (aS j A b c<|.inl M); omega,fun ha=>aS j A b c<|.inr ha⟩
       have bc:=aT.Hc s hT L E;obtain ⟨n1,s1⟩:=V;rw [ak.hb,ak.ha] at s1;refine s1 _ r w ⟨n,Dl,[],rr⟩ σ d ty pos af g _ Q (aV _) bc aB fun r' u w' hu bh=> ?_;exact next (i+1) r' u w' bh.le hu (aT.Kd s L E bh)<|.inr ⟨i,q,J,L,E,.inr J⟩
   · rw [if_neg (by rw [z3 (N:=⟨n,Dl,[],rr⟩) (aU.trans hg) O]; simp)];refine ⟨fun f _=>kX _ f,next lo r undef w (Rn.le_refl r) (by rw [bv]; exact gS r) (C.skip L (by rw [aY]; intro h; cases h)<|by rw [aY]; intro h; cases h) az⟩
theorem Gb {X:Xt} {ih:Tk→Rs} (ad:Good P G ih) (ae:gQ P G X) (ac:fJ P) (ag:∀ f args h v h',ih (.cl f args h)= .rv v h'→∃ fn c,P.funcs[f]? =some fn∧fn.body=some c) (hm:P.follows .mixedOrders=true):yi P G X ih:=by
 intro rd n id ops fr D h;show match ry P G X ih n ops fr D h with
  | .cd e ab E h'=>dg P G rd n (fun rr Q a w=>(De id ⟨ops⟩ true).wpIn (fe rr) 0 P Q a w) fr D h e ab E h'
  | .no=>True
  | _=>False
 have ai:ry P G X ih n ops fr D h=cond (nt ops (gy ops []) 0 ops) (match ku P G X ih n ops (gy ops []) 0 none ops fr h with
  | some (rs,fr,h)=>cond (kp P (gy ops []) rs 0 ops rs) (.cd .cn fr D h) .no
  | none=> .no) .no:=rfl
 rw [ai];cases hc1:nt ops (gy ops []) 0 ops
 · exact trivial
 · rw [cond_true];cases hrec:ku P G X ih n ops (gy ops []) 0 none ops fr h with
   | none=>exact trivial
   | some x=>
     obtain ⟨rs,ap,aq⟩:=x;simp only;cases hok:kp P (gy ops []) rs 0 ops rs
     · exact trivial
     · rw [cond_true];obtain ⟨F,H,I,L,M,O,V,Z⟩:=Bg ad ae ac ag hrec;have s:Sq P G n ops rs F H:=⟨V,Z,fun i j an ao hi A aP=>by
        have :=(ui hc1 i an hi).2 j ao A U;rwa [cK] at this,fun i o am=>by
        have :=zt (ui hc1 i o am).1;rwa [cK] at this⟩
       subst I; subst L; subst M; subst O;refine ⟨s.mono (j2 _) (aV _),fun T r w σ Dl rr Q hT hr aj ah ar al=> ?_⟩;refine wpIn_region_any hm ?_;have C:∀ j,¬Yl (Array.replicate ops.length false) j:=fun j A=>by
        unfold Yl at A;rw [Array.getElem?_replicate] at A;split at A <;> cases A
       refine Ge s hok hT (r0:=r) (w0:=w.drew) (fun r' w' σ' st ak=>al r' w' σ' Dl st.drew ak<|l9 st.le ah) _ _ 0 (F 0) σ r w.drew (by simp) ?_ (fun j o A=>absurd A<|C j) (fun t=> .inr ⟨fun j o A=>absurd A (C j),J⟩) (HD.start s hr.drew C) (.inl J) aj;unfold un;exact cX (List.length_filter_le _ _)<|by simp
end
end Go.Hb
namespace Go.Hb
section
variable {P:av} {G:Nat} {X:Xt} {w:ai}
theorem La {f:Nat} (E:∀ v w,(callFunc f #[v]).run P w= .ok (.value v) w) {xs:List AV} {h h':Hp} {v:AV} (he:xG xs h=some (v,h')):h.nx≤h'.nx∧∀ (T:Nat) (r:Rn) (w:ai) (us:List ag),h'.nx≤T→HR P G r T h w→aK r xs=some us→
 ∃ r' u w',den r' v=some u∧(callFunc f us.toArray).run P w= .ok (.value u) w'∧St P G T r h w r' h' w':=by
 unfold xG at he;split at he
 · cases he;refine ⟨aV _,fun T r w us hT hr C=> ?_⟩;obtain ⟨u,I,rfl,h1,A⟩:=dE C;obtain rfl :=jD A;exact ⟨r,u,w,h1,E u w,St.refl hr⟩
 · cases he
theorem Ae {c:Nat} (C:c < 256):∀ (l:List UInt8) (i:Nat),pQ c l i=if l.idxOf (eB c) < l.length then jZ (i+l.idxOf (eB c)) else -1
 | [],i=>by simp [pQ]
 | b::l,i=>by
   have E:(eB c).toNat=c:=by simp; omega
   simp only [pQ,List.idxOf_cons];cases hb:aM b.toNat c
   · have I:(b==eB c)=false :=by
      cases A:(b==eB c)
      · rfl
      · have :=eq_of_beq A;subst this;rw [E] at hb; simp at hb
     rw [I];simp only [cond_false,dx,Ae C l (i+1)];by_cases h1:l.idxOf (eB c) < l.length
     · rw [if_pos h1,if_pos U];congr 1; omega
     · rw [if_neg h1,if_neg U]
   · have :=bO hb;have A:(b==eB c)=true :=by
      rw [← this]; simp
     rw [A];simp
theorem Lb {f:Nat} (O:∀ l c w,(callFunc f #[str l,.int .u8 (Ei c)]).run P w= .ok (.value<|.int .i64<|ki c l) w) {xs:List AV} {h h':Hp} {v:AV} (he:xH xs h=some (v,h')):h.nx≤h'.nx∧∀ (T:Nat) (r:Rn) (w:ai) (us:List ag),h'.nx≤T→HR P G r T h w→aK r xs=some us→
 ∃ r' u w',den r' v=some u∧(callFunc f us.toArray).run P w= .ok (.value u) w'∧St P G T r h w r' h' w':=by
 unfold xH at he;split at he
 · rename_i l c;replace he:=a0 he; obtain ⟨A,he⟩:=he;have A:=cz.1 A;split at he
   · rename_i ab hm;cases he;refine ⟨aV _,fun T r w us hT hr M=> ?_⟩;obtain ⟨u,V,rfl,h1,E⟩:=dE M;obtain ⟨U,Z,rfl,I,J⟩:=dE E;obtain rfl :=jD J;obtain rfl :=fU h1;obtain rfl :=cO I;have L:(eB c).toNat=c:=by simp; omega
     have C:=O l (eB c) w;rw [L] at C;refine ⟨r,_,w,?_,C,St.refl hr⟩;rw [Ae A l 0] at hm;simp only [cK] at hm;have :ki (eB c) l=if l.idxOf (eB c) < l.length then jZ (l.idxOf<|eB c) else -1:=rfl
     rw [← this] at hm;rw [eZ] at hm;cases hm;simp only [den]
   · cases he
 · cases he
def x2 (a b:Nat):Xt:=fun f=>cond (aM f a) (some xG)<|cond (aM f b) (some xH) none
theorem K9 {a b:Nat} (h1:∀ v w,(callFunc a #[v]).run P w= .ok (.value v) w) (C:∀ l c w,(callFunc b #[str l,.int .u8 (Ei c)]).run P w= .ok (.value<|.int .i64<|ki c l) w):gQ P G (x2 a b):=by
 intro f e he xs h v h' A;unfold x2 at he;cases ha:aM f a
 · rw [ha] at he;simp only [cond_false] at he;cases hb:aM f b
   · rw [hb] at he; cases he
   · rw [hb] at he;cases he;have :=bO hb;subst this;exact Lb C A
 · rw [ha] at he;cases he;have :=bO ha;subst this;exact La h1 A
theorem Fu (h:P.funcs.toList.all (fun fn=> !(fn.name== "runtime.NumGoroutine") || fn.body.isNone)=true):fJ P:=by
 intro f fn c A hb;have hm:fn∈P.funcs.toList:=by
  rw [eM] at A;obtain ⟨aP,rfl⟩:=A;simp
 have :=List.all_eq_true.1 h fn hm;rw [hb] at this;simp only [Option.isNone_some,Bool.or_false,jU] at this;exact ug A this<|by rw [hb]; rfl
def sH (G T:Nat) (E:Nat→Nat):List Nat→Tr AO
 | []=> .nil
 | g::l=>(sH G T E l).set g<|.cells [.eR T (.ptr (G+g) 0)] (E g) 0 .x
theorem qh {T:Nat} {E:Nat→Nat} :∀ {l:List Nat},(∀ g∈l,aF g bX=true)→∀ {i:Nat} {o:AO},(sH G T E l).get i=some o→i∈l∧o= .cells [.eR T (.ptr (G+i) 0)] (E i) 0 .x
 | [],_,i,o,h=>by simp only [sH] at h; cases h
 | g::l,hl,i,o,h=>by
   simp only [sH] at h;rw [Tr.kg _ _ _ _ (hl g<|kL)] at h;split at h
   · rename_i e; subst e; cases h; exact ⟨kL,rfl⟩
   · obtain ⟨h1,A⟩:=qh (fun g hg=>hl g<|kK _ hg) h;exact ⟨kK _ h1,A⟩
def cT (T:Nat) (l:List Nat) (w:ai):Prop := ∀ g,g∈l→∃ (a:Addr) (e:Nat),a.spot=none∧w.heap[g]? =some (.cells #[.iface T (.pointer<|some a)] e (0,0))
theorem cT.mono {T:Nat} {l:List Nat} {w w':ai} {F:Nat→Prop} (h:cT T l w) (hm:Md F w w') (C:∀ g∈l,¬F g):cT T l w':=fun g hg=>by
 obtain ⟨a,e,h1,A⟩:=h g hg;exact ⟨a,e,h1,hm.ax A<|C g hg⟩
theorem HR.wx {T:Nat} {l:List Nat} (C:∀ g∈l,g < G) (ae:G≤1000) (h:cT T l w):∃ (E:Nat→Nat) (r:Rn),∀ M,HR P G r M ⟨sH G T E l,G+G⟩ w:=by
 classical
 let A:Nat→Addr:=fun g=>if hg:g∈l then (h g hg).choose else ⟨0,0,none⟩
 let E:Nat→Nat:=fun g=>if hg:g∈l then (h g hg).choose_spec.choose else 0
 have Z:∀ g,g∈l→(A g).spot=none∧w.heap[g]? =some (.cells #[.iface T (.pointer<|some<|A g)] (E g) (0,0)):=fun g hg=>by
  have :=(h g hg).choose_spec.choose_spec;simp only [A,E,dif_pos hg];exact this
 let r:Rn:=fun i=>if i < G then some ⟨i,0,0⟩ else if i < G+G then some ⟨(A<|i - G).block,(A<|i - G).off,0⟩ else none
 have I:∀ i,i < G→r i=some ⟨i,0,0⟩:=fun i hi=>if_pos hi;have ad:∀ g,g < G→r (G+g)=some ⟨(A g).block,(A g).off,0⟩:=fun g hg=>by
  show (if G+g < G then _ else _)=_;rw [if_neg U,if_pos U,show G+g - G=g from by omega]
 have L:∀ g∈l,aF g bX=true :=fun g hg=>cz.2 (by have :=C g hg; have :bX=1048574:=rfl; omega);refine ⟨E,r,fun M=>⟨fun i o hi=> ?_,fun i j o ag q q' hi ab h1 J he=> ?_,fun i h1 J=> ?_,fun g hg=>⟨0,I g hg⟩,Nat.le_add_right _ _⟩⟩
 · obtain ⟨hm,rfl⟩:=qh L hi;have aP:=C i hm;obtain ⟨O,V⟩:=Z i hm;refine ⟨⟨i,0,0⟩,I i aP,?_⟩;rw [V];refine vQ (us:= [.iface T (.pointer<|some<|A i)]) ?_ rfl;have e:(⟨(A i).block,(A i).off,none⟩:Addr)=A i:=by
    have :A i=⟨(A i).block,(A i).off,(A i).spot⟩:=rfl;rw [this,O]
   simp only [aK,den,ad i aP,jy,e]
 · obtain ⟨hm,rfl⟩:=qh L hi;obtain ⟨ac,rfl⟩:=qh L ab;rw [I i (C i hm)] at h1;rw [I j (C j ac)] at J;cases h1; cases J;exact he
 · show (if i < G then _ else _)=_;simp only at h1;rw [if_neg U,if_neg U]
theorem St.wk {T C:Nat} {E:Nat→Nat} {l:List Nat} {r r':Rn} {h':Hp} {w':ai} (A:∀ g∈l,g < G) (L:G≤1000) (st:St P G C r ⟨sH G T E l,G+G⟩ w r' h' w'):Wk w w':=by
 refine ⟨st.md.os,st.md.output,st.md.size,fun k J _=>st.md.eY k J fun ⟨i,o,q,h1,I,_⟩=> ?_⟩;obtain ⟨hm,_⟩:=qh (fun g hg=>cz.2 (by have :=A g hg; have :bX=1048574:=rfl; omega)) I;have :=A i hm;omega
end
end Go.Hb
end
