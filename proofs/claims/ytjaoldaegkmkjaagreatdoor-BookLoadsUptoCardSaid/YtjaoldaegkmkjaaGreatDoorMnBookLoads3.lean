/-
  Walks and plain laws that the law rests on, laid together. No conditions but those that each theorem names.
-/
import Derived.Test.YtjaoldaegkmkjaaGreatDoorMnBookLoads2
set_option linter.unusedVariables false
open Array renaming all_eq_true_iff_forall_mem→Ac,foldl_toList→Ae,getD_eq_getD_getElem?→gw,getElem?_eq_getElem→lH,getElem?_eq_some_iff→ef,getElem?_modify→Ah,getElem?_push→qN,getElem?_setIfInBounds→og,getElem?_setIfInBounds_ne→uC,getElem?_setIfInBounds_self_of_lt→uD,getElem?_toList→m6,length_toList→jF,range→m7,toList_inj→oh,toList_map→gR,toList_modify→Al,toList_push→Am
open BitVec renaming ofInt→fS
open Bool renaming and_eq_true→aV,false_eq_true→om,noConfusion→dd,not_eq_true'→iW,or_eq_true→lJ,or_eq_true_iff→Aq
open Go.Builtin renaming append_→iA,clear_→qQ,delete_→uF,firstCells→qR,zeroCells→As
open Go.Calls renaming mono→iX
open Go renaming Code→bt,Edge→bX,Exit→bc,IntKind→bg,Oper→ax,Operand→aT,Program→aq,TypeId→an,Value→ag,World→ah
open Go.Code renaming region→Aw
open Go.Deferred renaming ofValue→ki
open Go.Exit renaming inBlock→AB
open Go.Fence renaming wide→gS
open Go.FrameMode renaming noConfusion→AE
open Go.Instr renaming alloc→qS,buildSlice→qT,fill→iZ,keyThatStays→ot,mapUpdate→uJ
open Go.Lib renaming run_unsafeString_none→AM
open Go.Op renaming equal→kj,equalIn→eC
open Go.Oper renaming semAt_eq→uO,uponIn→qV
open Go.Region renaming binds→cY,ready→dn,wanted→iB
open Go.Result renaming andThen_ok→fT
open Go.Sem renaming run→jG,run_bind→gx,run_pure→jH
open Go.World renaming freeze→jI,putObj→AS,putObj_heap_other→AT,putObj_heap_same→AU
open Int renaming natCast_nonneg→eD,natCast_pos→AX,ofNat→jb,toNat_natCast→jJ
open List.Sublist renaming map→H6
open List renaming append_assoc→A1,eq_nil_of_length_eq_zero→jL,ext_getElem?→q6,filter_cons→A5,flatten_cons→A7,getD_eq_getElem?_getD→cg,getElem?_append_left→eh,getElem?_append_right→et,getElem?_cons_succ→gz,getElem?_cons_zero→gA,getElem?_drop→gU,getElem?_eq_getElem→bH,getElem?_eq_none→km,getElem?_eq_some_iff→cJ,getElem?_map→jM,getElem?_take→gB,getElem?_toArray→jN,length→q9,length_append→cj,length_cons→cZ,length_drop→gV,length_eq_one_iff→oC,length_nil→iD,length_take→cO,mapM_cons→Bb,map_append→uX,map_cons→fg,map_map→Bc,mem_append→lV,mem_cons→fU,mem_cons_of_mem→jO,mem_cons_self→jP,mem_filter→Bg,mem_map→rf,mem_of_getElem?→lW,mem_of_mem_drop→rh,mem_of_mem_take→ri,mem_range→Bh,nodup_cons→Bj,range→kn,range'→ko,replicate→dq,replicate_succ→Bm,size_toArray→dG
open List.cons renaming injEq→jK
open Nat renaming add_assoc→iE,add_comm→rj,add_mul→kp,add_zero→iF,beq→aD,ble→aX,ble_eq→oG,ble_eq_true_of_le→u0,blt→az,eq_of_beq_eq_true→bA,le_of_ble_eq_true→bC,le_refl→aY,le_succ→jQ,le_trans→cH,lt_of_lt_of_le→kq,lt_or_ge→de,lt_succ_iff_lt_or_eq→Br,lt_succ_self→kr,lt_trichotomy→oH,mul_le_mul_right→lX,not_lt_zero→rk,pos_of_ne_zero→Bs,pow_succ→rl,succ_le_iff→oJ,succ_pos→Bt,testBit→oK,zero_add→b9,zero_le→jd,zero_mul→rn
open Option renaming getD_none→ng,getD_some→gC,map_eq_some_iff→fA,map_some→eu
open Option.some renaming inj→fV,injEq→bu
open Prod renaming fst→fh,snd→rq
open Prod.mk renaming injEq→gD
open UInt8 renaming lt_iff_toNat_lt→Bv,ofNat→dP,toNat→Bw,toNat_inj→ru
open Go.Proofs.Tryz
open Go.RowKit

section
namespace Go.Hb
inductive Tr (α:Type) | nil | nd (l:Tr α) (v:Option α) (r:Tr α)
def Tr.get {α:Type} :Tr α→Nat→Option α
 | .nil,_=>none
 | .nd _ v _,0=>v
 | .nd l _ r,n+1=>cond (aD (n % 2) 0) (l.get<|n / 2)<|r.get<|n / 2
def Tr.put {α:Type} (v:Option α):Nat→Tr α→Nat→Tr α
 | 0,t,_=>t
 | _+1,.nil,0=> .nd .nil v .nil
 | _+1,.nd l _ r,0=> .nd l v r
 | k+1,.nil,n+1=>cond (aD (n % 2) 0) (.nd (Tr.put v k .nil<|n / 2) none .nil)<|.nd .nil none<|Tr.put v k .nil<|n / 2
 | k+1,.nd l u r,n+1=>cond (aD (n % 2) 0) (.nd (Tr.put v k l<|n / 2) u r)<|.nd l u<|Tr.put v k r<|n / 2
theorem Tr.get_nil {α:Type} (n:Nat):(Tr.nil:Tr α).get n=none:=by unfold Tr.get; rfl
theorem zI {n:Nat} {b:Bool} (h:aD (n % 2) 0=b):n % 2=cond b 0 1:=by
 cases b
 · have :n % 2≠0:=fun e=>by rw [e] at h; cases h
   simp only [cond_false]; omega
 · exact bA h
theorem qB {n m:Nat} {b:Bool} (hn:aD (n % 2) 0=b) (hm:aD (m % 2) 0=b) (e:m / 2=n / 2):m+1=n+1:=by
 have :=zI hn;have :=zI hm;omega
theorem Tr.mL {α:Type} (v:Option α):∀ (k:Nat) (t:Tr α) (n m:Nat),m≠n→(Tr.put v k t n).get m=t.get m
 | 0,t,n,m,_=>by simp [Tr.put]
 | k+1,.nil,0,m,h=>by
   obtain ⟨m,rfl⟩:∃ j,m=j+1:=⟨m - 1,U⟩
   simp [Tr.put,Tr.get]
 | k+1,.nd l u r,0,m,h=>by
   obtain ⟨m,rfl⟩:∃ j,m=j+1:=⟨m - 1,U⟩
   simp [Tr.put,Tr.get]
 | k+1,.nil,n+1,0,h=>by
   simp only [Tr.put];cases aD (n % 2) 0 <;> rfl
 | k+1,.nd l u r,n+1,0,h=>by
   simp only [Tr.put];cases aD (n % 2) 0 <;> rfl
 | k+1,.nil,n+1,m+1,h=>by
   simp only [Tr.put];cases hn:aD (n % 2) 0 <;> cases hm:aD (m % 2) 0 <;> simp only [cond_true,cond_false,Tr.get,hm]
   · rw [Tr.mL v k .nil _ _ (fun e=>h<|qB hn hm e)]; rfl
   · rw [Tr.mL v k .nil _ _ (fun e=>h<|qB hn hm e)]; rfl
 | k+1,.nd l u r,n+1,m+1,h=>by
   simp only [Tr.put];cases hn:aD (n % 2) 0 <;> cases hm:aD (m % 2) 0 <;> simp only [cond_true,cond_false,Tr.get,hm]
   · rw [Tr.mL v k r _ _ (fun e=>h<|qB hn hm e)]
   · rw [Tr.mL v k l _ _ (fun e=>h<|qB hn hm e)]
theorem Tr.put_eq {α:Type} (v:Option α):∀ (k:Nat) (t:Tr α) (n:Nat),n+1 < 2 ^ k→(Tr.put v k t n).get n=v
 | 0,t,n,h=>U
 | k+1,.nil,0,_=>by simp [Tr.put,Tr.get]
 | k+1,.nd l u r,0,_=>by simp [Tr.put,Tr.get]
 | k+1,.nil,n+1,h=>by
   have A:n / 2 +1 < 2 ^ k:=by rw [rl] at h; omega
   simp only [Tr.put];cases hn:aD (n % 2) 0 <;> simp only [cond_true,cond_false,Tr.get,hn] <;> exact Tr.put_eq v k _ _ A
 | k+1,.nd l u r,n+1,h=>by
   have A:n / 2 +1 < 2 ^ k:=by rw [rl] at h; omega
   simp only [Tr.put];cases hn:aD (n % 2) 0 <;> simp only [cond_true,cond_false,Tr.get,hn] <;> exact Tr.put_eq v k _ _ A
def bI:Nat:=1048574
def Tr.set {α:Type} (t:Tr α) (n:Nat) (v:α):Tr α:=Tr.put (some v) 20 t n
def Tr.del {α:Type} (t:Tr α) (n:Nat):Tr α:=Tr.put none 20 t n
theorem Tr.jo {α:Type} (t:Tr α) (n m:Nat) (v:α) (h:az n bI=true):(t.set n v).get m=if m=n then some v else t.get m:=by
 have h':n < 1048574:=by simpa [bI,az,oG,oJ] using h
 unfold Tr.set;split
 · rename_i e; subst e; exact Tr.put_eq _ _ _ _ U
 · rename_i e; exact Tr.mL _ _ _ _ _ e
theorem Tr.mz {α:Type} (t:Tr α) (n m:Nat) (h:az n bI=true):(t.del n).get m=if m=n then none else t.get m:=by
 have h':n < 1048574:=by simpa [bI,az,oG,oJ] using h
 unfold Tr.del;split
 · rename_i e; subst e; exact Tr.put_eq _ _ _ _ U
 · rename_i e; exact Tr.mL _ _ _ _ _ e
inductive AV
 | bool (b:Bool) | int (k:bg) (n:Int) | str (l:List UInt8)
 | ptr (b o:Nat) | fm
 | sl (b o n c:Nat) (x:Bool)
 | au
 | map (b:Nat) | iP
 | fn (f:Nat) (a c:List AV) | e9 (l:Nat) | gk
 | ek (t:Nat) (v:AV) | cM
 | agg (l:List AV) | bG (l:List AV)
structure Loc where
 ar:Nat
 sh:Nat
 room:Nat
abbrev Rn:=Nat→Option Loc
def Rn.le (r s:Rn):Prop := ∀ i x,r i=some x→s i=some x
theorem Rn.le_refl (r:Rn):r.le r:=fun _ _ h=>h
theorem Rn.le_trans {r s t:Rn} (h:r.le s) (h':s.le t):r.le t:=fun i x A=>h' i x<|h i x A
mutual
def den (r:Rn):AV→Option ag
 | .bool b=>some<|.bool b
 | .int k n=>some<|.int k n
 | .str l=>some<|Hb.str l
 | .ptr b o=>match r b with
   | some q=>some<|.pointer<|some ⟨q.ar,q.sh+o,none⟩
   | none=>none
 | .fm=>some<|.pointer none
 | .sl b o n c x=>match r b with
   | some q=>cond x (cond (aX n c) (some<|.slice (some ⟨q.ar,q.sh+o,none⟩) n c) none)<|cond (aX (c+n) q.room) (some<|.slice (some ⟨q.ar,q.sh+o,none⟩) n<|q.room - c) none
   | none=>none
 | .au=>some<|.slice none 0 0
 | .map b=>match r b with
   | some q=>some<|.map<|some q.ar
   | none=>none
 | .iP=>some<|.map none
 | .fn f a c=>match aB r a,aB r c with
   | some a,some c=>some<|.func (.func f) a.toArray c.toArray
   | _,_=>none
 | .e9 l=>match r l with
   | some q=>some<|.func (.yield q.ar) #[] #[]
   | none=>none
 | .gk=>some .nilFunc
 | .ek t v=>match den r v with
   | some v=>some<|.iface t v
   | none=>none
 | .cM=>some .nilIface
 | .agg l=>match aB r l with
   | some l=>some<|.agg l.toArray
   | none=>none
 | .bG l=>match aB r l with
   | some l=>some<|.tuple l.toArray
   | none=>none
def aB (r:Rn):List AV→Option (List ag)
 | []=>some []
 | v::l=>match den r v,aB r l with
   | some v,some l=>some (v::l)
   | _,_=>none
end
mutual
theorem jl {r s:Rn} (h:r.le s):∀ {v:AV} {u:ag},den r v=some u→den s v=some u
 | .bool _,_,hu | .int _ _,_,hu | .str _,_,hu | .fm,_,hu | .au,_,hu | .iP,_,hu | .gk,_,hu | .cM,_,hu=>by
   simp only [den] at hu ⊢; exact hu
 | .ptr b o,u,hu | .sl b o n c x,u,hu | .map b,u,hu | .e9 b,u,hu=>by
   simp only [den] at hu ⊢;cases hb:r b with
   | none=>rw [hb] at hu; cases hu
   | some q=>rw [hb] at hu; rw [h b q hb]; exact hu
 | .fn f a c,u,hu=>by
   simp only [den] at hu ⊢;cases ha:aB r a with
   | none=>rw [ha] at hu; cases hu
   | some A=>
     cases hc:aB r c with
     | none=>rw [ha,hc] at hu; cases hu
     | some c'=>rw [ha,hc] at hu; rw [fH h ha,fH h hc]; exact hu
 | .ek t v,u,hu=>by
   simp only [den] at hu ⊢;cases hv:den r v with
   | none=>rw [hv] at hu; cases hu
   | some E=>rw [hv] at hu; rw [jl h hv]; exact hu
 | .agg l,u,hu | .bG l,u,hu=>by
   simp only [den] at hu ⊢;cases hl:aB r l with
   | none=>rw [hl] at hu; cases hu
   | some C=>rw [hl] at hu; rw [fH h hl]; exact hu
theorem fH {r s:Rn} (h:r.le s):∀ {v:List AV} {u:List ag},aB r v=some u→aB s v=some u
 | [],_,hu=>by simp only [aB] at hu ⊢; exact hu
 | v::l,u,hu=>by
   simp only [aB] at hu ⊢;cases hv:den r v with
   | none=>rw [hv] at hu; cases hu
   | some C=>
     cases hl:aB r l with
     | none=>rw [hv,hl] at hu; cases hu
     | some A=>rw [hv,hl] at hu; rw [jl h hv,fH h hl]; exact hu
end
theorem dh {r:Rn} {v:AV} {l:List AV} {us:List ag} (h:aB r (v::l)=some us):∃ u A,us=u::A∧den r v=some u∧aB r l=some A:=by
 simp only [aB] at h;split at h
 · rename_i u A h1 C; exact ⟨u,A,(fV h).symm,h1,C⟩
 · cases h
theorem iI {r:Rn} {us:List ag} (h:aB r []=some us):us= []:=by simpa [aB] using h.symm
theorem c9 {r:Rn} {v:AV} {l:List AV} {u:ag} {us:List ag} (h1:den r v=some u) (A:aB r l=some us):aB r (v::l)=some (u::us):=by simp only [aB,h1,A]
theorem cE {r:Rn} :∀ {l:List AV} {us:List ag},aB r l=some us→us.length=l.length
 | [],_,h=>by rw [iI h]; rfl
 | v::l,us,h=>by obtain ⟨u,C,rfl,_,A⟩:=dh h; simp [cE A]
theorem me {r:Rn} :∀ {l:List AV} {us:List ag} {i:Nat} {v:AV},aB r l=some us→l[i]? =some v→∃ u,us[i]? =some u∧den r v=some u
 | [],_,i,v,h,hv=>by simp at hv
 | a::l,us,0,v,h,hv=>by
   obtain ⟨u,J,rfl,h1,_⟩:=dh h;simp only [gA,bu] at hv;subst hv; exact ⟨u,rfl,h1⟩
 | a::l,us,i+1,v,h,hv=>by
   obtain ⟨u,J,rfl,_,A⟩:=dh h;simp only [gz] at hv;obtain ⟨I,C,E⟩:=me A hv;exact ⟨I,by simpa using C,E⟩
theorem ei {r:Rn} :∀ {l m:List AV} {us vs:List ag},aB r l=some us→aB r m=some vs→aB r (l++m)=some (us++vs)
 | [],m,us,vs,h,h'=>by rw [iI h]; exact h'
 | a::l,m,us,vs,h,h'=>by
   obtain ⟨u,C,rfl,h1,A⟩:=dh h;exact c9 h1<|ei A h'
theorem gG {r:Rn} :∀ {l:List AV} {us:List ag} (n:Nat),aB r l=some us→aB r (l.take n)=some (us.take n)
 | _,_,0,_=>by simp [aB]
 | [],us,n+1,h=>by rw [iI h]; simp [aB]
 | a::l,us,n+1,h=>by
   obtain ⟨u,C,rfl,h1,A⟩:=dh h;exact c9 h1<|gG n A
theorem hZ {r:Rn} :∀ {l:List AV} {us:List ag} (n:Nat),aB r l=some us→aB r (l.drop n)=some (us.drop n)
 | _,_,0,h=>h
 | [],us,n+1,h=>by rw [iI h]; simp [aB]
 | a::l,us,n+1,h=>by
   obtain ⟨u,C,rfl,h1,A⟩:=dh h;exact hZ n A
inductive Ck | a | z | x
inductive AO
 | cells (l:List AV) (e:Nat) (fz:Nat) (ex:Ck)
 | map (l:List (AV×AV))
 | loop (st:LoopState) (pe:Option bt) (n:Nat) (fr:Tr AV) (ps:List Nat) (aP body:bt) (D:Nat)
 | jm (b:Bool)
 | tY (l:List UInt8) (p:Nat)
structure Hp where
 t:Tr AO
 nx:Nat
def cF (fr:Tr AV) (i:Nat):AV:=match fr.get i with
 | some v=>v
 | none=> .bG []
def dr (r:Rn) (n:Nat) (fr:Tr AV) (s:Nat→ag):Prop := ∀ i,i < n→den r (cF fr i)=some (s i)
def eQ (r:Rn):List (AV×AV)→List MapEntry→Prop
 | [],[]=>True
 | p::l,m::es=>den r p.1=some m.key∧den r p.2=some m.val∧eQ r l es
 | _,_=>False
def OR (P:aq) (r:Rn) (q:Loc):AO→Option Obj→Prop
 | .cells l e fz ex,o=> ∃ c fr us,o=some (.cells c e fr)∧aB r l=some us∧q.sh+l.length≤c.size∧(∀ j u,us[j]? =some u→c[q.sh+j]? =some u)∧fr.2≤q.sh+fz∧
  (∀ u∈us,u.oneCell'=true)∧((ex= .x→q.sh=0∧c.size=l.length∧fr=(0,fz))∧(ex≠.a→q.sh=0))∧∀ s,bU P e=some s→q.sh+q.room*s≤c.size
 | .map l,o=> ∃ es c,o=some (.map es c)∧eQ r l es.toList∧(es.toList.map fun e=>e.key).Nodup
 | .loop st E n fr ps aP body D,o=> ∃ fn A C,o=some (.loop {state:=st,pending:=E,fn:=fn,tmps:=A,params:=ps.toArray,assign:=aP,body:=body,defers:=C})∧(∃ x,r D=some x∧x.ar=C)∧A.size=n∧∀ i,i < n→den r (cF fr i)=A[i]?
 | .jm b,o=>o=some (.deferred<|cond b (some []) none)
 | .tY l p,o=>o=some (.stringIter ⟨⟨l⟩⟩ p)
end Go.Hb
namespace Go.Hb
def iQ (f:ag→Option AV):List ag→Option (List AV)
 | []=>some []
 | v::l=>match f v with
   | some a=>match iQ f l with
     | some b=>some (a::b)
     | none=>none
   | none=>none
def gJ:Nat→ag→Option AV
 | 0,_=>none
 | d+1,v=>match v with
   | .bool b=>some<|.bool b
   | .int k n=>some<|.int k n
   | .string ⟨⟨l⟩⟩=>some<|.str l
   | .pointer none=>some .fm
   | .slice none 0 0=>some .au
   | .map none=>some .iP
   | .nilFunc=>some .gk
   | .nilIface=>some .cM
   | .agg ⟨l⟩=>match iQ (gJ d) l with
     | some l=>some<|.agg l
     | none=>none
   | .tuple ⟨l⟩=>match iQ (gJ d) l with
     | some l=>some<|.bG l
     | none=>none
   | _=>none
theorem mD {f:ag→Option AV} {r:Rn} (A:∀ v a,f v=some a→den r a=some v):∀ {l:List ag} {m:List AV},iQ f l=some m→aB r m=some l
 | [],m,h=>by simp only [iQ,bu] at h; subst h; simp [aB]
 | v::l,m,h=>by
   simp only [iQ] at h;split at h
   · rename_i a ha;split at h
     · rename_i b hb;cases h;exact c9 (A v a ha)<|mD A hb
     · cases h
   · cases h
theorem j9 {r:Rn} :∀ (d:Nat) {v:ag} {a:AV},gJ d v=some a→den r a=some v
 | 0,v,a,h=>by simp [gJ] at h
 | d+1,v,a,h=>by
   simp only [gJ] at h;split at h <;> first
    | (cases h; simp [den,str]; done)
    | (split at h
       · rename_i C A;cases h;simp only [den,mD (fun v a=>j9 d) A]
       · cases h)
    | cases h
def iS (G n:Nat) (fr:Tr AV):aT→Option AV
 | .tmp t=>cond (az t n) (some<|cF fr t) none
 | .const v=>gJ 4 v
 | .func f=>some<|.fn f [] []
 | .global g=>cond (az g G) (some<|.ptr g 0) none
def iT (G n:Nat) (fr:Tr AV):List aT→Option (List AV)
 | []=>some []
 | x::l=>match iS G n fr x with
   | some a=>match iT G n fr l with
     | some b=>some (a::b)
     | none=>none
   | none=>none
def l4 (G:Nat) (r:Rn):Prop := ∀ g,g < G→∃ m,r g=some ⟨g,0,m⟩
section
variable {G:Nat} {fr:Tr AV} {r:Rn} {N:Fm} {σ:Nat→ag}
theorem nP (C:l4 G r) (A:dr r N.n fr σ) {x:aT} {a:AV} (h:iS G N.n fr x=some a):den r a=some (ev N σ x):=by
 cases x with
 | tmp t=>
   simp only [iS] at h;cases hb:az t N.n
   · rw [hb] at h; cases h
   · rw [hb] at h;simp only [cond_true,bu] at h;subst h;simp only [ev,hb,cond_true];exact A t<|by simpa [az,oG,oJ] using hb
 | const v=>exact j9 4 h
 | func f=>simp only [iS,bu] at h; subst h; simp [den,aB,ev]
 | global g=>
   simp only [iS] at h;cases hb:az g G
   · rw [hb] at h; cases h
   · rw [hb] at h;simp only [cond_true,bu] at h;subst h;obtain ⟨m,hm⟩:=C g<|by simpa [az,oG,oJ] using hb
     simp only [den,hm,ev,iF]
theorem pO (C:l4 G r) (A:dr r N.n fr σ):∀ {l:List aT} {m:List AV},iT G N.n fr l=some m→aB r m=some (l.map<|ev N σ)
 | [],m,h=>by simp only [iT,bu] at h; subst h; simp [aB]
 | x::l,m,h=>by
   simp only [iT] at h;split at h
   · rename_i a ha;split at h
     · rename_i b hb;cases h;exact c9 (nP C A ha)<|pO C A hb
     · cases h
   · cases h
end
def eR:Op→List aT
 | .move x | .assign x | .box _ x | .load _ x | .nilCheck x | .unOp _ _ x | .convert _ _ x | .makeInterface _ x | .fieldAddr _ x _ | .field _ x _ | .range _ x | .next x _ | .typeAssert x _ _ _ | .extract x _=> [x]
 | .pick c a b=> [c,a,b]
 | .build _ ⟨ps⟩=>ps.map (·.2)
 | .buildSlice _ _ ⟨ps⟩=>ps.map (·.2)
 | .store _ a v | .binOp _ _ a v _ | .makeSlice _ a v | .indexAddr _ a v | .index _ a v | .lookup _ a v _=> [a,v]
 | .makeFunc _ ⟨a⟩ ⟨c⟩=>a++c
 | .slice _ x l h m=>x::(l.toList++(h.toList++m.toList))
 | .mapUpdate _ m k v | .insert _ m k v=> [m,k,v]
 | .call ⟨.value f,⟨l⟩,_⟩ | .defer ⟨.value f,⟨l⟩,_⟩=>f::l
 | .call ⟨.builtin _,⟨l⟩,_⟩=>l
 | _=> []
theorem dK {r:Rn} {a:AV} {u:ag} (h:aB r [a]=some [u]):den r a=some u:=by
 obtain ⟨A,us,he,h1,_⟩:=dh h;cases he; exact h1
theorem fG {r:Rn} {a b:AV} {u v:ag} (h:aB r [a,b]=some [u,v]):den r a=some u∧den r b=some v:=by
 obtain ⟨C,us,he,h1,A⟩:=dh h;cases he; exact ⟨h1,dK A⟩
theorem jX {r:Rn} {a b c:AV} {u v t:ag} (h:aB r [a,b,c]=some [u,v,t]):den r a=some u∧den r b=some v∧den r c=some t:=by
 obtain ⟨C,us,he,h1,A⟩:=dh h;cases he; exact ⟨h1,fG A⟩
section
variable {r:Rn} {u:ag}
theorem cm {k:bg} {n:Int} (h:den r (.int k n)=some u):u= .int k n:=by simpa [den] using h.symm
theorem gH {b:Bool} (h:den r (.bool b)=some u):u= .bool b:=by simpa [den] using h.symm
theorem fi {l:List UInt8} (h:den r (.str l)=some u):u=str l:=by simpa [den] using h.symm
theorem mi (h:den r .fm=some u):u= .pointer none:=by simpa [den] using h.symm
theorem fJ (h:den r .au=some u):u= .slice none 0 0:=by simpa [den] using h.symm
theorem wv (h:den r .iP=some u):u= .map none:=by simpa [den] using h.symm
theorem nq (h:den r .gk=some u):u= .nilFunc:=by simpa [den] using h.symm
theorem mh (h:den r .cM=some u):u= .nilIface:=by simpa [den] using h.symm
theorem fZ {b o:Nat} (h:den r (.ptr b o)=some u):∃ q,r b=some q∧u= .pointer (some ⟨q.ar,q.sh+o,none⟩):=by
 simp only [den] at h;split at h
 · rename_i q A; exact ⟨q,A,(fV h).symm⟩
 · cases h
theorem kJ {b:Nat} (h:den r (.map b)=some u):∃ q,r b=some q∧u= .map (some q.ar):=by
 simp only [den] at h;split at h
 · rename_i q A; exact ⟨q,A,(fV h).symm⟩
 · cases h
theorem r5 {b:Nat} (h:den r (.e9 b)=some u):∃ q,r b=some q∧u= .func (.yield q.ar) #[] #[]:=by
 simp only [den] at h;split at h
 · rename_i q A; exact ⟨q,A,(fV h).symm⟩
 · cases h
theorem wx {b o n c:Nat} (h:den r (.sl b o n c true)=some u):∃ q,r b=some q∧n≤c∧u= .slice (some ⟨q.ar,q.sh+o,none⟩) n c:=by
 simp only [den] at h;split at h
 · rename_i q A;cases hb:aX n c
   · rw [hb] at h; cases h
   · rw [hb] at h;exact ⟨q,A,bC hb,(fV h).symm⟩
 · cases h
theorem o7 {b o n c:Nat} (h:den r (.sl b o n c false)=some u):∃ q,r b=some q∧c+n≤q.room∧u= .slice (some ⟨q.ar,q.sh+o,none⟩) n (q.room - c):=by
 simp only [den] at h;split at h
 · rename_i q A;cases hb:aX (c+n) q.room
   · rw [hb] at h; cases h
   · rw [hb] at h;exact ⟨q,A,bC hb,(fV h).symm⟩
 · cases h
theorem ga {b o n c:Nat} {x:Bool} (h:den r (.sl b o n c x)=some u):∃ q cap,r b=some q∧n≤cap∧u= .slice (some ⟨q.ar,q.sh+o,none⟩) n cap∧(x=true→cap=c)∧(x=false→cap=q.room - c∧c+n≤q.room):=by
 cases x
 · obtain ⟨q,C,A,he⟩:=o7 h;exact ⟨q,q.room - c,C,U,he,(fun e=>by cases e),fun _=>⟨J,A⟩⟩
 · obtain ⟨q,C,A,he⟩:=wx h;exact ⟨q,c,C,A,he,fun _=>rfl,fun e=>by cases e⟩
theorem jZ {f:Nat} {a c:List AV} (h:den r (.fn f a c)=some u):∃ A c',aB r a=some A∧aB r c=some c'∧u= .func (.func f) A.toArray c'.toArray:=by
 simp only [den] at h;split at h
 · rename_i A c' ha C; exact ⟨A,c',ha,C,(fV h).symm⟩
 · cases h
theorem o6 {t:Nat} {v:AV} (h:den r (.ek t v)=some u):∃ A,den r v=some A∧u= .iface t A:=by
 simp only [den] at h;split at h
 · rename_i A C; exact ⟨A,C,(fV h).symm⟩
 · cases h
theorem np {l:List AV} (h:den r (.agg l)=some u):∃ us,aB r l=some us∧u= .agg us.toArray:=by
 simp only [den] at h;split at h
 · rename_i C A; exact ⟨C,A,(fV h).symm⟩
 · cases h
theorem wy {l:List AV} (h:den r (.bG l)=some u):∃ us,aB r l=some us∧u= .tuple us.toArray:=by
 simp only [den] at h;split at h
 · rename_i C A; exact ⟨C,A,(fV h).symm⟩
 · cases h
end
def sG (k:bg):Int→Bool
 | .ofNat m=>match k with
   | .i64=>az m 9223372036854775808
   | .u8=>az m 256
   | .u64=>az m 18446744073709551616
   | .i32=>az m 2147483648
   | .u32=>az m 4294967296
   | .u16=>az m 65536
   | _=>false
 | .negSucc m=>match k with
   | .i64=>az m 9223372036854775808
   | .i32=>az m 2147483648
   | _=>false
def lG (k:bg) (n:Int):Int:=cond (sG k n) n<|k.wrap n
theorem bQ {a b:Nat} :az a b=true↔a < b:=by simp [az,oG,oJ]
theorem u16_in (n:Int) (h:0≤n∧n≤65535):IntKind.u16.wrap n=n:=by
 unfold IntKind.wrap;simp only [IntKind.bits,IntKind.signed];simp;omega
theorem D6 {k:bg} {n:Int} (h:sG k n=true):k.wrap n=n:=by
 cases n with
 | ofNat m=>
   show k.wrap (m:Int)=(m:Int)
   cases k with
   | i64=>have :=bQ.1 (show az m 9223372036854775808=true from h); exact gQ ⟨U,U⟩
   | u8=>have :=bQ.1 (show az m 256=true from h); exact uw ⟨U,U⟩
   | u64=>have :=bQ.1 (show az m 18446744073709551616=true from h); exact fw ⟨U,U⟩
   | i32=>have :=bQ.1 (show az m 2147483648=true from h); exact ur ⟨U,U⟩
   | u32=>have :=bQ.1 (show az m 4294967296=true from h); exact z8 ⟨U,U⟩
   | u16=>have :=bQ.1 (show az m 65536=true from h); exact u16_in _ ⟨U,U⟩
   | i8=>exact dd (show false =true from h)
   | i16=>exact dd (show false =true from h)
 | negSucc m=>
   rw [Int.negSucc_eq];cases k with
   | i64=>have :=bQ.1 (show az m 9223372036854775808=true from h); exact gQ ⟨U,U⟩
   | i32=>have :=bQ.1 (show az m 2147483648=true from h); exact ur ⟨U,U⟩
   | _=>exact dd (show false =true from h)
theorem od (k:bg) (n:Int):lG k n=k.wrap n:=by
 unfold lG;cases h:sG k n
 · rfl
 · exact (D6 h).symm
def dW (k:bg):Int→Option AV
 | .ofNat 0=>some<|.int k 0
 | .ofNat (m+1)=>some<|.int k<|.ofNat<|m+1
 | .negSucc 0=>some<|.int k<|-1
 | .negSucc (m+1)=>some<|.int k<|.negSucc<|m+1
theorem ez (k:bg) (n:Int):dW k n=some (.int k n):=by
 unfold dW;split <;> rfl
def fL:List UInt8→List UInt8→Bool
 | [],[]=>true
 | a::l,b::m=>cond (aD a.toNat b.toNat) (fL l m) false
 | _,_=>false
theorem mq:∀ l m:List UInt8,fL l m=decide (l=m)
 | [],[]=>by simp [fL]
 | [],_::_=>by simp [fL]
 | _::_,[]=>by simp [fL]
 | a::l,b::m=>by
   have ih:=mq l m;simp only [fL];cases h:aD a.toNat b.toNat
   · have :a≠b:=fun e=>by subst e; simp at h
     simp [this]
   · have :a=b:=ru.1<|bA h;simp [this,ih]
def kV:List UInt8→List UInt8→Bool
 | _,[]=>false
 | [],_::_=>true
 | a::l,b::m=>cond (az a.toNat b.toNat) true<|cond (aD a.toNat b.toNat) (kV l m) false
theorem x9:∀ l m:List UInt8,kV l m=lb l m
 | [],[]=>rfl
 | _::_,[]=>rfl
 | [],_::_=>rfl
 | a::l,b::m=>by
   have ih:=x9 l m;rw [Gf];simp only [kV];rcases oH a.toNat b.toNat with h | h | h
   · have A:a < b:=Bv.2 h;simp [bQ.2 h,A]
   · have e:a=b:=ru.1 h;subst e;have A:¬a < a:=UInt8.lt_irrefl a;have C:az a.toNat a.toNat=false :=by cases hb:az a.toNat a.toNat; rfl; exact absurd (bQ.1 hb)<|Nat.lt_irrefl _
     simp [C,A,ih]
   · have A:¬a < b:=fun h'=>by have :=Bv.1 h'; omega
     have C:az a.toNat b.toNat=false :=by cases hb:az a.toNat b.toNat; rfl; exact absurd (bQ.1 hb) U
     have E:aD a.toNat b.toNat=false :=by cases hb:aD a.toNat b.toNat; rfl; exact absurd (bA hb) U
     have I:a≠b:=fun e=>by subst e; omega
     simp [C,E,A,I]
end Go.Hb
namespace Go.Hb
def px (op:BinOp) (k:bg) (a b:Int):Option AV:=match op with
 | .add=>dW k<|lG k<|Int.add a b
 | .sub=>dW k<|lG k<|Int.sub a b
 | .mul=>dW k<|lG k<|Int.mul a b
 | .lss=>some<|.bool<|decide (a < b)
 | .leq=>some<|.bool<|decide (a≤b)
 | .gtr=>some<|.bool<|decide (b < a)
 | .geq=>some<|.bool<|decide (b≤a)
 | .eql=>some<|.bool<|decide (a=b)
 | .neq=>some<|.bool<|decide (a≠b)
 | .quo=>match a,b with
   | .ofNat a,.ofNat (b+1)=>dW k<|lG k<|.ofNat<|a / (b+1)
   | _,_=>none
 | .rem=>match a,b with
   | .ofNat a,.ofNat (b+1)=>dW k<|.ofNat<|a % (b+1)
   | _,_=>none
 | .or =>dW k<|k.wrap (fS k.bits a ||| fS k.bits b).toNat
 | .and =>dW k<|k.wrap (fS k.bits a &&& fS k.bits b).toNat
 | _=>none
def tN (op:BinOp) (k:bg) (a:Int) (b:Nat):Option AV:=match op with
 | .shr=>dW k<|a.fdiv<|2 ^ min b k.bits
 | .shl=>dW k<|k.wrap<|a*2 ^ min b k.bits
 | _=>none
def tX (op:BinOp) (l m:List UInt8):Option AV:=match op with
 | .eql=>some<|.bool<|fL l m
 | .neq=>some<|.bool<|!fL l m
 | .lss=>some<|.bool<|kV l m
 | .gtr=>some<|.bool<|!(kV l m || fL l m)
 | .leq=>some<|.bool (kV l m || fL l m)
 | .geq=>some<|.bool<|!kV l m
 | .add=>cond (aX (l.length+m.length) 9223372036854775807) (some<|.str<|l++m) none
 | _=>none
def nE (P:aq) (t:an):Bool:=match P.underlying t with
 | some (.pointer e)=>(P.info? e).isSome
 | _=>false
def im (P:aq) (t:an):Bool:=match P.underlying t with
 | some (.slice _)=>true
 | _=>false
def py (P:aq) (t:an):Bool:=match P.underlying t with
 | some (.func _ _ _)=>true
 | _=>false
def sK (P:aq) (t:an):Bool:=match P.underlying t with
 | some .bool=>true
 | _=>false
def pB (P:aq) (t:an):Bool:=match P.underlying t with
 | some (.interface _)=>true
 | _=>false
def isStr (P:aq) (t:an):Bool:=match P.underlying t with
 | some .string=>true
 | _=>false
def pb (P:aq) (A:Bool) (t:an) (x y:AV):Option Bool:=match x,y with
 | .ptr _ _,.fm=>cond (nE P t) (some false) none
 | .fm,.fm=>cond (nE P t) (some true) none
 | .ptr b o,.ptr b' o'=>cond (nE P t && (aD b b' && aD o o')) (some true) none
 | .sl _ _ _ _ _,.au=>cond (im P t) (some false) none
 | .au,.au=>cond (im P t) (some true) none
 | .fn _ _ _,.gk=>cond (py P t) (some false) none
 | .gk,.gk=>cond (py P t) (some true) none
 | .bool a,.bool b=>cond (sK P t) (some<|a==b) none
 | .ek _ _,.cM=>cond (pB P t) (some false) none
 | .cM,.cM=>cond (pB P t && A) (some true) none
 | _,_=>none
def rJ (P:aq) (A:Bool) (op:BinOp) (t:an) (x y:AV):Option AV:=match x,y with
 | .int k a,.int k' b=>match op with
   | .shl | .shr=>match b with
     | .ofNat b=>tN op k a b
     | _=>none
   | _=>cond (aD (c7 k)<|c7 k') (px op k a b) none
 | .str l,.str m=>tX op l m
 | x,y=>match op with
   | .eql=>match pb P A t x y with
     | some b=>some<|.bool b
     | none=>none
   | .neq=>match pb P A t x y with
     | some b=>some<|.bool<|!b
     | none=>none
   | _=>none
section
variable {P:aq} {r:Rn} {N:Fm} {σ:Nat→ag} {dst:Option Nat} {ty:an} {pos :String} {af:Array bX} {g:Option (Nat×Bool)} {x y z:aT}
def YP (P:aq) (r:Rn) (N:Fm) (σ:Nat→ag) (o:ax) (v:AV):Prop := ∃ u,den r v=some u∧∀ w,(execOp (ev N σ) o).run P w= .ok (.value u) w
theorem D9 {op:BinOp} {k:bg} {a b:Int} {t t':an} {v:AV} (h:px op k a b=some v) (A:ev N σ x= .int k a) (C:ev N σ y= .int k b):YP P r N σ ⟨dst,.binOp op t x y t',ty,pos,af,g⟩ v:=by
 unfold px at h;split at h
 · rw [ez,od] at h; cases h; exact ⟨_,rfl,fun w=>rE _ A C rfl⟩
 · rw [ez,od] at h; cases h; exact ⟨_,rfl,fun w=>tG _ A C rfl⟩
 · rw [ez,od] at h; cases h; exact ⟨_,rfl,fun w=>tc _ A C rfl⟩
 · cases h; exact ⟨_,rfl,fun w=>lt A C⟩
 · cases h; exact ⟨_,rfl,fun w=>le A C⟩
 · cases h; exact ⟨_,rfl,fun w=>gt A C⟩
 · cases h; exact ⟨_,rfl,fun w=>ge A C⟩
 · cases h; exact ⟨_,rfl,fun w=>xc A C⟩
 · cases h; exact ⟨_,rfl,fun w=>yj A C⟩
 · split at h
   · rename_i a b;rw [ez,od] at h; cases h;exact ⟨_,J,fun w=>Fv _ A C ⟨eD _,AX.2<|Bt _⟩ J⟩
   · cases h
 · split at h
   · rename_i a b;rw [ez] at h; cases h;exact ⟨_,J,fun w=>rm A C ⟨eD _,AX.2<|Bt _⟩⟩
   · cases h
 · rw [ez] at h; cases h; exact ⟨_,rfl,fun w=>vz A C rfl⟩
 · rw [ez] at h; cases h; exact ⟨_,rfl,fun w=>cw A C rfl⟩
 · cases h
theorem F7 {op:BinOp} {k E:bg} {a:Int} {b:Nat} {t t':an} {v:AV} (h:tN op k a b=some v) (A:ev N σ x= .int k a) (C:ev N σ y= .int E (jb b)):YP P r N σ ⟨dst,.binOp op t x y t',ty,pos,af,g⟩ v:=by
 unfold tN at h;split at h
 · rw [ez] at h; cases h; exact ⟨_,rfl,fun w=>shr A C (eD _) rfl⟩
 · rw [ez] at h; cases h; exact ⟨_,rfl,fun w=>shl A C (eD _) rfl⟩
 · cases h
theorem GL {op:BinOp} {l m:List UInt8} {t t':an} {v:AV} (h:tX op l m=some v) (A:ev N σ x=str l) (C:ev N σ y=str m):YP P r N σ ⟨dst,.binOp op t x y t',ty,pos,af,g⟩ v:=by
 unfold tX at h;simp only [mq,x9] at h;split at h
 · cases h; exact ⟨_,rfl,fun w=>xe A C⟩
 · cases h; exact ⟨.bool (decide (l≠m)),by simp [den],fun w=>ym A C⟩
 · cases h; exact ⟨_,rfl,fun w=>EM A C⟩
 · cases h; exact ⟨_,rfl,fun w=>DT A C⟩
 · cases h; exact ⟨_,rfl,fun w=>EA A C⟩
 · cases h; exact ⟨_,rfl,fun w=>DP A C⟩
 · cases hb:aX (l.length+m.length) 9223372036854775807
   · rw [hb] at h; cases h
   · rw [hb] at h; cases h; exact ⟨_,rfl,fun w=>cc A C<|bC hb⟩
 · cases h
def cD:aT→Bool
 | .const _=>true
 | _=>false
def ry (P:aq) (t:an) (x y:aT) (u v:ag) (q:Bool):Prop :=
 (∀ w,(binOp .eql t u v).run P w= .ok (.bool q) w)∧(∀ w,(binOp .neq t u v).run P w= .ok (.bool<|!q) w)∧∀ op w,(eqGuard op t x y u v).run P w= .ok () w
theorem ry.of {t:an} {u v:ag} {q:Bool} (h:∀ d w,(eC (d+1) t u v).run P w= .ok q w) (h1:∀ w,(binOp .eql t u v).run P w=((kj t u v).run P w).andThen fun q w=> .ok (.bool q) w)
 (A:∀ w,(binOp .neq t u v).run P w=((kj t u v).run P w).andThen fun q w=> .ok (.bool<|!q) w) (C:∀ op w,(eqGuard op t x y u v).run P w= .ok () w):ry P t x y u v q:=by
 have e:∀ w,(kj t u v).run P w= .ok q w:=h 9999;exact ⟨fun w=>by rw [h1,e]; rfl,fun w=>by rw [A,e]; rfl,C⟩
theorem wX {Z:Bool} {t:an} {a b:AV} {u v:ag} {q:Bool} (ab:Z=true→(cD x || cD y)=true) (h:pb P Z t a b=some q) (hu:den r a=some u) (E:den r b=some v):ry P t x y u v q:=by
 have L:nE P t=true→∃ e i,P.underlying t=some (.pointer e)∧P.info? e=some i:=by
  intro hp;unfold nE at hp;split at hp
  · rename_i e he;obtain ⟨i,hi⟩:=Option.isSome_iff_exists.1 hp;exact ⟨e,i,he,hi⟩
  · cases hp
 have U:im P t=true→∃ e,P.underlying t=some (.slice e):=by
  intro hp; unfold im at hp; split at hp
  · exact ⟨_,by assumption⟩
  · cases hp
 have M:py P t=true→∃ a b c,P.underlying t=some (.func a b c):=by
  intro hp; unfold py at hp; split at hp
  · exact ⟨_,_,_,by assumption⟩
  · cases hp
 have O:pB P t=true→∃ m,P.underlying t=some (.interface m):=by
  intro hp; unfold pB at hp; split at hp
  · exact ⟨_,by assumption⟩
  · cases hp
 have B1:sK P t=true→P.underlying t=some .bool:=by
  intro hp; unfold sK at hp; split at hp
  · assumption
  · cases hp
 have I:∀ {c:Bool} {p:Option Bool} {q:Bool},cond c p none=some q→c=true∧p=some q:=by
  intro c p q h; cases c
  · cases h
  · exact ⟨J,h⟩
 unfold pb at h;split at h
 · obtain ⟨y,V,rfl⟩:=fZ hu;obtain rfl :=mi E;obtain ⟨A,C⟩:=I h;cases C;obtain ⟨e,i,he,hi⟩:=L A;exact .of (fun d w=>r8 d he) (fun w=>by simp [binOp]) (fun w=>by simp [binOp]) fun op w=>by simp [eqGuard]
 · obtain rfl :=mi hu;obtain rfl :=mi E;obtain ⟨A,C⟩:=I h;cases C;obtain ⟨e,i,he,hi⟩:=L A;exact .of (fun d w=>r8 d he) (fun w=>by simp [binOp]) (fun w=>by simp [binOp]) fun op w=>by simp [eqGuard]
 · rename_i b o ae ai;obtain ⟨A,C⟩:=I h;cases C;simp only [aV] at A;obtain ⟨hp,h1,aa⟩:=A;obtain rfl :=bA h1;obtain rfl :=bA aa;rw [hu] at E; cases E;obtain ⟨y,V,rfl⟩:=fZ hu;obtain ⟨e,i,he,hi⟩:=L hp;exact .of (fun d w=>by simp [eC,ba he,sizeOf,cG hi,sameAddr]) (fun w=>by simp [binOp]) (fun w=>by simp [binOp]) fun op w=>by simp [eqGuard]
 · obtain ⟨y,cap,V,_,rfl,_⟩:=ga hu;obtain rfl :=fJ E;obtain ⟨A,C⟩:=I h;cases C;obtain ⟨e,he⟩:=U A;exact .of (fun d w=>r9 d he) (fun w=>by simp [binOp]) (fun w=>by simp [binOp]) fun op w=>by simp [eqGuard]
 · obtain rfl :=fJ hu;obtain rfl :=fJ E;obtain ⟨A,C⟩:=I h;cases C;obtain ⟨e,he⟩:=U A;exact .of (fun d w=>r9 d he) (fun w=>by simp [binOp]) (fun w=>by simp [binOp]) fun op w=>by simp [eqGuard]
 · obtain ⟨ad,c',ha,_,rfl⟩:=jZ hu;obtain rfl :=nq E;obtain ⟨A,C⟩:=I h;cases C;obtain ⟨_,_,_,he⟩:=M A;exact .of (fun d w=>by simp [eC,ba he]) (fun w=>by simp [binOp]) (fun w=>by simp [binOp]) fun op w=>by simp [eqGuard]
 · obtain rfl :=nq hu;obtain rfl :=nq E;obtain ⟨A,C⟩:=I h;cases C;obtain ⟨_,_,_,he⟩:=M A;exact .of (fun d w=>by simp [eC,ba he]) (fun w=>by simp [binOp]) (fun w=>by simp [binOp]) fun op w=>by simp [eqGuard]
 · obtain rfl :=gH hu;obtain rfl :=gH E;obtain ⟨A,C⟩:=I h;cases C;exact .of (fun d w=>wZ d<|B1 A) (fun w=>by simp [binOp]) (fun w=>by simp [binOp]) fun op w=>by simp [eqGuard]
 · obtain ⟨aj,ah,rfl⟩:=o6 hu;obtain rfl :=mh E;obtain ⟨A,C⟩:=I h;cases C;obtain ⟨_,he⟩:=O A;exact .of (fun d w=>by simp [eC,ba he]) (fun w=>by simp [binOp]) (fun w=>by simp [binOp]) fun op w=>by simp [eqGuard]
 · obtain rfl :=mh hu;obtain rfl :=mh E;obtain ⟨A,C⟩:=I h;cases C;simp only [aV] at A;obtain ⟨_,he⟩:=O A.1;have ac:=ab A.2;exact .of (fun d w=>by simp [eC,ba he]) (fun w=>by simp [binOp]) (fun w=>by simp [binOp]) (fun op w=>by
    cases x <;> cases y <;> first | (cases ac; done) | simp [eqGuard])
 · cases h
theorem B8 {V:Bool} {op:BinOp} {t t':an} {a b v:AV} (A:V=true→(cD x || cD y)=true) (h:rJ P V op t a b=some v) (E:den r a=some (ev N σ x)) (I:den r b=some (ev N σ y)):YP P r N σ ⟨dst,.binOp op t x y t',ty,pos,af,g⟩ v:=by
 unfold rJ at h;split at h
 · rename_i k a U b;have h1:=cm E;have O:=cm I;have key:(cond (aD (c7 k)<|c7 U) (px op k a b) none)=some v→YP P r N σ ⟨dst,.binOp op t x y t',ty,pos,af,g⟩ v:=by
    intro C;cases A:aD (c7 k) (c7 U)
    · rw [A] at C; cases C
    · rw [A] at C;obtain rfl :=kQ A;exact D9 C h1 O
   cases op <;> first
    | exact key h
    | (dsimp only at h
       split at h
       · exact F7 h h1 O
       · cases h)
 · exact GL h (fi E)<|fi I
 · split at h
   · split at h
     · rename_i q M;cases h;obtain ⟨h1,_,L⟩:=wX A M E I;exact ⟨_,J,fun w=>by simp [execOp,h1,L]⟩
     · cases h
   · split at h
     · rename_i q M;cases h;obtain ⟨_,h1,L⟩:=wX A M E I;exact ⟨_,J,fun w=>by simp [execOp,h1,L]⟩
     · cases h
   · cases h
end
def tP (e b o n c:Nat) (x:Bool) (i j:Nat):Option AV:=
 cond (aX i j) (cond x (cond (aX j c) (cond (aD c i) (some<|.sl b o (j - i) (c - i) true)<|some<|.sl b (o+i*e) (j - i) (c - i) true) none)
  (cond (aX j n && (aD i 0 || az i n)) (some<|.sl b (o+i*e) (j - i) (c+i) false) none)) none
def mV (P:aq) (t:an) (x:AV) (lo hi:Option Nat):Option AV:=match x with
 | .str l=>cond (isStr P t && (aX (lo.getD 0) (hi.getD l.length) && aX (hi.getD l.length) l.length)) (some<|.str<|(l.take<|hi.getD l.length).drop<|lo.getD 0) none
 | .sl b o n c q=>match cK P t with
   | some e=>tP e b o n c q (lo.getD 0)<|hi.getD n
   | none=>none
 | .au=>match cK P t with
   | some _=>cond (aD (lo.getD 0) 0 && aD (hi.getD 0) 0) (some .au) none
   | none=>none
 | _=>none
def tO (P:aq) (t:an) (lo hi mx:Option aT) (xs:List AV):Option AV:=match lo,hi,mx with
 | none,some _,none=>match xs with
   | [x,.int _ (.ofNat j)]=>mV P t x none<|some j
   | _=>none
 | some _,none,none=>match xs with
   | [x,.int _ (.ofNat i)]=>mV P t x (some i) none
   | _=>none
 | some _,some _,none=>match xs with
   | [x,.int _ (.ofNat i),.int _ (.ofNat j)]=>mV P t x (some i)<|some j
   | _=>none
 | none,some _,some _=>match xs with
   | [.sl b o n c q,.int _ (.ofNat j),.int _ (.ofNat m)]=>match cK P t with
     | some e=>cond (aD j m && aX m n) (some<|.sl b o j j true) none
     | none=>none
   | _=>none
 | some _,some _,some _=>match xs with
   | [.sl b o n c q,.int _ (.ofNat i),.int _ (.ofNat j),.int _ (.ofNat m)]=>match cK P t with
     | some e=>cond (aX i j && (aX j m && aX m n)) (cond (aD m i) (some<|.sl b o (j - i) (m - i) true)<|some<|.sl b (o+i*e) (j - i) (m - i) true) none
     | none=>none
   | _=>none
 | _,_,_=>none
section
variable {P:aq} {r:Rn} {N:Fm} {σ:Nat→ag} {dst:Option Nat} {ty:an} {pos :String} {af:Array bX} {g:Option (Nat×Bool)} {x y z:aT}
theorem aQ {α:Type} {c:Bool} {p:Option α} {q:α} (h:cond c p none=some q):c=true∧p=some q:=by
 cases c
 · cases h
 · exact ⟨J,h⟩
theorem jY {b o n c:Nat} {q:Loc} (A:r b=some q) (h:n≤c):den r (.sl b o n c true)=some (.slice (some ⟨q.ar,q.sh+o,none⟩) n c):=by
 simp only [den,A,cond_true,u0 h]
theorem mg {b o n c:Nat} {q:Loc} (A:r b=some q) (h:c+n≤q.room):den r (.sl b o n c false)=some (.slice (some ⟨q.ar,q.sh+o,none⟩) n<|q.room - c):=by
 simp only [den,A,cond_true,cond_false,u0 h]
theorem tQ {e b o n c i j:Nat} {q:Bool} {v:AV} {u:ag} (h:tP e b o n c q i j=some v) (hu:den r (.sl b o n c q)=some u):
 ∃ a cap,u= .slice a n cap∧n≤cap∧i≤j∧j≤cap∧den r v=some (.slice (dw a cap i e) (j - i)<|cap - i):=by
 unfold tP at h;replace h:=aQ h; obtain ⟨h1,h⟩:=h;have h1:=bC h1;cases q
 · simp only [cond_false] at h;replace h:=aQ h; obtain ⟨A,h⟩:=h;simp only [aV,lJ] at A;obtain ⟨q,C,E,rfl⟩:=o7 hu;have M:=bC A.1;cases h;refine ⟨_,_,J,U,h1,U,?_⟩;have L:dw (some ⟨q.ar,q.sh+o,none⟩) (q.room - c) i e=some ⟨q.ar,q.sh+(o+i*e),none⟩:=by
    unfold dw;rcases A.2 with A | A
    · obtain rfl :=bA A;split
      · simp
      · simp [eH]
    · have :=bQ.1 A;rw [if_neg U];simp [eH,iE]
   rw [L,mg C U,show q.room - (c+i)=q.room - c - i from by omega]
 · simp only [cond_true] at h;replace h:=aQ h; obtain ⟨A,h⟩:=h;have A:=bC A;obtain ⟨q,C,E,rfl⟩:=wx hu;refine ⟨_,_,J,E,h1,A,?_⟩;cases hb:aD c i
   · rw [hb] at h; cases h;have I:c≠i:=fun e=>by subst e; simp at hb
     rw [jY C U];simp only [dw,if_neg I,eu,eH,iE]
   · rw [hb] at h; cases h;obtain rfl :=bA hb;rw [jY C U];simp only [dw,if_true]
theorem j2 {t:an} (h:isStr P t=true):P.underlying t=some .string:=by
 unfold isStr at h; split at h
 · assumption
 · cases h
theorem zk (c i e:Nat):dw none c i e=none:=by unfold dw; split <;> rfl
theorem Ga (a:Option Addr) (c e:Nat):dw a c 0 e=a:=by
 unfold dw; split
 · rfl
 · cases a <;> simp [Addr.add]
theorem Ge {t:an} {lo hi mx:Option aT} {xs:List AV} {v:AV} (h:tO P t lo hi mx xs=some v) (V:aB r xs=some ((x::(lo.toList++(hi.toList++mx.toList))).map<|ev N σ)):
 YP P r N σ ⟨dst,.slice t x lo hi mx,ty,pos,af,g⟩ v:=by
 unfold tO at h;split at h
 · rename_i z;split at h
   · rename_i a k j;obtain ⟨h1,E⟩:=fG (u:=ev N σ x) (v:=ev N σ z) V;have C:=cm E;unfold mV at h;split at h
     · replace h:=aQ h; obtain ⟨A,h⟩:=h;simp only [aV,ng,gC] at A;cases h;refine ⟨_,J,fun w=>(tV (j2 A.1) (fi h1) C ⟨eD _,?_⟩).trans ?_⟩
       · have :=bC A.2.2; simp; omega
       · simp
     · split at h
       · rename_i e he;obtain ⟨a,cap,hu,aa,I,L,M⟩:=tQ h h1;simp only [ng,gC] at I L M;refine ⟨_,M,fun w=>(zo he hu C ⟨eD _,by simp; omega⟩).trans ?_⟩;simp [Ga]
       · cases h
     · split at h
       · rename_i e he;replace h:=aQ h; obtain ⟨A,h⟩:=h;simp only [aV,ng,gC] at A;obtain rfl :=bA A.2;cases h;exact ⟨_,J,fun w=>zo he (fJ h1) C ⟨eD _,by simp⟩⟩
       · cases h
     · cases h
   · cases h
 · rename_i z;split at h
   · rename_i a k j;obtain ⟨h1,E⟩:=fG (u:=ev N σ x) (v:=ev N σ z) V;have C:=cm E;unfold mV at h;split at h
     · replace h:=aQ h; obtain ⟨A,h⟩:=h;simp only [aV,ng,gC] at A;cases h;refine ⟨_,J,fun w=>(Gg (j2 A.1) (fi h1) C ⟨eD _,?_⟩).trans ?_⟩
       · have :=bC A.2.1; simp; omega
       · simp
     · split at h
       · rename_i e he;obtain ⟨a,cap,hu,aa,I,L,M⟩:=tQ h h1;simp only [ng,gC] at I L M;exact ⟨_,M,fun w=>tU he hu C ⟨eD _,by simp; omega⟩⟩
       · cases h
     · split at h
       · rename_i e he;replace h:=aQ h; obtain ⟨A,h⟩:=h;simp only [aV,ng,gC] at A;obtain rfl :=bA A.1;cases h;exact ⟨_,J,fun w=>(tU he (fJ h1) C ⟨eD _,by simp⟩).trans<|by simp [zk]⟩
       · cases h
     · cases h
   · cases h
 · rename_i y z;split at h
   · rename_i a k i ae j;obtain ⟨h1,E,I⟩:=jX (u:=ev N σ x) (v:=ev N σ y) (t:=ev N σ z) V;have O:=cm E;have C:=cm I;unfold mV at h;split at h
     · replace h:=aQ h; obtain ⟨A,h⟩:=h;simp only [aV,gC] at A;cases h;have :=bC A.2.1;have :=bC A.2.2;exact ⟨_,J,fun w=>qs (j2 A.1) (fi h1) O C ⟨eD _,by simp; omega,by simp; omega⟩⟩
     · split at h
       · rename_i e he;obtain ⟨a,cap,hu,aa,L,M,ac⟩:=tQ h h1;simp only [gC] at L M ac;exact ⟨_,ac,fun w=>tS he hu O C ⟨eD _,by simp; omega,by simp; omega⟩⟩
       · cases h
     · split at h
       · rename_i e he;replace h:=aQ h; obtain ⟨A,h⟩:=h;simp only [aV,gC] at A;obtain rfl :=bA A.1;obtain rfl :=bA A.2;cases h;exact ⟨_,J,fun w=>(tS he (fJ h1) O C ⟨eD _,by simp,by simp⟩).trans<|by simp [zk]⟩
       · cases h
     · cases h
   · cases h
 · rename_i y z;split at h
   · rename_i b o n c q k j ae m;obtain ⟨h1,E,I⟩:=jX (u:=ev N σ x) (v:=ev N σ y) (t:=ev N σ z) V;have O:=cm E;have C:=cm I;split at h
     · rename_i e he;replace h:=aQ h; obtain ⟨A,h⟩:=h;simp only [aV] at A;obtain rfl :=bA A.1;have :=bC A.2;cases h;obtain ⟨q,cap,ab,aa,hu,_⟩:=ga h1;exact ⟨_,jY ab (aY _),fun w=>Cy he hu O C U⟩
     · cases h
   · cases h
 · rename_i y z u;split at h
   · rename_i b o n c q k i ae j ak m;obtain ⟨_,_,Z,h1,L⟩:=dh V;obtain ⟨E,I,L⟩:=jX (u:=ev N σ y) (v:=ev N σ z) (t:=ev N σ u)<|by simp at Z; rw [L,← Z.2]
     have O:=cm E;have C:=cm I;have hu:=cm L;simp at Z;rw [← Z.1] at h1;split at h
     · rename_i e he;replace h:=aQ h; obtain ⟨A,h⟩:=h;simp only [aV] at A;have ai:=bC A.1;have aj:=bC A.2.1;have al:=bC A.2.2;obtain ⟨q,cap,ab,aa,ah,_⟩:=ga h1;have ad:=fun w=>Gc (dst:=dst) (ty:=ty) (pos :=pos) (af:=af) (g:=g) (w:=w) he ah O C hu ⟨ai,aj,U⟩;cases hb:aD m i
       · rw [hb] at h; cases h;have ag:m≠i:=fun e=>by subst e; simp at hb
         refine ⟨_,jY ab U,fun w=>(ad w).trans ?_⟩;simp only [dw,if_neg ag,eu,eH,iE]
       · rw [hb] at h; cases h;obtain rfl :=bA hb;refine ⟨_,jY ab U,fun w=>(ad w).trans ?_⟩;simp only [dw,if_true]
     · cases h
   · cases h
 · cases h
end
end Go.Hb
namespace Go.Hb
def ji:AV→List AV
 | .agg l=>l
 | v=> [v]
theorem rQ {r:Rn} {v:AV} {u:ag} (h:den r v=some u):aB r (ji v)=some u.cells.toList:=by
 cases v with
 | agg l=>
   obtain ⟨us,C,rfl⟩:=np h;simpa [ji,Value.cells] using C
 | bool b=>have :=gH h; subst this; exact c9 h<|by simp [aB]
 | int k n=>have :=cm h; subst this; exact c9 h<|by simp [aB]
 | str l=>have :=fi h; subst this; exact c9 h<|by simp [aB]
 | ptr b o=>obtain ⟨q,A,rfl⟩:=fZ h; exact c9 h<|by simp [aB]
 | fm=>have :=mi h; subst this; exact c9 h<|by simp [aB]
 | sl b o n c x=>obtain ⟨q,cap,A,_,rfl,_⟩:=ga h; exact c9 h<|by simp [aB]
 | au=>have :=fJ h; subst this; exact c9 h<|by simp [aB]
 | map b=>obtain ⟨q,A,rfl⟩:=kJ h; exact c9 h<|by simp [aB]
 | iP=>have :=wv h; subst this; exact c9 h<|by simp [aB]
 | fn f a c=>obtain ⟨_,_,_,_,rfl⟩:=jZ h; exact c9 h<|by simp [aB]
 | e9 l=>obtain ⟨q,A,rfl⟩:=r5 h; exact c9 h<|by simp [aB]
 | gk=>have :=nq h; subst this; exact c9 h<|by simp [aB]
 | ek t v=>obtain ⟨_,_,rfl⟩:=o6 h; exact c9 h<|by simp [aB]
 | cM=>have :=mh h; subst this; exact c9 h<|by simp [aB]
 | bG l=>obtain ⟨_,_,rfl⟩:=wy h; exact c9 h<|by simp [aB]
def pN:AV→Bool
 | .agg _ | .bG _=>false
 | _=>true
theorem Ff {r:Rn} {v:AV} {u:ag} (h:den r v=some u) (h1:pN v=true):u.oneCell'=true :=by
 cases v with
 | agg l=>cases h1
 | bool b=>have :=gH h; subst this; rfl
 | int k n=>have :=cm h; subst this; rfl
 | str l=>have :=fi h; subst this; rfl
 | ptr b o=>obtain ⟨q,A,rfl⟩:=fZ h; rfl
 | fm=>have :=mi h; subst this; rfl
 | sl b o n c x=>obtain ⟨q,cap,A,_,rfl,_⟩:=ga h; rfl
 | au=>have :=fJ h; subst this; rfl
 | map b=>obtain ⟨q,A,rfl⟩:=kJ h; rfl
 | iP=>have :=wv h; subst this; rfl
 | fn f a c=>obtain ⟨_,_,_,_,rfl⟩:=jZ h; rfl
 | e9 l=>obtain ⟨q,A,rfl⟩:=r5 h; rfl
 | gk=>have :=nq h; subst this; rfl
 | ek t v=>obtain ⟨_,_,rfl⟩:=o6 h; rfl
 | cM=>have :=mh h; subst this; rfl
 | bG l=>cases h1
def dm:List AV→Bool
 | []=>true
 | v::l=>cond (pN v) (dm l) false
theorem mE {r:Rn} :∀ {l:List AV} {us:List ag},aB r l=some us→dm l=true→∀ u∈us,u.oneCell'=true
 | [],us,h,_,u,hu=>by rw [iI h] at hu; cases hu
 | v::l,us,h,h1,u,hu=>by
   obtain ⟨E,I,rfl,A,C⟩:=dh h;simp only [dm] at h1;cases hv:pN v
   · rw [hv] at h1; cases h1
   · rw [hv] at h1;rcases fU.1 hu with rfl | hu
     · exact Ff A hv
     · exact mE C h1 u hu
def kO (pl:Nat→Option (Nat×Nat)):List AV→List (Nat×AV)→Option (List AV)
 | A,[]=>some A
 | A,(i,v)::ps=>match pl i with
   | some (off,s)=>cond (aD (ji v).length s && aX (off+s) A.length) (kO pl (A.take off++(ji v++A.drop (off+s))) ps) none
   | none=>none
theorem xi:∀ (l:List ag) (m off :Nat) (cs:Array ag),off+m+l.length≤cs.size→
 (l.zipIdx m).foldl (fun (cs:Array ag) (c,j)=>cs.setIfInBounds (off+j) c) cs=(cs.toList.take (off+m)++(l++cs.toList.drop (off+m+l.length))).toArray
 | [],m,off,cs,h=>by simp
 | c::l,m,off,cs,h=>by
   simp only [List.zipIdx_cons,List.foldl_cons,cZ] at h ⊢;rw [xi l (m+1) off _ (by simp; omega)];apply oh.1;have aJ:off+m < cs.toList.length:=by rw [jF]; omega
   simp only [Array.toList_setIfInBounds];rw [show off+(m+1)=off+m+1 from by omega,F2 aJ,F0 U,show off+m+1 +l.length=off+m+(l.length+1) from by omega];simp
theorem sm {r:Rn} {pl:Nat→Option (Nat×Nat)} :∀ {ps:List (Nat×AV)} {E L:List AV} {Z:List ag} {vs:List (Nat×ag)},kO pl E ps=some L→aB r E=some Z→
 vs.map fh=ps.map fh→aB r (ps.map rq)=some (vs.map rq)→∃ C,aB r L=some C∧iZ pl Z.toArray vs=some C.toArray
 | [],E,L,Z,vs,h,hz,h1,A=>by
   simp only [kO,bu] at h;subst h;obtain rfl :vs= []:=by simpa using h1
   exact ⟨Z,hz,J⟩
 | (i,v)::ps,E,L,Z,vs,h,hz,h1,A=>by
   cases vs with
   | nil=>simp at h1
   | cons p vs=>
     obtain ⟨j,u⟩:=p;simp only [fg,jK] at h1;obtain ⟨rfl,h1⟩:=h1;simp only [fg] at A;obtain ⟨ak,al,he,ae,A⟩:=dh A;simp only [jK] at he;obtain ⟨rfl,rfl⟩:=he;simp only [kO] at h;split at h
     · rename_i off s ad;replace h:=aQ h; obtain ⟨I,h⟩:=h;simp only [aV] at I;have U:=bA I.1;have ai:=bC I.2;have M:=rQ ae;have ac:=cE M;have aj:=cE hz;have ah:=ei (gG off hz)<|ei M<|hZ (off+s) hz;obtain ⟨C,V,aa⟩:=sm h ah h1 A;refine ⟨C,V,?_⟩;have O:u.cells.size=s:=by rw [← jF,ac,U]
       simp only [iZ,ad,O];rw [if_neg (by simp; omega),← aa];congr 1;have ab:=xi u.cells.toList 0 off Z.toArray<|by simp; omega
       rw [show u.cells.zipIdx.foldl (fun (cs:Array ag) (c,j)=>cs.setIfInBounds (off+j) c) Z.toArray=((u.cells.toList.zipIdx 0).foldl (fun (cs:Array ag) (c,j)=>cs.setIfInBounds (off+j) c) Z.toArray) from by
        rw [← Ae]; simp [Array.toList_zipIdx],ab]
       simp [O]
     · cases h
def jE:List (Nat×aT)→List AV→List (Nat×AV)
 | p::ps,v::vs=>(p.1,v)::jE ps vs
 | _,_=> []
theorem uz {r:Rn} {f:aT→ag} :∀ {ps:List (Nat×aT)} {xs:List AV},aB r xs=some ((ps.map (·.2)).map f)→
 (ps.map fun p=>(p.1,f p.2)).map fh=(jE ps xs).map fh∧aB r ((jE ps xs).map rq)=some ((ps.map fun p=>(p.1,f p.2)).map rq)
 | [],xs,h=>by
   have :=cE h;obtain rfl :xs= []:=jL<|by simpa using this.symm
   simp [jE,aB]
 | p::ps,[],h=>by have :=cE h; simp at this
 | p::ps,v::xs,h=>by
   simp only [fg] at h;obtain ⟨u,us,he,h1,A⟩:=dh h;simp only [jK] at he;obtain ⟨rfl,rfl⟩:=he;obtain ⟨C,E⟩:=uz (f:=f) A;refine ⟨?_,?_⟩
   · simp only [fg,jE,jK,true_and]; exact C
   · simp only [fg,jE]; exact c9 h1 E
def vL (P:aq) (t u:an) (n:Int):Option AV:=match P.underlying u with
 | some (.int k)=>cond (P.underlying t).isSome (dW k<|lG k n) none
 | _=>none
def rK (P:aq) (b:Builtin) (A:Array an) (xs:List AV):Option AV:=match b with
 | .len=>match xs,A with
   | [.str l],⟨[t]⟩=>cond (isStr P t) (dW .i64 l.length) none
   | [.sl _ _ n _ _],⟨[t]⟩=>cond (im P t) (dW .i64 n) none
   | [.au],⟨[t]⟩=>cond (im P t) (dW .i64 0) none
   | _,_=>none
 | .min =>match xs with
   | [.int k a,.int k' b]=>cond (aD (c7 k)<|c7 k') (dW k<|min a b) none
   | _=>none
 | .max =>match xs with
   | [.int k a,.int k' b]=>cond (aD (c7 k)<|c7 k') (dW k<|max a b) none
   | _=>none
 | _=>none
def vw (P:aq) (t:an):Option (Nat×Nat):=match P.underlying t with
 | some (.array n e)=>match P.info? e with
   | some i=>match cB P e with
     | some none=>some (n,i.size)
     | _=>none
   | none=>none
 | _=>none
def kY (P:aq) (o:Op) (xs:List AV):Option AV:=match o with
 | .move _=>match xs with
   | [x]=>some x
   | _=>none
 | .assign _=>match xs with
   | [x]=>some x
   | _=>none
 | .pick _ _ _=>match xs with
   | [.bool true,a,_]=>some a
   | [.bool false,_,b]=>some b
   | _=>none
 | .nilCheck _=>match xs with
   | [.ptr b o]=>some<|.ptr b o
   | _=>none
 | .extract _ i=>match xs with
   | [.bG l]=>l[i]?
   | _=>none
 | .fieldAddr s _ f=>match xs with
   | [.ptr b o]=>match kN P s f with
     | some n=>some<|.ptr b<|o+n
     | none=>none
   | _=>none
 | .field s _ f=>match xs with
   | [.agg l]=>match si P s f with
     | some n=>l[n]?
     | none=>match sj P s f with
       | some (C,off)=>match cB P C with
         | some (some n)=>some<|.agg<|(l.drop off).take n
         | _=>none
       | none=>none
   | _=>none
 | .indexAddr s _ _=>match xs with
   | [.sl b o n _ _,.int _ (.ofNat i)]=>match cK P s with
     | some e=>cond (az i n) (some<|.ptr b<|o+i*e) none
     | none=>none
   | [.ptr b o,.int _ (.ofNat i)]=>match jh P s with
     | some (n,e)=>cond (az i n) (some<|.ptr b<|o+i*e) none
     | none=>none
   | _=>none
 | .index t _ _=>match xs with
   | [.str l,.int _ (.ofNat i)]=>cond (isStr P t) (match l[i]? with
     | some c=>dW .u8 c.toNat
     | none=>none) none
   | [.agg l,.int _ (.ofNat i)]=>match vw P t with
     | some (n,s)=>cond (az i n) l[i*s]? none
     | none=>none
   | _=>none
 | .binOp op t x y _=>match xs with
   | [a,b]=>rJ P (cD x || cD y) op t a b
   | _=>none
 | .unOp .not _ _=>match xs with
   | [.bool b]=>some<|.bool<|!b
   | _=>none
 | .convert t u _=>match xs with
   | [.int _ n]=>vL P t u n
   | _=>none
 | .slice t _ lo hi mx=>tO P t lo hi mx xs
 | .makeInterface t _=>match xs with
   | [x]=>cond (iN P t) (some<|.ek t x) none
   | _=>none
 | .typeAssert _ _ a true =>match xs with
   | [.cM]=>cond (iN P a) (match zeroV P a with
     | some z=>match gJ 4 z with
       | some z=>some<|.bG [z,.bool false]
       | none=>none
     | none=>none) none
   | [.ek t v]=>cond (iN P a && aD t a) (some<|.bG [v,.bool true]) none
   | _=>none
 | .makeFunc (.func f) ⟨a⟩ _=>some<|.fn f (xs.take a.length)<|xs.drop a.length
 | .build t ⟨ps⟩=>match dO P t with
   | some (pl,A)=>match iQ (gJ 4) A with
     | some A=>match kO (fun i=>pl.toArray[i]?) A (jE ps xs) with
       | some l=>some<|.agg l
       | none=>none
     | none=>none
   | none=>none
 | .call ⟨.builtin b,_,ts⟩=>rK P b ts xs
 | _=>none
section
variable {P:aq} {r:Rn} {N:Fm} {σ:Nat→ag} {dst:Option Nat} {ty:an} {pos :String} {af:Array bX} {g:Option (Nat×Bool)} {x y z:aT}
theorem nF {t:an} (h:im P t=true):∃ e,P.underlying t=some (.slice e):=by
 unfold im at h; split at h
 · exact ⟨_,by assumption⟩
 · cases h
theorem Cb {b:Builtin} {l:List aT} {L:Array an} {xs:List AV} {v:AV} (h:rK P b L xs=some v) (E:aB r xs=some (l.map<|ev N σ)):YP P r N σ ⟨dst,.call ⟨.builtin b,⟨l⟩,L⟩,ty,pos,af,g⟩ v:=by
 unfold rK at h;have one:∀ {a:AV},aB r [a]=some (l.map<|ev N σ)→∃ x,l= [x]∧den r a=some (ev N σ x):=by
  intro a h;have :=cE h;simp at this;obtain ⟨x,rfl⟩:=oC.1 this;exact ⟨x,J,dK h⟩
 have two:∀ {a b:AV},aB r [a,b]=some (l.map<|ev N σ)→∃ x y,l= [x,y]∧den r a=some (ev N σ x)∧den r b=some (ev N σ y):=by
  intro a b h;have :=cE h;simp at this;obtain ⟨x,y,rfl⟩:∃ x y,l= [x,y]:=by
   match l,this with
   | [x,y],_=>exact ⟨x,y,rfl⟩
  exact ⟨x,y,J,fG h⟩
 split at h
 · split at h
   · obtain ⟨x,rfl,C⟩:=one E;replace h:=aQ h; obtain ⟨A,h⟩:=h;rw [ez] at h; cases h;exact ⟨_,J,fun w=>xY (j2 A) J<|fi C⟩
   · obtain ⟨x,rfl,C⟩:=one E;replace h:=aQ h; obtain ⟨A,h⟩:=h;rw [ez] at h; cases h;obtain ⟨e,he⟩:=nF A;obtain ⟨q,cap,O,_,hu,_⟩:=ga C;exact ⟨_,J,fun w=>sT he J hu⟩
   · obtain ⟨x,rfl,C⟩:=one E;replace h:=aQ h; obtain ⟨A,h⟩:=h;rw [ez] at h; cases h;obtain ⟨e,he⟩:=nF A;exact ⟨_,J,fun w=>sT he J<|fJ C⟩
   · cases h
 · split at h
   · rename_i k a M b;obtain ⟨x,y,rfl,C,I⟩:=two E;replace h:=aQ h; obtain ⟨A,h⟩:=h;obtain rfl :=kQ A;rw [ez] at h; cases h;exact ⟨_,J,fun w=>mn (cm C)<|cm I⟩
   · cases h
 · split at h
   · rename_i k a M b;obtain ⟨x,y,rfl,C,I⟩:=two E;replace h:=aQ h; obtain ⟨A,h⟩:=h;obtain rfl :=kQ A;rw [ez] at h; cases h;exact ⟨_,J,fun w=>mx (cm C)<|cm I⟩
   · cases h
 · cases h
theorem B9 {t:an} {parts:Array (Nat×aT)} {pl:List (Nat×Nat)} {C L:List ag} (h:dO P t=some (pl,C)) (A:iZ (pl.toArray[·]?) C.toArray (parts.toList.map fun p=>(p.1,ev N σ p.2))=some L.toArray) (w:ah):
 (execOp (ev N σ) ⟨dst,.build t parts,ty,pos,af,g⟩).run P w= .ok (.value<|.agg L.toArray) w:=by
 unfold dO at h;split at h
 · rename_i it fields hi hu;split at h
   · rename_i z I E hm;simp only [bu,gD] at h;obtain ⟨rfl,rfl⟩:=h;have hb:P.built t (parts.map fun p=>(p.1,ev N σ p.2)).toList=some L.toArray:=by
      simp only [Array.toArray_toList] at A;simp only [Program.built,hi,hu,E,hm,gR]; exact A
     simp [execOp,run_build w t _ _ hb]
   · cases h
 · cases h
theorem yy {o:Op} {xs:List AV} {v:AV} (h:kY P o xs=some v) (A:aB r xs=some ((eR o).map<|ev N σ)):YP P r N σ ⟨dst,o,ty,pos,af,g⟩ v:=by
 unfold kY at h;split at h
 · split at h
   · cases h; exact ⟨_,dK A,fun w=>mv⟩
   · cases h
 · split at h
   · cases h; exact ⟨_,dK A,fun w=>aP⟩
   · cases h
 · split at h
   · cases h;obtain ⟨h1,E,Z⟩:=jX A;exact ⟨_,E,fun w=>nS<|gH h1⟩
   · cases h;obtain ⟨h1,E,Z⟩:=jX A;exact ⟨_,Z,fun w=>pV<|gH h1⟩
   · cases h
 · split at h
   · cases h;have h1:=dK A;obtain ⟨q,O,hu⟩:=fZ h1;exact ⟨_,h1.trans (by rw [hu]),fun w=>nc hu⟩
   · cases h
 · split at h
   · obtain ⟨us,L,hu⟩:=wy<|dK A;obtain ⟨u,U,V⟩:=me L h;exact ⟨u,V,fun w=>xt hu<|by simpa using U⟩
   · cases h
 · split at h
   · split at h
     · rename_i n hn;cases h;obtain ⟨q,O,hu⟩:=fZ<|dK A;exact ⟨_,by simp only [den,O]; rfl,fun w=>(fa hn hu).trans<|by rw [iE]⟩
     · cases h
   · cases h
 · split at h
   · split at h
     · rename_i n hn;obtain ⟨us,L,hu⟩:=np<|dK A;obtain ⟨u,U,V⟩:=me L h;exact ⟨u,V,fun w=>DC hn hu<|by simpa using U⟩
     · split at h
       · rename_i al off ah;split at h
         · rename_i n ha;cases h;obtain ⟨us,L,hu⟩:=np<|dK A;have h1:=gG n<|hZ off L;exact ⟨_,by simp only [den,h1],fun w=>DK ah ha hu J⟩
         · cases h
       · cases h
   · cases h
 · split at h
   · split at h
     · rename_i e he;replace h:=aQ h; obtain ⟨I,h⟩:=h;cases h;obtain ⟨h1,E⟩:=fG A;obtain ⟨q,cap,O,L,hu,_⟩:=ga h1;have :=bQ.1 I;refine ⟨_,by simp only [den,O]; rfl,fun w=>(ia he hu (cm E) ⟨eD _,by simp; omega⟩).trans ?_⟩;simp [iE]
     · cases h
   · split at h
     · rename_i n e he;replace h:=aQ h; obtain ⟨I,h⟩:=h;cases h;obtain ⟨h1,E⟩:=fG A;obtain ⟨q,O,hu⟩:=fZ h1;have :=bQ.1 I;refine ⟨_,by simp only [den,O]; rfl,fun w=>(gf he hu (cm E) ⟨eD _,by simp; omega⟩).trans ?_⟩;simp [iE]
     · cases h
   · cases h
 · split at h
   · rename_i t _ _ l k i;replace h:=aQ h; obtain ⟨I,h⟩:=h;obtain ⟨h1,E⟩:=fG A;split at h
     · rename_i c L;rw [ez] at h; cases h;obtain ⟨aJ,hg⟩:=cJ.1 L;refine ⟨_,J,fun w=>(eL (j2 I) (fi h1) (cm E) aJ).trans ?_⟩;simp [cg,L]
     · cases h
   · rename_i l k i;split at h
     · rename_i n s M;replace h:=aQ h; obtain ⟨I,h⟩:=h;have I:=bQ.1 I;obtain ⟨h1,E⟩:=fG A;obtain ⟨us,L,hu⟩:=np h1;obtain ⟨u,U,V⟩:=me L h;have ak:=cm E;unfold vw at M;split at M
       · rename_i am e hn;split at M
         · rename_i j ai;split at M
           · rename_i ha;cases M;refine ⟨u,V,fun w=> ?_⟩;have hg:us.toArray[i*j.size]? =some u:=by simpa using U
             have h0:(0:Int)≤jb i∧jb i < (n:Int):=⟨eD _,by simp; omega⟩
             simp only [execOp,Instr.index,hu,ak,asIntOf,gx,jH,fT,ba hn,Sem.run_ite,h0,and_self,if_true,sizeOf,cG ai,part,yV ha];simp [hg]
           · cases M
         · cases M
       · cases M
     · cases h
   · cases h
 · split at h
   · obtain ⟨h1,E⟩:=fG A;exact B8 (fun h=>h) h h1 E
   · cases h
 · split at h
   · cases h; exact ⟨_,rfl,fun w=>no<|gH<|dK A⟩
   · cases h
 · split at h
   · unfold vL at h;split at h
     · rename_i k aj;replace h:=aQ h; obtain ⟨I,h⟩:=h;rw [ez,od] at h; cases h;exact ⟨_,J,fun w=>CL aj I (cm<|dK A) J⟩
     · cases h
   · cases h
 · exact Ge h A
 · split at h
   · replace h:=aQ h; obtain ⟨I,h⟩:=h;cases h;have h1:=dK A;exact ⟨_,by simp only [den,h1],fun w=>pJ I J⟩
   · cases h
 · split at h
   · replace h:=aQ h; obtain ⟨I,h⟩:=h;split at h
     · rename_i z aa;split at h
       · rename_i ap ab;cases h;have Z:=j9 (r:=r) 4 ab;exact ⟨_,by simp [den,aB,Z],fun w=>zC I aa<|mh<|dK A⟩
       · cases h
     · cases h
   · replace h:=aQ h; obtain ⟨I,h⟩:=h;simp only [aV] at I;obtain rfl :=bA I.2;cases h;obtain ⟨ao,h1,E⟩:=o6<|dK A;exact ⟨_,by simp [den,aB,h1],fun w=>zB I.1 E⟩
   · cases h
 · rename_i f a c;cases h;simp only [eR,uX] at A;obtain ⟨c⟩:=c;simp only at A;have h1:=gG a.length A;have E:=hZ a.length A;rw [List.take_left' (by simp)] at h1;rw [List.drop_left' (by simp)] at E;exact ⟨_,by simp only [den,h1,E],fun w=>yh⟩
 · rename_i t ps;split at h
   · rename_i pl aq M;split at h
     · rename_i ar aa;split at h
       · rename_i l ae;cases h;have ab:=mD (r:=r) (fun v a=>j9 4) aa;obtain ⟨h1,E⟩:=uz (f:=ev N σ) A;obtain ⟨C,ad,ag⟩:=sm ae ab h1 E;exact ⟨.agg C.toArray,by simp only [den,ad],fun w=>B9 M ag w⟩
       · cases h
     · cases h
   · cases h
 · rename_i b ac an;obtain ⟨ac⟩:=ac;exact Cb h A
 · cases h
end
end Go.Hb
namespace Go.Hb
theorem yc {r s:Rn} (h:r.le s):∀ {l:List (AV×AV)} {es:List MapEntry},eQ r l es→eQ s l es
 | [],[],_=>trivial
 | p::l,m::es,hm=>⟨jl h hm.1,jl h hm.2.1,yc h hm.2.2⟩
 | [],_::_,hm=>hm.elim
 | _::_,[],hm=>hm.elim
theorem OR.le {P:aq} {r s:Rn} (h:r.le s) {q:Loc} {o:AO} {ob:Option Obj} (E:OR P r q o ob):OR P s q o ob:=by
 cases o with
 | cells l e fz ex=>obtain ⟨c,fr,us,h1,A,C⟩:=E; exact ⟨c,fr,us,h1,fH h A,C⟩
 | map l=>obtain ⟨es,c,h1,A,C⟩:=E; exact ⟨es,c,h1,yc h A,C⟩
 | loop st M n fr ps aP body D=>
   obtain ⟨fn,J,L,h1,⟨x,A,C⟩,h4,h5⟩:=E;refine ⟨fn,J,L,h1,⟨x,h _ _ A,C⟩,h4,fun i hi=> ?_⟩;have I:=h5 i hi;have aJ:i < J.size:=U;rw [lH aJ] at I ⊢;exact jl h I
 | jm b=>exact E
 | tY l p=>exact E
structure HR (P:aq) (G:Nat) (r:Rn) (T:Nat) (h:Hp) (w:ah):Prop where
 live:∀ i o,h.t.get i=some o→∃ q,r i=some q∧OR P r q o w.heap[q.ar]?
 inj:∀ i j o o' q q',h.t.get i=some o→h.t.get j=some o'→r i=some q→r j=some q'→q.ar=q'.ar→i=j
 new:∀ i,h.nx≤i→i < T→r i=none
 dT:l4 G r
 base:G≤h.nx
def Fr (G:Nat) (r:Rn) (h:Hp) (k:Nat):Prop := ∃ i o q,G≤i∧h.t.get i=some o∧r i=some q∧q.ar=k
structure St (P:aq) (G T:Nat) (r:Rn) (h:Hp) (w:ah) (r':Rn) (h':Hp) (w':ah):Prop where
 le:r.le r'
 hr:HR P G r' T h' w'
 nx:h.nx≤h'.nx
 md:Md (Fr G r h) w w'
 dk:∀ g,g≤G→∀ k,k < w.heap.size→Fr g r' h' k→Fr g r h k
 out:∀ i,h'.nx≤i→r' i=r i
theorem St.trans {P:aq} {G T:Nat} {r r' I:Rn} {h h' E:Hp} {w w' w'':ah} (a:St P G T r h w r' h' w') (b:St P G T r' h' w' I E w''):St P G T r h w I E w'':=
 ⟨Rn.le_trans a.le b.le,b.hr,cH a.nx b.nx,Md.trans' a.md b.md (fun k A C=>a.dk G (aY _) k A C),fun g hg k A C=>a.dk g hg k A (b.dk g hg k (kq A a.md.size) C),fun i hi=>(b.out i hi).trans<|a.out i<|cH b.nx hi⟩
theorem St.refl {P:aq} {G T:Nat} {r:Rn} {h:Hp} {w:ah} (hr:HR P G r T h w):St P G T r h w r h w:=⟨Rn.le_refl r,hr,aY _,Md.refl _ _,fun _ _ _ _ h=>h,fun _ _=>rfl⟩
theorem St.drew {P:aq} {G T:Nat} {r r':Rn} {h h':Hp} {w w':ah} (a:St P G T r h w.drew r' h' w'):St P G T r h w r' h' w':=⟨a.le,a.hr,a.nx,⟨a.md.os,a.md.output,a.md.size,a.md.ey⟩,a.dk,a.out⟩
section
variable {P:aq} {G:Nat} {r:Rn} {T:Nat} {h:Hp} {w:ah}
theorem HR.drew (hr:HR P G r T h w):HR P G r T h w.drew:=⟨hr.live,hr.inj,hr.new,hr.dT,hr.base⟩
theorem HR.cells (hr:HR P G r T h w) {b:Nat} {l:List AV} {e fz:Nat} {ex:Ck} (hb:h.t.get b=some (.cells l e fz ex)):
 ∃ q us,r b=some q∧aB r l=some us∧(∀ j u,us[j]? =some u→av w.heap q.ar (q.sh+j)=some u)∧∃ c fr,w.heap[q.ar]? =some (.cells c e fr):=by
 obtain ⟨q,I,c,fr,us,h1,A,J,C,_⟩:=hr.live b _ hb;exact ⟨q,us,I,A,fun j u E=>by rw [bT h1]; exact C j u E,c,fr,h1⟩
def YL (P:aq) (r:Rn) (N:Fm) (σ:Nat→ag) (o:ax) (w:ah) (v:AV):Prop := ∃ u,den r v=some u∧(execOp (ev N σ) o).run P w= .ok (.value u) w
end
def lg:List AV→Option (List UInt8)
 | []=>some []
 | .int .u8 (.ofNat n)::l=>match lg l with
   | some m=>cond (az n 256) (some (dP n::m)) none
   | none=>none
 | _=>none
theorem ud {r:Rn} :∀ {l:List AV} {m:List UInt8} {us:List ag},lg l=some m→aB r l=some us→us=U8 m
 | [],m,us,h,hd=>by simp only [lg,bu] at h; subst h; rw [iI hd]; rfl
 | a::l,m,us,h,hd=>by
   unfold lg at h;split at h
   · rename_i h0; cases h0
   · rename_i n E h0;cases h0;split at h
     · rename_i I hm;replace h:=aQ h; obtain ⟨C,h⟩:=h;cases h;obtain ⟨u,J,rfl,h1,A⟩:=dh hd;obtain rfl :=cm h1;obtain rfl :=ud hm A;have :=bQ.1 C;simp only [U8,fg,jK,and_true];congr 1;exact (GW n this).symm
     · cases h
   · cases h
inductive KK | s | i (k:bg) | bs
def kT (P:aq) (k:an) (a:AV):Option KK:=match a with
 | .str _=>cond (isStr P k) (some .s) none
 | .int q _=>match P.underlying k with
   | some (.int _)=>some<|.i q
   | _=>none
 | .agg _=>cond (kD P k) (some .bs) none
 | _=>none
def cX (A:KK) (a:AV):Bool:=match A,a with
 | .s,.str _=>true
 | .i k,.int k' _=>aD (c7 k)<|c7 k'
 | .bs,.agg [.bool _,.str _]=>true
 | _,_=>false
def dV (A:KK):List (AV×AV)→Bool
 | []=>true
 | p::l=>cond (cX A p.1) (dV A l) false
def mA:KK→ag→Prop
 | .s=>Ec
 | .i k=>xH k
 | .bs=>sL
where Ec (v:ag):Prop := ∃ s:List UInt8,v=str s
def eM (a b:AV):Bool:=match a,b with
 | .str l,.str m=>fL l m
 | .int _ a,.int _ b=>decide (a=b)
 | .agg [.bool a,.str l],.agg [.bool b,.str m]=>cond (a==b) (fL l m) false
 | _,_=>false
def j4 (x:AV):List (AV×AV)→Option AV
 | []=>none
 | p::l=>cond (eM p.1 x) (some p.2)<|j4 x l
section
variable {P:aq} {r:Rn}
theorem pC {C:KK} {a:AV} {u:ag} (h:cX C a=true) (A:den r a=some u):mA C u:=by
 unfold cX at h;split at h
 · exact ⟨_,fi A⟩
 · rename_i k O n;obtain rfl :=kQ h;exact ⟨_,cm A⟩
 · obtain ⟨us,h1,rfl⟩:=np A;obtain ⟨U,Z,rfl,E,I⟩:=dh h1;obtain ⟨V,aa,rfl,L,M⟩:=dh I;obtain rfl :=iI M;obtain rfl :=gH E;obtain rfl :=fi L;exact ⟨_,_,J⟩
 · cases h
theorem xQ {a:AV} (h:cX .s a=true):∃ l,a= .str l:=by
 cases a with
 | str l=>exact ⟨l,rfl⟩
 | _=>exact dd (show false =true from h)
theorem xP {k:bg} {a:AV} (h:cX (.i k) a=true):∃ n,a= .int k n:=by
 cases a with
 | int A n=>exact ⟨n,by rw [kQ (show aD (c7 k) (c7 A)=true from h)]⟩
 | _=>exact dd (show false =true from h)
theorem xO {a:AV} (h:cX .bs a=true):∃ f l,a= .agg [.bool f,.str l]:=by
 unfold cX at h;split at h <;> first
  | exact ⟨_,_,rfl⟩
  | contradiction
  | (exfalso; cases h; done)
  | (rename_i A; cases A; done)
  | (rename_i A _; cases A; done)
theorem wu {f:Bool} {l:List UInt8} {u:ag} (h:den r (.agg [.bool f,.str l])=some u):u= .agg #[.bool f,str l]:=by simpa [den,aB] using h.symm
theorem str_inj {l m:List UInt8} (h:str l=str m):l=m:=by unfold str at h; cases h; rfl
theorem jt {E:KK} {a b:AV} {u v:ag} (h1:cX E a=true) (A:cX E b=true) (hu:den r a=some u) (C:den r b=some v):eM a b=true↔u=v:=by
 cases E with
 | s=>
   obtain ⟨l,rfl⟩:=xQ h1;obtain ⟨m,rfl⟩:=xQ A;rw [fi hu,fi C];simp only [eM,mq,decide_eq_true_iff];exact ⟨fun h=>by rw [h],str_inj⟩
 | i k=>
   obtain ⟨l,rfl⟩:=xP h1;obtain ⟨m,rfl⟩:=xP A;rw [cm hu,cm C];simp only [eM,decide_eq_true_iff];exact ⟨fun h=>by rw [h],fun h=>by cases h; rfl⟩
 | bs=>
   obtain ⟨f,l,rfl⟩:=xO h1;obtain ⟨g,m,rfl⟩:=xO A;rw [wu hu,wu C];simp only [eM,mq];cases hab:(f==g)
   · have :f≠g:=by simpa using hab
     exact ⟨fun h=>dd h,fun h=>by simp at h; exact absurd h.1 this⟩
   · obtain rfl :f=g:=by simpa using hab
     simp only [cond_true,decide_eq_true_iff];exact ⟨fun h=>by rw [h],fun h=>by simp at h; exact str_inj h⟩
theorem sN {k:an} {a:AV} {C:KK} (h:kT P k a=some C):l5 P k (mA C):=by
 unfold kT at h;split at h
 · replace h:=aQ h; obtain ⟨A,h⟩:=h;cases h;exact (xM<|j2 A).key
 · split at h
   · cases h; exact (xL<|by assumption).key
   · cases h
 · replace h:=aQ h; obtain ⟨A,h⟩:=h;cases h;exact Ep A
 · cases h
theorem pH {A:KK} :∀ {l:List (AV×AV)} {es:List MapEntry},eQ r l es→dV A l=true→∀ p∈es.map (fun e=>(e.key,e.val)),mA A p.1
 | [],[],_,_,p,hp=>by simp at hp
 | q::l,m::es,hm,hk,p,hp=>by
   simp only [dV] at hk;cases h1:cX A q.1
   · rw [h1] at hk; cases hk
   · rw [h1] at hk;rcases fU.1 hp with rfl | hp
     · exact pC h1 hm.1
     · exact pH hm.2.2 hk p hp
 | [],_::_,hm,_,_,_=>hm.elim
 | _::_,[],hm,_,_,_=>hm.elim
theorem xK {E:KK} {x v:AV} {kx:ag} (C:cX E x=true) (A:den r x=some kx):∀ {l:List (AV×AV)} {es:List MapEntry},eQ r l es→dV E l=true→j4 x l=some v→∃ u,den r v=some u∧(kx,u)∈es.map (fun e=>(e.key,e.val))
 | [],_,_,_,h=>by cases h
 | q::l,[],hm,_,_=>hm.elim
 | q::l,m::es,hm,hk,h=>by
   simp only [dV] at hk;cases h1:cX E q.1
   · rw [h1] at hk; cases hk
   · rw [h1] at hk;simp only [j4] at h;cases he:eM q.1 x
     case true =>
      have he:=(jt h1 C hm.1 A).1 he;rw [(jt h1 C hm.1 A).2 he] at h;cases h;exact ⟨m.val,hm.2.1,by rw [← he]; exact jP⟩
     case false =>
      rw [he] at h;obtain ⟨u,I,J⟩:=xK C A hm.2.2 hk h;exact ⟨u,I,jO _ J⟩
theorem sM {C:KK} {x:AV} {kx:ag} (I:cX C x=true) (E:den r x=some kx):∀ {l:List (AV×AV)} {es:List MapEntry},eQ r l es→dV C l=true→j4 x l=none→∀ v,(kx,v)∉es.map (fun e=>(e.key,e.val))
 | [],[],_,_,_,v=>by simp
 | [],_::_,hm,_,_,_=>hm.elim
 | q::l,[],hm,_,_,_=>hm.elim
 | q::l,m::es,hm,hk,h,v=>by
   simp only [dV] at hk;cases h1:cX C q.1
   · rw [h1] at hk; cases hk
   · rw [h1] at hk;simp only [j4] at h;cases he:eM q.1 x
     case true =>rw [he] at h; cases h
     case false =>
      rw [he] at h;intro J;rcases fU.1 J with A | A
      · cases A; have :=(jt h1 I hm.1 E).2 rfl; rw [he] at this; cases this
      · exact sM I E hm.2.2 hk h v A
end
end Go.Hb
namespace Go.Hb
def vM (P:aq) (t u:an) (x:AV) (h:Hp):Option AV:=match x with
 | .sl _ _ 0 _ _=>match P.underlying t with
   | some (.slice e)=>cond (kE P t e u) (some<|.str []) none
   | _=>none
 | .sl b o n _ _=>match h.t.get b with
   | some (.cells l e _ _)=>cond (kE P t e u && aX (o+n) l.length) (match lg ((l.drop o).take n) with
     | some m=>some<|.str m
     | none=>none) none
   | _=>none
 | .au=>match P.underlying t with
   | some (.slice e)=>cond (kE P t e u) (some<|.str []) none
   | _=>none
 | .ptr b 0=>match h.t.get b with
   | some (.cells l e 0 .x)=>cond (lh P t u e l.length || lh P u t e l.length) (some<|.ptr b 0) none
   | _=>none
 | _=>none
def pD (P:aq) (t:an) (x:AV) (h:Hp):Option AV:=match x with
 | .ptr b o=>match h.t.get b with
   | some (.cells l _ _ _)=>match cB P t with
     | some none=>l[o]?
     | some (some n)=>cond (aX (o+n) l.length) (some<|.agg<|(l.drop o).take n) none
     | none=>none
   | _=>none
 | _=>none
def gL (P:aq) (o:Op) (xs:List AV) (h:Hp):Option AV:=match o with
 | .load t _=>match xs with
   | [x]=>pD P t x h
   | _=>none
 | .lookup t _ _ ok=>match xs with
   | [.map b,k]=>match h.t.get b with
     | some (.map l)=>match P.underlying t with
       | some (.map C e)=>match kT P C k with
         | some A=>cond (cX A k && dV A l) (match j4 k l with
           | some v=>some<|cond ok (.bG [v,.bool true]) v
           | none=>match zeroV P e with
             | some z=>match gJ 4 z with
               | some z=>some<|cond ok (.bG [z,.bool false]) z
               | none=>none
             | none=>none) none
         | none=>none
       | _=>none
     | _=>none
   | _=>none
 | .convert t u _=>match xs with
   | [x]=>vM P t u x h
   | _=>none
 | .slice t _ none none none=>match xs with
   | [.ptr b 0]=>match h.t.get b with
     | some (.cells _ _ _ .x)=>match jh P t with
       | some (n,_)=>some<|.sl b 0 n n true
       | none=>none
     | _=>none
   | _=>none
 | .call ⟨.builtin .len,_,⟨[t]⟩⟩=>match xs with
   | [.map b]=>match h.t.get b with
     | some (.map l)=>match P.underlying t with
       | some (.map _ _)=>dW .i64 l.length
       | _=>none
     | _=>none
   | _=>none
 | _=>none
section
variable {P:aq} {G:Nat} {r:Rn} {T:Nat} {h:Hp} {w:ah} {N:Fm} {σ:Nat→ag} {dst:Option Nat} {ty:an} {pos :String} {af:Array bX} {g:Option (Nat×Bool)} {x y z:aT}
theorem yd:∀ {l:List (AV×AV)} {es:List MapEntry},eQ r l es→es.length=l.length
 | [],[],_=>rfl
 | p::l,m::es,hm=>by simp [yd hm.2.2]
 | [],_::_,hm=>hm.elim
 | _::_,[],hm=>hm.elim
theorem HR.map (hr:HR P G r T h w) {b:Nat} {l:List (AV×AV)} (hb:h.t.get b=some (.map l)):∃ q es c,r b=some q∧w.heap[q.ar]? =some (.map es c)∧eQ r l es.toList∧(es.toList.map fun e=>e.key).Nodup:=by
 obtain ⟨q,E,es,c,h1,A,C⟩:=hr.live b _ hb;exact ⟨q,es,c,E,h1,A,C⟩
theorem xT (hr:HR P G r T h w) {t:an} {a v:AV} {v0:ag} (A:pD P t a h=some v) (O:den r a=some v0):∃ b off u,v0= .pointer (some ⟨b,off,none⟩)∧den r v=some u∧
 ((cB P t=some none∧av w.heap b off =some u)∨∃ (n:Nat) (cs:List ag),cB P t=some (some n)∧u= .agg cs.toArray∧cs.length=n∧∀ j,j < n→av w.heap b (off+j)=cs[j]?):=by
 unfold pD at A;split at A
 · rename_i b o;split at A
   · rename_i l _ _ _ hb;obtain ⟨q,us,Z,C,E,_⟩:=hr.cells hb;obtain ⟨q',I,rfl⟩:=fZ O;rw [Z] at I; cases I;split at A
     · rename_i ha;obtain ⟨u,h1,L⟩:=me C A;exact ⟨_,_,u,J,L,.inl ⟨ha,E _ _ h1⟩⟩
     · rename_i n ha;replace A:=aQ A; obtain ⟨M,A⟩:=A;have hle:=bC M;cases A;have h1:=gG n<|hZ o C;have hlen:=cE C;refine ⟨_,_,.agg ((us.drop o).take n).toArray,J,by simp only [den,h1],.inr ⟨n,_,ha,J,by simp; omega,fun j V=> ?_⟩⟩;rw [gB,if_pos V,gU];have aJ:o+j < us.length:=U;rw [iE,bH aJ];exact E _ _<|bH aJ
     · cases A
   · cases A
 · cases A
theorem yx (hr:HR P G r T h w) {o:Op} {xs:List AV} {v:AV} (A:gL P o xs h=some v) (V:aB r xs=some ((eR o).map<|ev N σ)):YL P r N σ ⟨dst,o,ty,pos,af,g⟩ w v:=by
 unfold gL at A;split at A
 · split at A
   · obtain ⟨b,off,u,O,hu,h1⟩:=xT hr A<|dK V;rcases h1 with ⟨ha,E⟩ | ⟨n,cs,ha,rfl,Z,E⟩
     · exact ⟨u,hu,ld ha O E⟩
     · exact ⟨_,hu,du ha O Z E⟩
   · cases A
 · rename_i t a b ok;split at A
   · rename_i b k;split at A
     · rename_i l hb;obtain ⟨q,es,c,L,hw,hm,hn⟩:=hr.map hb;obtain ⟨h1,M⟩:=fG V;obtain ⟨q',C,hu⟩:=kJ h1;rw [L] at C; cases C;split at A
       · rename_i az e ad;split at A
         · rename_i ay ap;replace A:=aQ A; obtain ⟨E,A⟩:=A;simp only [aV] at E;have ah:=sN ap;have aj:rz w.heap q.ar (es.toList.map fun e=>(e.key,e.val)):=⟨es,c,hw,rfl⟩
           have ai:=pH hm E.2;have hi:=pC E.1 M;split at A
           · rename_i aA hg;cases A;obtain ⟨u,U,aa⟩:=xK E.1 M hm E.2 hg;refine ⟨if ok then .tuple #[u,.bool true] else u,?_,EF ad ah aj ai hu J hi (by rw [Bc]; exact hn) aa⟩;cases ok
             · exact U
             · simp [den,aB,U]
           · rename_i hg;have aa:=sM E.1 M hm E.2 hg;split at A
             · rename_i z aw;split at A
               · rename_i aC ax;cases A;have U:=j9 (r:=r) 4 ax;refine ⟨if ok then .tuple #[z,.bool false] else z,?_,EG ad aw ah aj ai hu J hi aa⟩;cases ok
                 · exact U
                 · simp [den,aB,U]
               · cases A
             · cases A
         · cases A
       · cases A
     · cases A
   · cases A
 · rename_i t u a;split at A
   · rename_i x;have O:=dK V;unfold vM at A;split at A
     · split at A
       · rename_i e he;replace A:=aQ A; obtain ⟨I,A⟩:=A;cases A;obtain ⟨q',cap,C,hn,hu,_⟩:=ga O;exact ⟨_,J,o0 I hu (bo.nil _ _) J⟩
       · cases A
     · rename_i b o n c q _;split at A
       · rename_i l e _ _ hb;obtain ⟨q,us,L,Z,E,_⟩:=hr.cells hb;obtain ⟨q',cap,C,hn,hu,_⟩:=ga O;rw [L] at C; cases C;replace A:=aQ A; obtain ⟨I,A⟩:=A;simp only [aV] at I;have hle:=bC I.2;split at A
         · rename_i m hm;cases A;have h1:=gG n<|hZ o Z;have M:=ud hm h1;have hlen:=cE Z;have aq:m.length=n:=by
            have :=congrArg q9 M;simp [oQ] at this;omega
           refine ⟨_,J,o0 I.1 hu ⟨fun _=>rfl,fun j u ab=> ?_⟩ aq⟩;rw [← M,gB] at ab;split at ab
           · rw [gU] at ab;show av w.heap q.ar (q.sh+o+j)=some u;rw [iE]; exact E _ _ ab
           · cases ab
         · cases A
       · cases A
     · split at A
       · rename_i e he;replace A:=aQ A; obtain ⟨I,A⟩:=A;cases A;exact ⟨_,J,o0 I (fJ O) (bo.nil _ _) J⟩
       · cases A
     · rename_i b;split at A
       · rename_i l e hb;replace A:=aQ A; obtain ⟨I,A⟩:=A;cases A;obtain ⟨q,L,c,fr,us,h1,M,U,aa,al,am,ag,an⟩:=hr.live b _ hb;obtain ⟨ac,ak,rfl⟩:=ag.1 rfl;obtain ⟨q',C,hu⟩:=fZ O;rw [L] at C; cases C;rw [ac] at hu;have ao:c=c.toList.toArray:=by simp
         rw [ao] at h1;refine ⟨_,O.trans (congrArg some hu),?_⟩;rcases Aq.1 I with I | I
         · exact zH I hu h1<|by simpa using ak
         · exact xx I hu h1<|by simpa using ak
       · cases A
     · cases A
   · cases A
 · split at A
   · rename_i b;split at A
     · rename_i hb;split at A
       · rename_i n _ hn;cases A;obtain ⟨q,L,c,fr,us,h1,M,U,aa,al,am,ag,an⟩:=hr.live b _ hb;obtain ⟨ac,_,_⟩:=ag.1 rfl;obtain ⟨q',C,hu⟩:=fZ<|dK V;rw [L] at C; cases C;rw [ac] at hu;exact ⟨_,by rw [jY L (aY _),ac],B3 hn hu⟩
       · cases A
     · cases A
   · cases A
 · rename_i ae t;split at A
   · rename_i b;split at A
     · rename_i l hb;obtain ⟨q,es,c,L,hw,hm,hn⟩:=hr.map hb;split at A
       · rename_i ad;rw [ez] at A; cases A;obtain ⟨ae⟩:=ae;have Z:=cE V;obtain ⟨x,rfl⟩:∃ x,ae= [x]:=oC.1<|by simpa [eR] using Z
         obtain ⟨q',C,hu⟩:=kJ<|dK V;rw [L] at C; cases C;refine ⟨_,J,?_⟩;have :=EH (dst:=dst) (ty:=ty) (pos :=pos) (af:=af) (g:=g) (P:=P) ad rfl hu hw;rw [this];have :=yd hm;rw [jF] at this;rw [this]
       · cases A
     · cases A
   · cases A
 · cases A
end
end Go.Hb
namespace Go.Hb
def Rn.ext (r:Rn) (i:Nat) (q:Loc):Rn:=fun k=>if k=i then some q else r k
theorem Rn.fj (r:Rn) (i:Nat) (q:Loc):r.ext i q i=some q:=if_pos rfl
theorem Rn.ig (r:Rn) {i k:Nat} (q:Loc) (h:k≠i):r.ext i q k=r k:=if_neg h
theorem Rn.nH {r:Rn} {i:Nat} (q:Loc) (h:r i=none):r.le (r.ext i q):=fun k x A=>by
 by_cases e:k=i
 · subst e; rw [h] at A; cases A
 · rw [Rn.ig r q e]; exact A
theorem OR.obj {P:aq} {r:Rn} {q:Loc} {o:AO} {ob:Option Obj} (h:OR P r q o ob):∃ b,ob=some b:=by
 cases o with
 | cells l e fz ex=>obtain ⟨c,fr,us,h1,_⟩:=h; exact ⟨_,h1⟩
 | map l=>obtain ⟨es,c,h1,_⟩:=h; exact ⟨_,h1⟩
 | loop st A n fr ps aP body D=>obtain ⟨_,_,_,h1,_⟩:=h; exact ⟨_,h1⟩
 | jm b=>exact ⟨_,h⟩
 | tY l p=>exact ⟨_,h⟩
section
variable {P:aq} {G:Nat} {r:Rn} {T:Nat} {h:Hp} {w:ah}
theorem l4.le {r s:Rn} (hg:l4 G r) (h:r.le s):l4 G s:=fun g aJ=>let ⟨m,hm⟩:=hg g aJ; ⟨m,h _ _ hm⟩
theorem HR.lt (hr:HR P G r T h w) {i:Nat} {o:AO} {q:Loc} (hi:h.t.get i=some o) (E:r i=some q):q.ar < w.heap.size:=by
 obtain ⟨q',A,C⟩:=hr.live i o hi;rw [E] at A; cases A;obtain ⟨b,hb⟩:=C.obj;exact (ef.1 hb).1
theorem HR.put (hr:HR P G r T h w) {i V:Nat} {o:AO} {q:Loc} {r':Rn} {w':ah} (hle:r.le r') (hi:az i bI=true) (U:r' i=some q) (ac:OR P r' q o w'.heap[q.ar]?)
 (hw:∀ k,k≠q.ar→k < w.heap.size→w'.heap[k]? =w.heap[k]?) (O:∀ j J q',j≠i→h.t.get j=some J→r j=some q'→q'.ar≠q.ar)
 (ab:h.nx≤V) (aa:∀ k,V≤k→k < T→r' k=none):HR P G r' T ⟨h.t.set i o,V⟩ w':=by
 refine ⟨fun j J A=> ?_,fun j k L M ae ag A E h1 I he=> ?_,aa,hr.dT.le hle,cH hr.base ab⟩
 · rw [Tr.jo _ _ _ _ hi] at A;split at A
   · rename_i e; subst e; cases A; exact ⟨q,U,ac⟩
   · rename_i e;obtain ⟨q',h1,C⟩:=hr.live j J A;refine ⟨q',hle _ _ h1,?_⟩;rw [hw _ (O j J q' e A h1) (hr.lt A h1)];exact C.le hle
 · simp only [Tr.jo _ _ _ _ hi] at A E;split at A
   · rename_i e;split at E
     · rename_i e'; rw [e,e']
     · rename_i e';exfalso;subst e;rw [U] at h1; cases h1;obtain ⟨q',C,_⟩:=hr.live k M E;rw [hle _ _ C] at I; cases I;exact O k M _ e' E C he.symm
   · rename_i e;split at E
     · rename_i e';exfalso;subst e';rw [U] at I; cases I;obtain ⟨q',C,_⟩:=hr.live j L A;rw [hle _ _ C] at h1; cases h1;exact O j L _ e A C he
     · obtain ⟨q',C,_⟩:=hr.live j L A;obtain ⟨ad,Z,_⟩:=hr.live k M E;rw [hle _ _ C] at h1; cases h1;rw [hle _ _ Z] at I; cases I;exact hr.inj j k L M _ _ A E C Z he
theorem HR.del (hr:HR P G r T h w) {i:Nat} (hi:az i bI=true):HR P G r T ⟨h.t.del i,h.nx⟩ w:=by
 refine ⟨fun j o A=> ?_,fun j k E I J L A C=> ?_,hr.new,hr.dT,hr.base⟩
 · rw [Tr.mz _ _ _ hi] at A;split at A
   · cases A
   · exact hr.live j o A
 · simp only [Tr.mz _ _ _ hi] at A C;split at A
   · cases A
   · split at C
     · cases C
     · exact hr.inj j k E I J L A C
theorem Fr.set {g:Nat} {r':Rn} {i U:Nat} {o:AO} {q:Loc} (hi:az i bI=true) (O:r' i=some q) (hle:r.le r') (hr:HR P G r T h w) {k:Nat} (M:Fr g r' ⟨h.t.set i o,U⟩ k):k=q.ar∨Fr g r h k:=by
 obtain ⟨j,I,q',L,A,C,rfl⟩:=M;rw [Tr.jo _ _ _ _ hi] at A;split at A
 · rename_i e; subst e; rw [O] at C; cases C; exact .inl rfl
 · obtain ⟨V,E,_⟩:=hr.live j I A;have :=hle _ _ E;rw [C] at this; cases this;exact .inr ⟨j,I,_,L,A,E,J⟩
def YM (P:aq) (G:Nat) (r:Rn) (T:Nat) (N:Fm) (σ:Nat→ag) (o:ax) (h:Hp) (w:ah) (v:AV) (h':Hp):Prop :=
 ∃ r' u w',den r' v=some u∧((execOp (ev N σ) o).run P w= .ok (.value u) w'∨(execOp (ev N σ) o).run P w= .ok .skip w'∧u=undef)∧St P G T r h w r' h' w'
def cx (h:Hp) (o:AO):Option Hp:=cond (az h.nx bI) (some ⟨h.t.set h.nx o,h.nx+1⟩) none
theorem EY (w:ah) (ob:Obj) (F:Nat→Prop):Md F w {w with heap:=w.heap.push ob} :=
 ⟨rfl,rfl,by simp,fun k A _=>by simp only [qN]; rw [if_neg U]⟩
theorem HR.cx (hr:HR P G r T h w) {o:AO} {h':Hp} (hn:cx h o=some h') (hT:h'.nx≤T) (room:Nat) {w':ah} {ob:Obj} (C:w'.heap=w.heap.push ob) (O:w'.os=w.os) (V:w'.output=w.output) (M:∀ r',r.le r'→r' h.nx=some ⟨w.heap.size,0,room⟩→OR P r' ⟨w.heap.size,0,room⟩ o (some ob)):
 ∃ r',r' h.nx=some ⟨w.heap.size,0,room⟩∧St P G T r h w r' h' w':=by
 unfold Hb.cx at hn;replace hn:=aQ hn; obtain ⟨E,hn⟩:=hn;cases hn;simp only at hT;have hle:=Rn.nH (i:=h.nx) ⟨w.heap.size,0,room⟩<|hr.new h.nx (aY _) U;have I:∀ k,k < w.heap.size→w'.heap[k]? =w.heap[k]? :=fun k A=>by rw [C,qN,if_neg U]
 refine ⟨r.ext h.nx ⟨w.heap.size,0,room⟩,Rn.fj _ _ _,hle,hr.put hle E (Rn.fj _ _ _) ?_ (fun k _ aJ=>I k aJ) (fun j ab q' aa hg Z=> ?_) (jQ _) (fun k A L=> ?_),jQ _,⟨O,V,by rw [C]; simp,fun k A _=>I k A⟩,fun g _ k A J=> ?_,fun k A=>Rn.ig _ _<|by simp only at A; omega⟩
 · rw [C]; simp only [qN,if_true]; exact M _ hle<|Rn.fj _ _ _
 · have :=hr.lt hg Z; simp only; omega
 · rw [Rn.ig _ _ U]; exact hr.new k U L
 · rcases Fr.set E (Rn.fj _ _ _) hle hr J with h1 | h1
   · simp only at h1; omega
   · exact h1
theorem tq {r':Rn} {l:List AV} {us:List ag} {e b:Nat} (A:aB r' l=some us) (h1:dm l=true):OR P r' ⟨b,0,0⟩ (.cells l e 0 .x) (some<|.cells us.toArray e (0,0)):=
 ⟨us.toArray,(0,0),us,rfl,A,by simp [cE A],fun j u C=>by simpa using C,aY _,mE A h1,⟨fun _=>⟨rfl,by simp [cE A],rfl⟩,fun _=>rfl⟩,fun s _=>by simp⟩
variable {N:Fm} {σ:Nat→ag} {dst:Option Nat} {ty:an} {pos :String} {af:Array bX} {g:Option (Nat×Bool)} {x y z:aT}
theorem YM.new (hr:HR P G r T h w) {o:ax} {l:List AV} {us:List ag} {e:Nat} {h':Hp} {v:AV} {f:Nat→ag} (hn:Hb.cx h (.cells l e 0 .x)=some h') (hT:h'.nx≤T) (A:aB r l=some us) (h1:dm l=true)
 (I:(execOp (ev N σ) o).run P w= .ok (.value<|f w.heap.size) {w with heap:=w.heap.push<|.cells us.toArray e (0,0)}) (J:∀ r':Rn,r' h.nx=some ⟨w.heap.size,0,0⟩→den r' v=some (f w.heap.size)):YM P G r T N σ o h w v h':=by
 obtain ⟨r',C,E⟩:=hr.cx hn hT 0 (w':= {w with heap:=w.heap.push<|.cells us.toArray e (0,0)}) rfl rfl rfl fun r' hle _=>tq (fH hle A) h1;exact ⟨r',_,_,J r' C,.inl I,E⟩
theorem HR.jw (hr:HR P G r T h w) {i:Nat} {o I:AO} {q:Loc} {w':ah} (hi:h.t.get i=some I) (hb:az i bI=true) (A:r i=some q) (J:G≤i) (O:OR P r q o w'.heap[q.ar]?) (hm:Md (fun k=>k=q.ar) w w'):
 St P G T r h w r ⟨h.t.set i o,h.nx⟩ w':=by
 have E:∀ g,g≤G→Fr g r h q.ar:=fun g hg=>⟨i,I,q,cH hg J,hi,A,rfl⟩
 refine ⟨Rn.le_refl r,hr.put (Rn.le_refl r) hb A O (fun k C aJ=>hm.ey k aJ C) (fun j U V M hg h1 he=>M<|hr.inj j i _ _ _ _ hg hi h1 A he) (aY _) hr.new,aY _,hm.mono fun k _ C=>by rw [C]; exact E G (aY _),fun g hg k _ L=> ?_,fun _ _=>rfl⟩;rcases Fr.set hb A (Rn.le_refl r) hr L with h1 | h1
 · rw [h1]; exact E g hg
 · exact h1
end
end Go.Hb
namespace Go.Hb
def kS (x v:AV):List (AV×AV)→List (AV×AV)
 | []=> [(x,v)]
 | p::l=>cond (eM p.1 x) ((p.1,v)::l) (p::kS x v l)
def xR:KK→Bool
 | .bs=>false
 | _=>true
def mK (P:aq) (t:an) (b:Nat) (k v:AV) (h:Hp):Option Hp:=match h.t.get b with
 | some (.map l)=>match P.underlying t with
   | some (.map C e)=>match kT P C k with
     | some A=>cond (az b bI && (aX h.nx b==false) && (cX A k && dV A l) && (xR A || (j4 k l).isNone)) (some ⟨h.t.set b (.map<|kS k v l),h.nx⟩) none
     | none=>none
   | _=>none
 | _=>none
section
variable {P:aq} {G:Nat} {r:Rn} {T:Nat} {h:Hp} {w:ah}
theorem ye {x v:AV} {kx u:ag} {C:KK} (J:cX C x=true) (A:den r x=some kx) (I:den r v=some u) {m:MapEntry} (sE:m.key=kx) (E:m.val=u):∀ {l:List (AV×AV)} {es:List MapEntry},eQ r l es→dV C l=true→(∀ e∈es,e.key≠kx)→eQ r (kS x v l) (es++ [m])
 | [],[],_,_,_=>⟨by rw [sE]; exact A,by rw [E]; exact I,trivial⟩
 | [],_::_,hm,_,_=>hm.elim
 | _::_,[],hm,_,_=>hm.elim
 | q::l,e::es,hm,hk,hn=>by
   simp only [dV] at hk;cases h1:cX C q.1
   · rw [h1] at hk; cases hk
   · rw [h1] at hk;have he:eM q.1 x=false :=by
      cases hq:eM q.1 x
      · rfl
      · exact absurd ((jt h1 J hm.1 A).1 hq)<|hn e jP
     simp only [kS,he,cond_false];exact ⟨hm.1,hm.2.1,ye J A I sE E hm.2.2 hk fun e he=>hn e<|jO _ he⟩
theorem yf {x v:AV} {kx u:ag} {A:KK} (E:cX A x=true) (C:den r x=some kx) (J:den r v=some u) {f:MapEntry→MapEntry} (I:∀ e,e.key=kx→(f e).key=kx∧(f e).val=u):∀ {l:List (AV×AV)} {es:List MapEntry} {j:Nat} {e':MapEntry},eQ r l es→dV A l=true→
 es[j]? =some e'→e'.key=kx→(es.map fun e=>e.key).Nodup→eQ r (kS x v l) (es.modify j f)
 | [],[],j,e',_,_,hj,_,_=>by simp at hj
 | [],_::_,_,_,hm,_,_,_,_=>hm.elim
 | _::_,[],_,_,hm,_,_,_,_=>hm.elim
 | q::l,e::es,0,e',hm,hk,hj,hk',_=>by
   simp only [dV] at hk;cases h1:cX A q.1
   · rw [h1] at hk; cases hk
   · simp only [gA,bu] at hj;subst hj;simp only [kS,(jt h1 E hm.1 C).2 hk',cond_true];obtain ⟨L,M⟩:=I e hk';exact ⟨by show den r q.1=some (f e).key; rw [hm.1,L,hk'],by show den r v=some (f e).val; rw [M]; exact J,hm.2.2⟩
 | q::l,e::es,j+1,e',hm,hk,hj,hk',hn=>by
   simp only [dV] at hk;cases h1:cX A q.1
   · rw [h1] at hk; cases hk
   · rw [h1] at hk;simp only [gz] at hj;simp only [fg,Bj] at hn;have he:eM q.1 x=false :=by
      cases hq:eM q.1 x
      · rfl
      · have :=(jt h1 E hm.1 C).1 hq;exact absurd (rf.2 ⟨e',lW hj,hk'.trans this.symm⟩) hn.1
     simp only [kS,he,cond_false];exact ⟨hm.1,hm.2.1,yf E C J I hm.2.2 hk hj hk' hn.2⟩
theorem Er {k:an} {a:AV} {A:KK} (h:kT P k a=some A) (E:xR A=true):∀ w v,mA A v→(ot v v).run P w= .ok v w:=by
 unfold kT at h;split at h
 · replace h:=aQ h; obtain ⟨C,h⟩:=h;cases h;exact (xM<|j2 C).stays
 · split at h
   · cases h; exact (xL<|by assumption).stays
   · cases h
 · replace h:=aQ h; obtain ⟨C,h⟩:=h;cases h;cases E
 · cases h
theorem yH (hr:HR P G r T h w) {t:an} {b:Nat} {k v:AV} {h':Hp} {q:Loc} {kx u:ag} (U:G≤b) (hp:mK P t b k v h=some h') (O:r b=some q) (E:den r k=some kx) (ai:den r v=some u):
 ∃ w',(uJ t (.map<|some q.ar) kx u).run P w= .ok () w'∧St P G T r h w r h' w':=by
 unfold mK at hp;split at hp
 · rename_i l hb;split at hp
   · rename_i av e ah;split at hp
     · rename_i ap ac;replace hp:=aQ hp; obtain ⟨aa,hp⟩:=hp;simp only [aV] at aa;obtain ⟨⟨⟨Z,_⟩,hka,hkl⟩,hstay⟩:=aa;cases hp;obtain ⟨q',es,c,ae,hw,hm,hn⟩:=hr.map hb;rw [O] at ae; cases ae;have L:=sN ac;have hi:=pC hka E;have ak:∀ e∈es.toList,mA ap e.key:=pd rfl (pH hm hkl);have aJ:=(ef.1 hw).1;rcases L.find w kx es.toList hi ak with ⟨h1,ad⟩ | ⟨j,e',h1,C,A⟩
       · refine ⟨{w with heap:=w.heap.setIfInBounds q.ar<|.map (es.push {key:=kx,val:=u,born:=c})<|c+1},by simp [uJ,ba ah,run_getObj_map hw,L.check _ w kx hi,h1,setObj,jG,hw],?_⟩;refine hr.jw hb Z O U ?_ ⟨J,J,by simp,fun i _ M=>by simp only; rw [uC (fun e=>M e.symm)]⟩;refine ⟨_,_,by simp only; rw [uD aJ],?_,?_⟩
         · simp only [Am];exact ye hka E ai J J hm hkl ad
         · simp only [Am,uX,fg,List.map_nil];rw [List.nodup_append];refine ⟨hn,by simp,?_⟩;intro a ha aq V aj;simp at V;subst aj V;obtain ⟨p,hp,ao⟩:=rf.1 ha;exact ad p hp ao
       · have am:(ot kx kx).run P w= .ok kx w:=by
          rcases Aq.1 hstay with I | I
          · exact Er ac I w kx hi
          · exfalso;cases hg:j4 k l with
            | none=>exact sM hka E hm hkl hg e'.val<|by rw [← A]; exact rf.2 ⟨e',lW C,rfl⟩
            | some v=>rw [hg] at I; cases I
         have al:es[j]? =some e':=by simpa using C
         refine ⟨{w with heap:=w.heap.setIfInBounds q.ar<|.map (es.modify j fun e=> {e with key:=kx,val:=u}) c},?_,?_⟩
         · simp [uJ,ba ah,run_getObj_map hw,L.check _ w kx hi,h1,al,A,am,setObj,jG,hw]
         · refine hr.jw hb Z O U ?_ ⟨J,J,by simp,fun i _ M=>by simp only; rw [uC (fun e=>M e.symm)]⟩;refine ⟨_,_,by simp only; rw [uD aJ],?_,?_⟩
           · rw [Al];exact yf hka E ai (fun e _=>⟨J,J⟩) hm hkl C A hn
           · rw [Al];have :(es.toList.modify j fun e=> {e with key:=kx,val:=u}).map (fun e=>e.key)=es.toList.map fun e=>e.key:=by
              apply q6;intro i;simp only [jM,List.getElem?_modify];by_cases ab:j=i
              · subst ab; rw [C]; simp [A]
              · simp [ab]
             rw [this]; exact hn
     · cases hp
   · cases hp
 · cases hp
end
def iU (A:List AV):Nat→List AV
 | 0=> []
 | n+1=>A++iU A n
def n6 (P:aq) (G:Nat) (t:an) (b o:Nat) (v:AV) (h:Hp):Option Hp:=match h.t.get b with
 | some (.cells l e fz ex)=>match bU P t with
   | some n=>cond ((aD (ji v).length n && aX (o+n) l.length) && (aX fz o && (dm (ji v) && (aX G b && az b bI)))) (some ⟨h.t.set b (.cells (l.take o++(ji v++l.drop (o+n))) e fz ex),h.nx⟩) none
   | none=>none
 | _=>none
def mW (P:aq) (t:an):Option (Nat×Nat×Nat×List AV):=match P.underlying t with
 | some (.slice e)=>match P.info? e with
   | some i=>match i.zero with
     | some z=>match iQ (gJ 4) z.cells.toList with
       | some A=>cond (aD A.length i.size && (az 0 i.size && dm A)) (some (e,i.size,i.bytes,A)) none
       | none=>none
     | none=>none
   | none=>none
 | _=>none
def mH (P:aq) (G:Nat) (o:Op) (xs:List AV) (h:Hp):Option (AV×Hp):=match o with
 | .alloc e=>match zeroOf P e with
   | some (some A)=>match iQ (gJ 4) A with
     | some l=>cond (dm l) (match cx h (.cells l e 0 .x) with
       | some h'=>some (.ptr h.nx 0,h')
       | none=>none) none
     | none=>none
   | _=>none
 | .box e _=>match xs with
   | [x]=>cond (dm<|ji x) (match cx h (.cells (ji x) e 0 .x) with
     | some h'=>some (.ptr h.nx 0,h')
     | none=>none) none
   | _=>none
 | .makeMap _ none=>match cx h (.map []) with
   | some h'=>some (.map h.nx,h')
   | none=>none
 | .buildSlice t n ⟨ps⟩=>match mW P t with
   | some (e,s,_,A)=>cond (aX (n*s) 16777216) (match kO (fun i=>some (i*s,s)) (iU A n) (jE ps xs) with
     | some l=>cond (dm l) (match cx h (.cells l e 0 .x) with
       | some h'=>some (.sl h.nx 0 n n true,h')
       | none=>none) none
     | none=>none) none
   | none=>none
 | .makeSlice t _ _=>match xs with
   | [.int .i64 (.ofNat n),.int .i64 (.ofNat c)]=>match mW P t with
     | some (e,s,by_,A)=>cond (aX n c && (aX (by_*c) 281474976710656 && az c 9223372036854775808)) (match cx h (.cells (iU A c) e 0 .x) with
       | some h'=>some (.sl h.nx 0 n c true,h')
       | none=>none) none
     | none=>none
   | _=>none
 | .store t _ _=>match xs with
   | [.ptr b o,v]=>match n6 P G t b o v h with
     | some h'=>some (.bG [],h')
     | none=>none
   | _=>none
 | .mapUpdate t _ _ _=>match xs with
   | [.map b,k,v]=>cond (aX G b) (match mK P t b k v h with
     | some h'=>some (.bG [],h')
     | none=>none) none
   | _=>none
 | .insert t _ _ _=>match xs with
   | [.map b,k,v]=>cond (aX G b) (match mK P t b k v h with
     | some h'=>some (.bG [],h')
     | none=>none) none
   | _=>none
 | _=>none
section
variable {P:aq} {G:Nat} {r:Rn} {T:Nat} {h:Hp} {w:ah} {N:Fm} {σ:Nat→ag} {dst:Option Nat} {ty:an} {pos :String} {af:Array bX} {g:Option (Nat×Bool)} {x y z:aT}
theorem fY (r:Rn):den r (.bG [])=some undef:=by simp [den,aB]; rfl
theorem pX {r:Rn} {A:List AV} {Z:List ag} (h:aB r A=some Z):∀ n,aB r (iU A n)=some ((dq n Z).flatten)
 | 0=>by simp [iU,aB]
 | n+1=>by simp only [iU,Bm,A7]; exact ei h<|pX h n
theorem yv:∀ {l m:List AV},dm l=true→dm m=true→dm (l++m)=true
 | [],m,_,h=>h
 | a::l,m,h,h'=>by
   simp only [dm,List.cons_append] at h ⊢;cases ha:pN a
   · rw [ha] at h; cases h
   · rw [ha] at h; exact yv h h'
theorem tA {A:List AV} (h:dm A=true):∀ n,dm (iU A n)=true
 | 0=>rfl
 | n+1=>yv h<|tA h n
theorem tv (Z:Array ag) (A:0 < Z.size):∀ n,(m7<|n*Z.size).map (Z[· % Z.size]!)=((dq n Z.toList).flatten).toArray:=by
 intro n;apply oh.1;simp only [gR,Array.toList_range]
 induction n with
 | zero=>simp
 | succ n ih=>
   rw [Nat.succ_mul,rj,List.range_add,uX,Bm,A7,Bc];congr 1
   · apply q6;intro i;simp only [jM];by_cases hi:i < Z.size
     · rw [List.getElem?_range hi,eu,Nat.mod_eq_of_lt hi];rw [getElem!_pos Z i hi];simp [hi]
     · rw [km (by simp; omega),km (by simp; omega)]; rfl
   · rw [← ih];apply List.map_congr_left;intro i _;simp
theorem qq {r:Rn} {t e s E:Nat} {C:List AV} (h:mW P t=some (e,s,E,C)):∃ i z,P.underlying t=some (.slice e)∧P.info? e=some i∧i.zero=some z∧i.size=s∧i.bytes=E∧z.cells.size=s∧0 < s∧aB r C=some z.cells.toList∧dm C=true∧C.length=s:=by
 unfold mW at h;split at h
 · rename_i e' hu;split at h
   · rename_i i hi;split at h
     · rename_i z M;split at h
       · rename_i U O;replace h:=aQ h; obtain ⟨A,h⟩:=h;simp only [aV] at A;cases h;have I:=mD (r:=r) (fun v a=>j9 4) O;have L:=bA A.1;have :=cE I;exact ⟨i,z,hu,hi,M,J,J,by rw [← jF]; omega,bQ.1 A.2.1,I,A.2.2,L⟩
       · cases h
     · cases h
   · cases h
 · cases h
theorem Gw (hr:HR P G r T h w) {t b o:Nat} {v:AV} {h':Hp} {u:ag} (A:n6 P G t b o v h=some h') (aw:den r v=some u) (ax:den r (.ptr b o)=some (ev N σ x)) (ay:ev N σ y=u):YM P G r T N σ ⟨dst,.store t x y,ty,pos,af,g⟩ h w (.bG []) h':=by
 unfold n6 at A;split at A
 · rename_i l e fz ex hb;split at A
   · rename_i n hn;replace A:=aQ A; obtain ⟨ad,A⟩:=A;simp only [aV] at ad;obtain ⟨⟨c1,c2⟩,c3,c4,I,c6⟩:=ad;have c1:=bA c1;have c2:=bC c2;have c3:=bC c3;have I:=bC I;cases A;obtain ⟨q,ah,c,fr,us,h1,M,aA,aa,am,ab,ac,an⟩:=hr.live b _ hb;obtain ⟨q',ai,hu⟩:=fZ ax;rw [ah] at ai; cases ai;have V:=rQ aw;have aq:=cE V;have aC:=cE M;have ae:=mE V c4;have hlen:u.cells.toList.length=n:=by rw [aq,c1]
     have a9:=run_storeCells_atF P q.ar (q.sh+o) e fr u.cells.toList 0 c w h1 U U ae;unfold bU at hn;simp only [fA] at hn;obtain ⟨i,hi,A⟩:=hn;have av:u.cells.size=n:=by rw [← jF,hlen]
     obtain ⟨L,O⟩:∃ L,c.toList.take (q.sh+o+0)++u.cells.toList++c.toList.drop (q.sh+o+0 +u.cells.toList.length)=L:=⟨_,rfl⟩
     rw [O] at a9;have aB:L.length=c.size:=by rw [← O]; simp; omega
     have ao:∀ k,L[k]? =if k < q.sh+o then c[k]? else if k < q.sh+o+n then u.cells.toList[k - (q.sh+o)]? else c[k]? :=by
      intro k;rw [← O,iF];by_cases E:k < q.sh+o
      · rw [if_pos E,A1,eh (by simp; omega),gB,if_pos E]; simp
      · rw [if_neg E];by_cases Z:k < q.sh+o+n
        · rw [if_pos Z,eh (by simp; omega),et (by simp; omega)];congr 1; simp; omega
        · rw [if_neg Z,et (by simp; omega),gU];simp only [cj,cO,jF,m6];congr 1; omega
     refine ⟨r,undef,w.setRow q.ar L.toArray,fY r,.inr ⟨?_,J⟩,?_⟩
     · simp [execOp,Instr.storeAt,hu,ay,Instr.sureAddr,storeVar,sizeOf,cG hi,A,av,a9]
     · refine hr.jw hb c6 ah I ?_ ⟨J,J,by simp,fun k _ ap=>setRow_other w q.ar k _ ap⟩;rw [setRow_heap w q.ar _ _ e _ h1];refine ⟨L.toArray,fr,us.take o++(u.cells.toList++us.drop (o+n)),J,ei (gG o M) (ei V<|hZ (o+n) M),?_,fun j a C=> ?_,am,?_,⟨fun hex=> ?_,ac.2⟩,fun s A=> ?_⟩
       · simp only [cj,cO,gV,dG]; omega
       · rw [jN,ao];by_cases E:j < o
         · rw [eh (by simp; omega),gB,if_pos E] at C;rw [if_pos U]; exact aa _ _ C
         · rw [et (by simp; omega)] at C;rw [if_neg U];have aj:(us.take o).length=o:=by simp; omega
           rw [aj] at C;by_cases Z:j < o+n
           · rw [eh U] at C;rw [if_pos U,show q.sh+j - (q.sh+o)=j - o from by omega]; exact C
           · rw [et U,gU,hlen] at C;rw [if_neg U];refine aa j a ?_;rw [← C]; congr 1; omega
       · intro a ha;rcases lV.1 ha with ha | ha
         · exact ab a<|ri ha
         · rcases lV.1 ha with ha | ha
           · exact ae a ha
           · exact ab a<|rh ha
       · obtain ⟨ak,az,al⟩:=ac.1 hex;refine ⟨ak,?_,al⟩;simp only [cj,cO,gV,dG]; omega
       · have :=an s A;simp only [dG]; omega
   · cases A
 · cases A
end
end Go.Hb
namespace Go.Hb
section
variable {P:aq} {G:Nat} {r:Rn} {T:Nat} {h:Hp} {w:ah} {N:Fm} {σ:Nat→ag} {dst:Option Nat} {ty:an} {pos :String} {af:Array bX} {g:Option (Nat×Bool)} {x y z:aT}
theorem wo {r':Rn} {i b room n c:Nat} (hi:r' i=some ⟨b,0,room⟩) (hn:n≤c):den r' (.sl i 0 n c true)=some (.slice (some ⟨b,0,none⟩) n c):=by
 rw [jY hi hn]
theorem DG {t e s n:Nat} {A L:List AV} {Z:ag} {ps:List (Nat×aT)} {xs:List AV} (ab:0 < s) (aa:Z.cells.size=s) (V:aB r A=some Z.cells.toList) (M:kO (fun i=>some (i*s,s)) (iU A n) (jE ps xs)=some L) (J:aB r xs=some ((ps.map (·.2)).map<|ev N σ)):
 ∃ C,aB r L=some C∧iZ (fun i=>some (i*s,s)) ((m7<|n*s).map (Z.cells[· % Z.cells.size]!)) (ps.map fun p=>(p.1,ev N σ p.2))=some C.toArray:=by
 obtain ⟨h1,E⟩:=uz (f:=ev N σ) J;obtain ⟨C,I,O⟩:=sm M (pX V n) h1 E;refine ⟨C,I,?_⟩;rw [← O];congr 1;have :=tv Z.cells U n;rw [aa] at this ⊢;exact this
theorem Fi (hr:HR P G r T h w) {o:Op} {xs:List AV} {v:AV} {h':Hp} (A:mH P G o xs h=some (v,h')) (hT:h'.nx≤T) (V:aB r xs=some ((eR o).map<|ev N σ)):YM P G r T N σ ⟨dst,o,ty,pos,af,g⟩ h w v h':=by
 unfold mH at A;split at A
 · rename_i e;split at A
   · rename_i an O;split at A
     · rename_i l aw;replace A:=aQ A; obtain ⟨E,A⟩:=A;split at A
       · rename_i L hn;cases A;have ar:=mD (r:=r) (fun v a=>j9 4) aw;unfold zeroOf at O;simp only [fA] at O;obtain ⟨i,hi,zv,aE,rfl⟩:=O;refine YM.new hr (f:=fun b=> .pointer<|some ⟨b,0,none⟩) hn hT ar E ?_ fun r' I=>by simp only [den,I]
         simp [execOp,qS,zeroValue,cG hi,aE,newVar,newRow]
       · cases A
     · cases A
   · cases A
 · rename_i e _;split at A
   · rename_i x;replace A:=aQ A; obtain ⟨E,A⟩:=A;split at A
     · rename_i L hn;cases A;have h1:=dK V;refine YM.new hr (f:=fun b=> .pointer<|some ⟨b,0,none⟩) hn hT (rQ h1) E ?_ fun r' I=>by simp only [den,I]
       simp [execOp,Instr.box,newVar,newRow]
     · cases A
   · cases A
 · split at A
   · rename_i L hn;cases A;obtain ⟨r',ay,I⟩:=hr.cx hn hT 0 (w':= {w with heap:=w.heap.push<|.map #[] 0}) rfl rfl rfl fun r' hle _=>⟨#[],0,rfl,trivial,by simp⟩
     refine ⟨r',.map (some w.heap.size),_,by simp only [den,ay],.inl ?_,I⟩;simp [execOp,Instr.makeMap]
   · cases A
 · rename_i t n ps;split at A
   · rename_i e s ao an O;replace A:=aQ A; obtain ⟨E,A⟩:=A;have E:=bC E;split at A
     · rename_i l av;replace A:=aQ A; obtain ⟨h1,A⟩:=A;split at A
       · rename_i L hn;cases A;obtain ⟨i,zv,hu,hi,ae,rfl,rfl,Z,ak,ah,am,aD⟩:=qq (r:=r) O;obtain ⟨C,aq,ab⟩:=DG (N:=N) (σ:=σ) (t:=t) (e:=e) ak Z ah av V;refine YM.new hr (f:=fun b=> .slice (some ⟨b,0,none⟩) n n) hn hT aq h1 ?_ fun r' I=>wo I<|aY _;have aF:(ps.toArray.map fun p=>(p.1,ev N σ p.2)).toList=ps.map fun p=>(p.1,ev N σ p.2):=by simp
         by_cases aj:n*i.size=0
         · have ax:n=0:=by rcases Nat.mul_eq_zero.1 aj with h | h; exact h; omega
           subst ax;have ai:∀ f:Nat→ag,Array.map f (m7 0)= #[]:=fun f=>Array.eq_empty_of_size_eq_zero<|by simp
           rw [rn,ai] at ab;simp [execOp,qT,ba hu,sizeOf,cG hi,ai,ab,newRow]
         · simp only [execOp,qT,gx,ba hu,fT,sizeOf,cG hi,jH,Sem.run_ite,zeroValue,ae,gR,ab];rw [if_neg (by rw [show (2:Nat) ^ 24=16777216 from rfl]; omega),if_neg aj];simp [newRow]
       · cases A
     · cases A
   · cases A
 · rename_i t _ _;split at A
   · rename_i n c;split at A
     · rename_i e s ao an O;replace A:=aQ A; obtain ⟨E,A⟩:=A;simp only [aV] at E;have c1:=bC E.1;have c2:=bC E.2.1;have c3:=bQ.1 E.2.2;split at A
       · rename_i L hn;cases A;obtain ⟨i,zv,hu,hi,ae,rfl,rfl,Z,ak,ah,am,aD⟩:=qq (r:=r) O;have al:=run_make (P:=P) w t e i zv hu hi ae .i64 .i64 n c U U (by rw [← Int.natCast_mul]; omega) U;have ap:madeCells zv.cells (c*i.size)=((dq c zv.cells.toList).flatten).toArray:=by
          have :=tv zv.cells U c;rw [Z] at this;rw [← this]; unfold madeCells; rw [Z]
         rw [jJ,jJ,ap] at al;refine YM.new hr (f:=fun b=> .slice (some ⟨b,0,none⟩) n c) hn hT (pX ah c) (tA am c) ?_ fun r' I=>wo I c1;obtain ⟨h1,M⟩:=fG V;have aA:=cm h1;have aC:=cm M;simp [execOp,aA,aC,al]
       · cases A
     · cases A
   · cases A
 · split at A
   · split at A
     · rename_i L az;cases A;obtain ⟨h1,M⟩:=fG V;exact Gw hr az M h1 J
     · cases A
   · cases A
 · split at A
   · replace A:=aQ A; obtain ⟨E,A⟩:=A;split at A
     · rename_i L hp;cases A;obtain ⟨h1,M,aa⟩:=jX V;obtain ⟨q,ac,hu⟩:=kJ h1;obtain ⟨w',ad,I⟩:=yH hr (bC E) hp ac M aa;exact ⟨r,undef,w',fY r,.inr ⟨by simp [execOp,hu,ad],J⟩,I⟩
     · cases A
   · cases A
 · split at A
   · replace A:=aQ A; obtain ⟨E,A⟩:=A;split at A
     · rename_i L hp;cases A;obtain ⟨h1,M,aa⟩:=jX V;obtain ⟨q,ac,hu⟩:=kJ h1;obtain ⟨w',ad,I⟩:=yH hr (bC E) hp ac M aa;exact ⟨r,undef,w',fY r,.inr ⟨by simp [execOp,hu,ad],J⟩,I⟩
     · cases A
   · cases A
 · cases A
end
end Go.Hb
namespace Go.Hb
def qD:List UInt8→List AV
 | []=> []
 | c::l=> .int .u8 (jb c.toNat)::qD l
def nn (o:Nat):Ck→Ck
 | .a=> .a
 | _=>match o with
   | 0=> .z
   | _=> .a
theorem vJ {o:Nat} {e:Ck} :nn o e≠.x:=by
 cases e <;> simp only [nn] <;> first | (intro h; cases h; done) | (split <;> intro h <;> cases h)
theorem Cw {o:Nat} {e:Ck} (h:nn o e≠.a):e≠.a∧o=0:=by
 cases e with
 | a=>exact absurd rfl h
 | _=>
   refine ⟨fun h=>(by cases h),?_⟩;simp only [nn] at h;split at h
   · rfl
   · exact absurd J h
def tW (P:aq) (s:Nat) (A:an) (x:AV) (h:Hp):Option (Nat×List AV):=match x with
 | .sl b o n _ _=>match h.t.get b with
   | some (.cells l _ _ _)=>cond (im P A && aX (o+n*s) l.length) (some (n,(l.drop o).take (n*s))) none
   | _=>none
 | .au=>cond (im P A) (some (0,[])) none
 | .str l=>cond (isStr P A && aD s 1) (some (l.length,qD l)) none
 | _=>none
def rI (P:aq) (G:Nat) (t C:an) (A E:AV) (h:Hp):Option (AV×Hp):=match mW P t with
 | some (e,s,by_,_)=>match tW P s C E h with
   | some (m,news)=>cond (dm news) (match A with
     | .au=>match m with
       | 0=>some (.au,h)
       | _=>cond (aX (m*by_) 140737488355328 && aX m 1000000000) (match cx h (.cells news e 0 .z) with
         | some h'=>some (.sl h.nx 0 m 0 false,h')
         | none=>none) none
     | .sl b o n c x=>match m with
       | 0=>some (.sl b o n c x,h)
       | _=>match h.t.get b with
         | some (.cells l e' fz ex)=>cond ((aD e e' && (aX ((n+m)*by_) 140737488355328 && aX (n+m) 1000000000)) && (aX (o+n*s) l.length && (aX G b && az b bI)))
           (cond x (cond (aX (n+m) c)
            (cond (aX (o+(n+m)*s) l.length && aX fz (o+n*s)) (some (.sl b o (n+m) c true,⟨h.t.set b (.cells (l.take (o+n*s)++(news++l.drop (o+(n+m)*s))) e fz ex),h.nx⟩)) none)
            (match cx h (.cells ((l.drop o).take (n*s)++news) e 0 .z) with
             | some h'=>some (.sl h.nx 0 (n+m) 0 false,h')
             | none=>none))
            (cond (aD o (c*s) && aX fz (o+n*s)) (match cx ⟨h.t.del b,h.nx⟩ (.cells ((l.drop o).take (n*s)++news) e (fz - o)<|nn o ex) with
             | some h'=>some (.sl h.nx 0 (n+m) 0 false,h')
             | none=>none) none)) none
         | _=>none
     | _=>none) none
   | none=>none
 | none=>none
section
variable {P:aq} {G:Nat} {r:Rn} {T:Nat} {h:Hp} {w:ah} {N:Fm} {σ:Nat→ag} {dst:Option Nat} {ty:an} {pos :String} {af:Array bX} {g:Option (Nat×Bool)} {x y z:aT}
theorem zM:∀ l:List UInt8,aB r (qD l)=some (U8 l)
 | []=>by simp [qD,aB,U8]
 | c::l=>c9 rfl (zM l)
theorem Gj (hr:HR P G r T h w) {s m:Nat} {M:an} {x:AV} {news:List AV} {u:ag} (he:tW P s M x h=some (m,news)) (h1:dm news=true) (hu:den r x=some u):∃ N,aB r news=some N∧Src P s M u m N w:=by
 unfold tW at he;split at he
 · rename_i b o n V Z;split at he
   · rename_i l _ _ _ hb;replace he:=aQ he; obtain ⟨A,he⟩:=he;simp only [aV] at A;cases he;obtain ⟨q,us,U,J,O,_⟩:=hr.cells hb;obtain ⟨q',cap,L,hn,rfl,_⟩:=ga hu;rw [U] at L; cases L;obtain ⟨e',E⟩:=nF A.1;have hle:=bC A.2;have hlen:=cE J;have I:=gG (m*s)<|hZ o J;refine ⟨_,I,Src.ofSlice w E _ _ _ _ (by simp; omega) (fun j u C=> ?_)<|mE I h1⟩;rw [eH,hJ,iE];rw [gB] at C;split at C
     · rw [gU] at C; exact O _ _ C
     · cases C
   · cases he
 · replace he:=aQ he; obtain ⟨A,he⟩:=he;cases he;obtain rfl :=fJ hu;obtain ⟨e',E⟩:=nF A;exact ⟨[],by simp [aB],Src.ofNil w E 0⟩
 · replace he:=aQ he; obtain ⟨A,he⟩:=he;simp only [aV] at A;cases he;obtain rfl :=fi hu;obtain rfl :=bA A.2;exact ⟨_,zM _,Src.ofString w (j2 A.1) ⟨⟨_⟩⟩⟩
 · cases he
theorem vq {t J ty e:an} {i:TypeInfo} (I:P.underlying t=some (.slice e)) (hi:P.info? e=some i) {x:ag} {news:List ag} (A:Src P i.size J x 0 news w) {base:Option Addr} {n c:Nat} (hn:n≤c):
 (iA #[t,J] ty #[.slice base n c,x]).run P w= .ok (.slice base n c) w:=by
 have L:news= []:=jL<|by rw [A.newsLen]; simp
 subst L;have E:=A.cells;cases base with
 | none=>rcases A.kind with ⟨e',C⟩ | C <;> simp [iA,run_underlying I,run_underlying C,sizeOf,typeInfo,hi,A.len,hn,E]
 | some a=>rcases A.kind with ⟨e',C⟩ | C <;> simp [iA,run_underlying I,run_underlying C,sizeOf,typeInfo,hi,A.len,hn,E,storeCells]
theorem vt {t E ty e:an} {i:TypeInfo} (I:P.underlying t=some (.slice e)) (hi:P.info? e=some i) {x:ag} {m:Nat} {news:List ag} (A:Src P i.size E x m news w) {b off n c:Nat} {cur:Array ag} {fz:Nat×Nat} (hn:n+m≤c)
 (hb:w.heap[b]? =some (.cells cur e fz)) (J:fz.2≤off+n*i.size) (L:off+n*i.size+news.length≤cur.size):
 (iA #[t,E] ty #[.slice (some ⟨b,off,none⟩) n c,x]).run P w= .ok (.slice (some ⟨b,off,none⟩) (n+m) c) (w.setRow b (cur.toList.take (off+n*i.size)++news++cur.toList.drop (off+n*i.size+news.length)).toArray):=by
 have a9:=run_storeCells_atF P b (off+n*i.size) e fz news 0 cur w hb U U A.one;simp only [iF] at a9;rcases A.kind with ⟨e',C⟩ | C <;> simp [iA,run_underlying I,run_underlying C,sizeOf,typeInfo,hi,A.len,hn,A.cells,Addr.add_lit,a9]
theorem tH (L X:List ag) (a:Nat) (h:a+X.length≤L.length) (k:Nat):(L.take a++X++L.drop (a+X.length))[k]? =if k < a then L[k]? else if k < a+X.length then X[k - a]? else L[k]? :=by
 by_cases A:k < a
 · rw [if_pos A,A1,eh (by simp; omega),gB,if_pos A]
 · rw [if_neg A];by_cases C:k < a+X.length
   · rw [if_pos C,eh (by simp; omega),et (by simp; omega)];congr 1; simp; omega
   · rw [if_neg C,et (by simp; omega),gU];simp only [cj,cO];congr 1; omega
theorem vp {t A ty e:an} {i:TypeInfo} {z:ag} (J:P.underlying t=some (.slice e)) (hi:P.info? e=some i) (L:i.zero=some z) (M:z.cells.size=i.size) (Z:0 < i.size) {x:ag} {m:Nat} {olds news:List ag} (E:Src P i.size A x m news w) {base:Option Addr} {n c:Nat}
 (I:olds.length=n*i.size) (hold:(qR i.size n<|.slice base n c).run P w.drew= .ok olds.toArray w.drew) (V:∀ u∈olds,u.oneCell'=true) (hg:c < n+m) (O:n+m≤1000000000) (hb:(n+m)*i.bytes≤140737488355328):
 ∃ (cap:Nat) (cs:Array ag),n+m≤cap∧cap*i.size=cs.size∧(∀ (j:Nat) (u:ag),(olds++news)[j]? =some u→cs[j]? =some u)∧(iA #[t,A] ty #[.slice base n c,x]).run P w= .ok (.slice (some ⟨w.heap.size,0,none⟩) (n+m) cap) {w.drew with heap:=w.heap.push<|.cells cs e (0,0)} :=by
 have hr:=run_append_grow_src (P:=P) w t A ty e i z J hi L base n c olds hold x m news E hg U<|growslice_fits hg hb;refine ⟨_,_,grownCap_ge w (n+m) c e,?_,?_,hr⟩
 · have :=grownCap_ge w (n+m) c e;simp only [Array.size_append,dG,size_zeroCells,M,cj,I,E.newsLen,← kp];congr 1; omega
 · intro j u C;rw [Array.getElem?_append_left (by have :=(cJ.1 C).1; simpa using this)];simpa using C
theorem DH (hr:HR P G r T h w) {b o n c s:Nat} {x:Bool} {l:List AV} {e fz:Nat} {ex:Ck} {us:List ag} {q:Loc} (hb:h.t.get b=some (.cells l e fz ex)) (L:r b=some q) (C:aB r l=some us) (hle:o+n*s≤l.length) (cap:Nat):
 (qR s n<|.slice (some ⟨q.ar,q.sh+o,none⟩) n cap).run P w.drew= .ok ((us.drop o).take<|n*s).toArray w.drew:=by
 obtain ⟨q',M,I,E,J,_⟩:=hr.cells hb;rw [L] at I; cases I;rw [C] at E; cases E;have hlen:=cE C;refine run_firstCells_some (P:=P) w.drew s n _ n cap _ (by simp; omega) fun j u A=> ?_;rw [eH,hJ,iE];rw [gB] at A;split at A
 · rw [gU] at A; exact J _ _ A
 · cases A
theorem B2 (hr:HR P G r T h w) {t ao:an} {a2 a4 v:AV} {h':Hp} (ha:rI P G t ao a2 a4 h=some (v,h')) (hT:h'.nx≤T) (az:den r a2=some (ev N σ x)) (bt:den r a4=some (ev N σ y)):YM P G r T N σ ⟨dst,.call ⟨.builtin .append,#[x,y],#[t,ao]⟩,ty,pos,af,g⟩ h w v h':=by
 have ae:∀ {u:ag} {w':ah},(iA #[t,ao] ty #[ev N σ x,ev N σ y]).run P w= .ok u w'→(execOp (ev N σ) ⟨dst,.call ⟨.builtin .append,#[x,y],#[t,ao]⟩,ty,pos,af,g⟩).run P w= .ok (.value u) w':=by
  intro u w' h;simp [execOp,resolve,invoke,builtin,h]
 unfold rI at ha;split at ha
 · rename_i e s bx bL bu;obtain ⟨i,zv,hu,hi,aZ,rfl,rfl,a0,aU,bH,bJ,bI⟩:=qq (r:=r) bu;split at ha
   · rename_i m news bq;replace ha:=aQ ha; obtain ⟨aS,ha⟩:=ha;obtain ⟨Nw,al,O⟩:=Gj hr bq aS bt;have bd:=cE al;have aJ:=mE al aS;split at ha
     · have aa:=fJ az;split at ha
       · cases ha;exact ⟨r,_,w,az,.inl (ae<|by rw [aa]; exact vq hu hi O<|aY _),St.refl hr⟩
       · rename_i aH;replace ha:=aQ ha; obtain ⟨C,ha⟩:=ha;simp only [aV] at C;have c1:=bC C.1;have c2:=bC C.2;have hm:0 < m:=Bs fun e=>aH<|by rw [e]
         split at ha
         · rename_i V hn;cases ha;obtain ⟨cap,cs,ab,ai,aq,av⟩:=vp (w:=w) (ty:=ty) (base:=none) (n:=0) (c:=0) (olds:= []) hu hi aZ a0 aU O (by simp) (run_firstCells_none (P:=P) w.drew i.size 0 0 0) (by simp) U U<|by rw [b9]; exact c1
           rw [b9] at ab av;rw [List.nil_append] at aq;obtain ⟨r',ax,a9⟩:=hr.cx hn hT cap (w':= {w.drew with heap:=w.heap.push<|.cells cs e (0,0)}) rfl rfl rfl fun r' hle _=>by
            refine ⟨cs,(0,0),Nw,J,fH hle al,?_,fun j u A=>by rw [b9]; exact aq j u A,by simp,aJ,⟨(fun h=>by cases h),fun _=>rfl⟩,fun s E=> ?_⟩
            · rw [b9,← bd,O.newsLen,← ai]; exact lX _ ab
            · have :s=i.size:=by unfold bU at E; rw [hi] at E; simpa using E.symm
              rw [this,b9,ai]; exact aY _
           refine ⟨r',_,_,?_,.inl (ae<|by rw [aa]; exact av),a9⟩;rw [mg ax (by simpa using ab)]; simp
         · cases ha
     · rename_i b o n c a3;obtain ⟨q,cap,ac,bn,aa,bh,bg⟩:=ga az;split at ha
       · cases ha;exact ⟨r,_,w,az,.inl (ae<|by rw [aa]; exact vq hu hi O bn),St.refl hr⟩
       · rename_i aH;have hm:0 < m:=Bs fun e=>aH<|by rw [e]
         split at ha
         · rename_i l e' fz ex hb;replace ha:=aQ ha; obtain ⟨C,ha⟩:=ha;simp only [aV] at C;obtain ⟨⟨c1,c2,c3⟩,aA,ap,c6⟩:=C;obtain rfl :=bA c1;have c2:=bC c2;have c3:=bC c3;have aA:=bC aA;have ap:=bC ap;obtain ⟨q',ad,cc,fr,us,h1,Z,bB,aB,ba,aC,aD,aM⟩:=hr.live b _ hb;rw [ac] at ad; cases ad;have bF:=cE Z;have bj:=DH (s:=i.size) (x:=a3) (c:=c) hr hb ac Z aA;have holds:=gG (n*i.size)<|hZ o Z;have aI:((us.drop o).take<|n*i.size).length=n*i.size:=by simp; omega
           have aT:∀ u∈(us.drop o).take (n*i.size),u.oneCell'=true :=fun u hu=>aC u<|rh<|ri hu;have aw:=ei holds al;have aO:∀ u∈(us.drop o).take (n*i.size)++Nw,u.oneCell'=true :=fun u hu=>(lV.1 hu).elim (aT u)<|aJ u;have aP:∀ s,bU P e=some s→s=i.size:=fun s E=>by unfold bU at E; rw [hi] at E; simpa using E.symm
           have aR:((us.drop o).take (n*i.size)++Nw).length=(n+m)*i.size:=by rw [cj,aI,O.newsLen,kp]
           have grow:∀ {h0 V:Hp} {aL:Nat} {ck:Ck},ck≠.x→HR P G r T h0 w→St P G T r h w r h0 w→h0.nx=h.nx→cap < n+m→Hb.cx h0 (.cells ((l.drop o).take (n*i.size)++news) e aL ck)=some V→V.nx≤T→
            YM P G r T N σ ⟨dst,.call ⟨.builtin .append,#[x,y],#[t,ao]⟩,ty,pos,af,g⟩ h w (.sl h.nx 0 (n+m) 0 false) V:=by
            intro h0 V aL ck bf bp br bo hg hn hT;obtain ⟨a5,cs,ab,ai,aq,av⟩:=vp (w:=w) (ty:=ty) (base:=some ⟨q.ar,q.sh+o,none⟩) (n:=n) (c:=cap) hu hi aZ a0 aU O aI (bj cap) aT hg c3 c2;obtain ⟨r',ax,a9⟩:=bp.cx hn hT a5 (w':= {w.drew with heap:=w.heap.push<|.cells cs e (0,0)}) rfl rfl rfl fun r' hle _=>by
             refine ⟨cs,(0,0),_,J,fH hle aw,?_,fun j u A=>by rw [b9]; exact aq j u A,by simp,aO,⟨fun h=>absurd h bf,fun _=>rfl⟩,fun s E=> ?_⟩
             · rw [b9,← cE aw,aR,← ai]; exact lX _ ab
             · rw [aP s E,b9,ai]; exact aY _
            rw [bo] at ax;refine ⟨r',_,_,?_,.inl (ae<|by rw [aa]; exact av),St.trans br a9⟩;rw [mg ax (by simpa using ab)]; simp
           cases a3
           · obtain ⟨rfl,bE⟩:=bg rfl;simp only [cond_false] at ha;replace ha:=aQ ha; obtain ⟨C,ha⟩:=ha;simp only [aV] at C;have d1:=bA C.1;have d2:=bC C.2;split at ha
             · rename_i V hn;cases ha;have ay:=hr.del c6;have aW:St P G T r h w r ⟨h.t.del b,h.nx⟩ w:=⟨Rn.le_refl r,ay,aY _,Md.refl _ _,fun g _ k _ aF=>by
                obtain ⟨j,a1,q',bb,A,ad,rfl⟩:=aF;rw [Tr.mz _ _ _ c6] at A;split at A
                · cases A
                · exact ⟨j,a1,q',bb,A,ad,J⟩,fun _ _=>rfl⟩
               by_cases M:n+m≤q.room - c
               ·
                have bD:=aM i.size<|by unfold bU; rw [hi]; rfl
                have bz:q.sh+o+(n+m)*i.size≤cc.size:=by
                 have :(c+(n+m))*i.size≤q.room*i.size:=lX _ U;rw [kp] at this;omega
                have a6:Nw.length=m*i.size:=O.newsLen;have a7:(n+m)*i.size=n*i.size+m*i.size:=kp _ _ _;have am:=vt (w:=w) (ty:=ty) (off :=q.sh+o) hu hi O M h1 U U;unfold Hb.cx at hn;replace hn:=aQ hn; obtain ⟨aE,hn⟩:=hn;cases hn;simp only at hT aE;have hle:=Rn.nH (i:=h.nx) ⟨q.ar,q.sh+o,q.room - c⟩<|hr.new h.nx (aY _) U;obtain ⟨L,aj⟩:∃ L,cc.toList.take (q.sh+o+n*i.size)++Nw++cc.toList.drop (q.sh+o+n*i.size+Nw.length)=L:=⟨_,rfl⟩
                have ak:=tH cc.toList Nw (q.sh+o+n*i.size)<|by simp; omega
                rw [aj] at am ak;have bc:L.length=cc.size:=by rw [← aj]; simp; omega
                have aG:=setRow_heap w q.ar _ L.toArray e _ h1;have aN:∀ g,g≤G→Fr g r h q.ar:=fun g hg=>⟨b,_,q,cH hg ap,hb,ac,rfl⟩
                refine ⟨r.ext h.nx ⟨q.ar,q.sh+o,q.room - c⟩,_,w.setRow q.ar L.toArray,?_,.inl (ae<|by rw [aa]; exact am),⟨hle,ay.put hle aE (Rn.fj _ _ _) ?_ (fun k I _=>setRow_other w q.ar k _ I) ?_ (jQ _) (fun k I bm=> ?_),jQ _,⟨J,J,by simp,fun k _ I=>setRow_other w q.ar k _ fun e=>I<|by rw [e]; exact aN G<|aY _⟩,fun g hg k I aF=> ?_,fun k I=>Rn.ig _ _<|by simp only at I; omega⟩⟩
                · rw [mg (Rn.fj _ _ _) (by simpa using M)]; simp
                · rw [aG];refine ⟨L.toArray,fr,_,J,fH hle aw,?_,fun j u A=> ?_,by simp only; omega,aO,⟨fun h=>absurd h vJ,fun h=>by obtain ⟨h1,Z⟩:=Cw h; simp only; rw [aD.2 h1,Z]⟩,fun s E=> ?_⟩
                  · rw [← cE aw,aR]; simp only [dG]; omega
                  · simp only [jN];rw [ak];by_cases aK:j < n*i.size
                    · rw [eh U,gB,if_pos aK,gU] at A;rw [if_pos U,m6,iE]; exact aB _ _ A
                    · rw [et U,aI] at A;have :=(cJ.1 A).1;rw [if_neg U,if_pos U,show q.sh+o+j - (q.sh+o+n*i.size)=j - n*i.size from by omega]; exact A
                  · rw [aP s E];simp only [dG];have :(c+(q.room - c))*i.size=q.room*i.size:=by congr 1; omega
                    rw [kp] at this;omega
                · intro j a1 q' A hg ad he;rw [Tr.mz _ _ _ c6] at hg;split at hg
                  · cases hg
                  · rename_i bl;exact bl<|hr.inj j b _ _ _ _ hg hb ad ac he
                · rw [Rn.ig _ _ (by simp only at I; omega)]; exact hr.new k (by simp only at I; omega) bm
                · rcases Fr.set aE (Rn.fj _ _ _) hle ay aF with h1 | h1
                  · rw [h1]; exact aN g hg
                  · exact aW.dk g hg k I h1
               · exact grow vJ ay aW J U hn hT
             · cases ha
           · obtain rfl :=bh rfl;simp only [cond_true] at ha;cases M:aX (n+m) cap
             · rw [M] at ha;simp only [cond_false] at ha;split at ha
               · rename_i V hn;cases ha;exact grow (fun h=>by cases h) hr (St.refl hr) J (by
                  rcases de cap (n+m) with h | h
                  · exact h
                  · rw [u0 h] at M; cases M) hn hT
               · cases ha
             · rw [M] at ha;simp only [cond_true] at ha;replace ha:=aQ ha; obtain ⟨C,ha⟩:=ha;simp only [aV] at C;have d1:=bC C.1;have d2:=bC C.2;have M:=bC M;cases ha;have a6:Nw.length=m*i.size:=O.newsLen;have a7:(n+m)*i.size=n*i.size+m*i.size:=kp _ _ _;have am:=vt (w:=w) (ty:=ty) (off :=q.sh+o) hu hi O M h1 U U;obtain ⟨L,aj⟩:∃ L,cc.toList.take (q.sh+o+n*i.size)++Nw++cc.toList.drop (q.sh+o+n*i.size+Nw.length)=L:=⟨_,rfl⟩
               have ak:=tH cc.toList Nw (q.sh+o+n*i.size)<|by simp; omega
               rw [aj] at am ak;have bc:L.length=cc.size:=by rw [← aj]; simp; omega
               have aG:=setRow_heap w q.ar _ L.toArray e _ h1;refine ⟨r,_,w.setRow q.ar L.toArray,jY ac M,.inl (ae<|by rw [aa]; exact am),hr.jw hb c6 ac ap ?_ ⟨J,J,by simp,fun k _ I=>setRow_other w q.ar k _ I⟩⟩;rw [aG];have bi:=ei (gG (o+n*i.size) Z)<|ei al<|hZ (o+(n+m)*i.size) Z;refine ⟨L.toArray,fr,_,J,bi,?_,fun j u A=> ?_,ba,?_,⟨fun hex=> ?_,aD.2⟩,fun s E=> ?_⟩
               · simp only [cj,cO,gV,dG]; omega
               · simp only [jN];rw [ak];by_cases aK:j < o+n*i.size
                 · rw [eh (by simp; omega),gB,if_pos aK] at A;rw [if_pos U,m6]; exact aB _ _ A
                 · rw [et (by simp; omega)] at A;have a8:(us.take<|o+n*i.size).length=o+n*i.size:=by simp; omega
                   rw [a8] at A;rw [if_neg U];by_cases bK:j < o+(n+m)*i.size
                   · rw [eh U] at A;rw [if_pos U,show q.sh+j - (q.sh+o+n*i.size)=j - (o+n*i.size) from by omega]; exact A
                   · rw [et U,gU] at A;rw [if_neg U,m6];refine aB j u ?_;rw [← A]; congr 1; omega
               · intro a ha;rcases lV.1 ha with ha | ha
                 · exact aC a<|ri ha
                 · rcases lV.1 ha with ha | ha
                   · exact aJ a ha
                   · exact aC a<|rh ha
               · obtain ⟨bv,x2,bw⟩:=aD.1 hex;refine ⟨bv,?_,bw⟩;simp only [cj,cO,gV,dG]; omega
               · have :=aM s E;simp only [dG]; omega
         · cases ha
     · cases ha
   · cases ha
 · cases ha
end
end Go.Hb
namespace Go.Hb
def tZ (P:aq) (G:Nat) (t:an) (b o n c i:Nat) (h:Hp):Option (AV×Hp):=match cK P t with
 | some e=>cond (aD i n && (aX G b && az b bI)) (match h.t.get b with
   | some (.cells l t' fz ex)=>match bU P t' with
     | some e'=>cond (aD e e' && (aD o (c*e) && aX (o+n*e) l.length)) (match cx ⟨h.t.del b,h.nx⟩ (.cells [] t' fz .a) with
       | some h'=>some (.sl h.nx 0 0 0 false,h')
       | none=>none) none
     | none=>none
   | _=>none) none
 | none=>none
def th (P:aq) (t:an) (n i j:Nat) (h:Hp):Option (AV×Hp):=match cK P t with
 | some _=>cond (aD i n && (aD j n && az h.nx bI)) (some (.sl h.nx 0 0 0 false,⟨h.t,h.nx+1⟩)) none
 | none=>none
def rS (P:aq) (G:Nat) (t:an) (x:AV) (h:Hp):Option (AV×Hp):=match x with
 | .au=>cond (im P t) (some (.bG [],h)) none
 | .sl b o n c q=>match mW P t with
   | some (e,s,_,zs)=>match n with
     | 0=>some (.bG [],h)
     | _=>match h.t.get b with
       | some (.cells l e' fz ex)=>cond ((aX (o+n*s) l.length && aX fz o) && (aX G b && az b bI)) (some (.bG [],⟨h.t.set b (.cells (l.take o++(iU zs n++l.drop (o+n*s))) e' fz ex),h.nx⟩)) none
       | _=>none
   | none=>none
 | _=>none
def js (x:AV):List (AV×AV)→List (AV×AV)
 | []=> []
 | p::l=>cond (eM p.1 x) l (p::js x l)
def rZ (P:aq) (G:Nat) (t:an) (b:Nat) (k:AV) (h:Hp):Option (AV×Hp):=match h.t.get b with
 | some (.map l)=>match P.underlying t with
   | some (.map C e)=>match kT P C k with
     | some A=>cond ((aX G b && az b bI) && (cX A k && dV A l)) (some (.bG [],⟨h.t.set b (.map<|js k l),h.nx⟩)) none
     | none=>none
   | _=>none
 | _=>none
def uk (P:aq) (G:Nat) (A:an) (x y:AV) (h:Hp):Option (AV×Hp):=match x,y with
 | .ptr _ _,.int .i64 0=>some (.str [],h)
 | .fm,.int .i64 0=>some (.str [],h)
 | .ptr b 0,.int .i64 (.ofNat n)=>match h.t.get b with
   | some (.cells l e fz ex)=>match ex with
     | .a=>none
     | _=>cond ((ptrTo P A e && (aX n l.length && (az 0 n && az n 1000000000))) && (aX G b && az b bI)) (match lg (l.take n) with
       | some m=>some (.str m,⟨h.t.set b (.cells l e (max fz n) .z),h.nx⟩)
       | none=>none) none
   | _=>none
 | _,_=>none
def pQ (P:aq) (G:Nat) (o:Op) (xs:List AV) (h:Hp):Option (AV×Hp):=match o with
 | .call ⟨.builtin .append,_,⟨[t,tx]⟩⟩=>match xs with
   | [s,x]=>rI P G t tx s x h
   | _=>none
 | .call ⟨.builtin .clear,_,⟨[t]⟩⟩=>match xs with
   | [x]=>rS P G t x h
   | _=>none
 | .call ⟨.builtin .delete,_,⟨[t,_]⟩⟩=>match xs with
   | [.map b,k]=>rZ P G t b k h
   | _=>none
 | .call ⟨.builtin .unsafeSliceData,_,_⟩=>match xs with
   | [.au]=>some (.fm,h)
   | [.sl b o n c x]=>cond (az 0 n) (some (.ptr b o,h)) none
   | _=>none
 | .call ⟨.builtin .unsafeString,_,⟨[pt,_]⟩⟩=>match xs with
   | [x,y]=>uk P G pt x y h
   | _=>none
 | .slice t _ (some _) none none=>match xs with
   | [.sl b o n c false,.int _ (.ofNat i)]=>tZ P G t b o n c i h
   | _=>none
 | .slice t _ (some _) (some _) none=>match xs with
   | [.sl b o n c false,.int _ (.ofNat i),.int _ (.ofNat j)]=>th P t n i j h
   | _=>none
 | _=>none
inductive AD | mark (D:Nat) | fn (f:Nat) (args:List AV)
inductive EX | bM | ret | ext (id:Nat)
inductive Tk
 | cd (rd:Option Nat) (n:Nat) (c:bt) (fr:Tr AV) (D:List AD) (h:Hp)
 | lp (rd:Option Nat) (n:Nat) (c:bt) (fr:Tr AV) (D:List AD) (h:Hp)
 | cl (f:Nat) (args:List AV) (h:Hp)
 | yl (l:Nat) (args:List AV) (h:Hp)
 | df (f:Nat) (args:List AV) (h:Hp)
inductive Rs | no | cd (e:EX) (fr:Tr AV) (D:List AD) (h:Hp) | rv (v:AV) (h:Hp)
inductive Ro | no | v (x:AV) (h:Hp) | d (a:AD)
abbrev Xt:=Nat→Option (List AV→Hp→Option (AV×Hp))
def eA (n:Nat) (fr:Tr AV) (d:Option Nat) (v:AV):Option (Tr AV):=match d with
 | none=>some fr
 | some d=>cond (az d n && az d bI) (some<|fr.set d v) none
def oY (X:Xt) (ih:Tk→Rs) (f:AV) (args:List AV) (h:Hp):Ro:=match f with
 | .fn f a c=>match X f with
   | some e=>match e (a++(args++c)) h with
     | some (v,h)=> .v v h
     | none=> .no
   | none=>match ih (.cl f (a++(args++c)) h) with
     | .rv v h=> .v v h
     | _=> .no
 | .e9 l=>match ih (.yl l args h) with
   | .rv v h=> .v v h
   | _=> .no
 | _=> .no
def nQ (P:aq) (G:Nat) (X:Xt) (ih:Tk→Rs) (o:Op) (xs:List AV) (h:Hp):Ro:=match kY P o xs with
 | some v=> .v v h
 | none=>match gL P o xs h with
   | some v=> .v v h
   | none=>match o with
     | .call ⟨.value _,_,_⟩=>match xs with
       | f::args=>oY X ih f args h
       | []=> .no
     | .defer ⟨.value _,_,_⟩=>match xs with
       | .fn f a c::args=> .d<|.fn f<|a++(args++c)
       | _=> .no
     | _=>match mH P G o xs h with
       | some (v,h)=> .v v h
       | none=>match pQ P G o xs h with
         | some (v,h')=>cond (aX h.nx h'.nx) (.v v h') .no
         | none=> .no
inductive Gd | y | n | no
def ij (n:Nat) (ops:List ax) (fr:Tr AV) (g:Option (Nat×Bool)):Gd:=match g with
 | none=> .y
 | some (j,want)=>match ops[j]? with
   | some o=>match o.dst with
     | some t=>cond (az t n) (match cF fr t with
       | .bool b=>cond (b==want) .y .n
       | .bG []=> .n
       | _=> .no) .no
     | none=> .no
   | none=> .no
def ix (P:aq) (G:Nat) (X:Xt) (ih:Tk→Rs) (rd:Option Nat) (n:Nat) (ops:List ax):List ax→Tr AV→List AD→Hp→Rs
 | [],fr,D,h=> .cd .bM fr D h
 | o::l,fr,D,h=>match ij n ops fr o.guard with
   | .y=>match iT G n fr (eR o.op) with
     | some xs=>match nQ P G X ih o.op xs h with
       | .v v h=>match eA n fr o.dst v with
         | some fr=>ix P G X ih rd n ops l fr D h
         | none=> .no
       | .d a=>match rd with
         | none=>match eA n fr o.dst (.bG []) with
           | some fr=>ix P G X ih rd n ops l fr (a::D) h
           | none=> .no
         | some _=> .no
       | .no=> .no
     | none=> .no
   | .n=>match eA n fr o.dst (.bG []) with
     | some fr=>ix P G X ih rd n ops l fr D h
     | none=> .no
   | .no=> .no
def gd:Nat→List AV→Tr AV→Tr AV
 | _,[],fr=>fr
 | i,v::l,fr=>gd (i+1) l<|fr.set i v
def k9 (n:Nat):List Nat→List AV→Tr AV→Option (Tr AV)
 | [],[],fr=>some fr
 | p::ps,v::vs,fr=>match eA n fr (some p) v with
   | some fr=>k9 n ps vs fr
   | none=>none
 | _,_,_=>none
def gl (P:aq) (n:Nat) (fr:Tr AV) (h:Hp):List ResultVar→Option (List AV)
 | []=>some []
 | .tmp t::l=>match gl P n fr h l with
   | some vs=>cond (az t n) (some (cF fr t::vs)) none
   | none=>none
 | .cell a t::l=>match gl P n fr h l with
   | some vs=>cond (az a n) (match pD P t (cF fr a) h with
     | some v=>some (v::vs)
     | none=>none) none
   | none=>none
def k0:List AV→AV
 | [v]=>v
 | vs=> .bG vs
def ir (G:Nat) (ih:Tk→Rs):List AD→Hp→Option Hp
 | [],h=>some h
 | .mark d::l,h=>match h.t.get d with
   | some (.jm true)=>cond (aX G d && az d bI) (ir G ih l ⟨h.t.set d (.jm false),h.nx⟩) none
   | _=>none
 | .fn f args::l,h=>match ih (.df f args h) with
   | .rv _ h=>ir G ih l h
   | _=>none
def xh:EX→Option bt
 | .bM=>none
 | .ret=>some .ret
 | .ext i=>some<|.exit i
def ml (G:Nat) (ih:Tk→Rs) (rd:Option Nat) (n:Nat) (fr:Tr AV) (D:List AD) (l:Nat) (h:Hp):Rs:=match h.t.get l with
 | some (.loop st A m C ps aP body d)=>match st with
   | .busy=> .no
   | _=>cond (aX G l && az l bI) (match A with
     | none=> .cd .bM fr D ⟨h.t.set l (.loop .exhausted A m C ps aP body d),h.nx⟩
     | some c=>ih (.cd rd n c fr D ⟨h.t.set l (.loop .exhausted A m C ps aP body d),h.nx⟩)) .no
 | _=> .no
def mN (ih:Tk→Rs) (G:Nat) (rd:Option Nat) (n:Nat) (g:aT) (ps:List Nat) (aP body:bt) (fr:Tr AV) (D:List AD) (h:Hp):Rs:=match iS G n fr g with
 | some (.fn f a c)=>match rd with
   | none=>match cx h (.jm true) with
     | some h1=>match cx h1 (.loop .ready none n fr ps aP body h.nx) with
       | some A=>match ih (.cl f (a++(.e9 h1.nx::c)) A) with
         | .rv _ C=>ml G ih rd n fr (.mark h.nx::D) h1.nx C
         | _=> .no
       | none=> .no
     | none=> .no
   | some E=>match h.t.get E with
     | some (.loop _ _ _ _ _ _ _ d)=>match cx h (.loop .ready none n fr ps aP body d) with
       | some A=>match ih (.cl f (a++(.e9 h.nx::c)) A) with
         | .rv _ C=>ml G ih rd n fr D h.nx C
         | _=> .no
       | none=> .no
     | _=> .no
 | _=> .no
def oe (G:Nat) (ih:Tk→Rs) (l:Nat) (args:List AV) (h:Hp):Rs:=match h.t.get l with
 | some (.loop .ready J n fr ps aP body d)=>match k9 n ps args fr with
   | some fr=>match ih (.cd (some l) n aP fr [] h) with
     | .cd .bM fr [] h=>match h.t.get l with
       | some (.loop .ready L C A M E I d1)=>cond (aX G l && az l bI) (match ih (.cd (some l) n body fr [] ⟨h.t.set l (.loop .busy L C A M E I d1),h.nx⟩) with
         | .cd e fr [] h=>match h.t.get l with
           | some (.loop .busy J C A ps aP body d)=>match e with
             | .bM=> .rv (.bool true) ⟨h.t.set l (.loop .ready none C A ps aP body d),h.nx⟩
             | e=> .rv (.bool false) ⟨h.t.set l (.loop .done (xh e) C A ps aP body d),h.nx⟩
           | _=> .no
         | _=> .no) .no
       | _=> .no
     | _=> .no
   | none=> .no
 | _=> .no
mutual
def dL:AV→AV→Bool
 | .bool a,.bool b=>a==b
 | .int k a,.int k' b=>cond (aD (c7 k)<|c7 k') (decide (a=b)) false
 | .str l,.str m=>fL l m
 | .ptr b o,.ptr b' o'=>aD b b' && aD o o'
 | .fm,.fm=>true
 | .sl b o n c x,.sl b' o' n' c' x'=>(aD b b' && aD o o') && (aD n n' && (aD c c' && (x==x')))
 | .au,.au=>true
 | .map b,.map b'=>aD b b'
 | .iP,.iP=>true
 | .fn f a c,.fn f' a' c'=>aD f f' && (ic a a' && ic c c')
 | .e9 l,.e9 l'=>aD l l'
 | .gk,.gk=>true
 | .ek t v,.ek t' v'=>aD t t' && dL v v'
 | .cM,.cM=>true
 | .agg l,.agg m=>ic l m
 | .bG l,.bG m=>ic l m
 | _,_=>false
def ic:List AV→List AV→Bool
 | [],[]=>true
 | a::l,b::m=>cond (dL a b) (ic l m) false
 | _,_=>false
end
def mX:List aT→List Nat
 | []=> []
 | .tmp t::l=>t::mX l
 | _::l=>mX l
def sA (ops:List ax) (g:Option (Nat×Bool)):List Nat:=match g with
 | none=> []
 | some (j,_)=>match ops[j]? with
   | some q=>match q.dst with
     | some t=> [t]
     | none=> []
   | none=> []
def mM (ops:List ax) (o:ax):List Nat:=sA ops o.guard++mX (eR o.op)
def nK (t:Nat):List Nat→Bool
 | []=>false
 | u::l=>cond (aD t u) true<|nK t l
def pI (d:Option Nat) (l:List Nat):Bool:=match d with
 | some t=>nK t l
 | none=>false
def j8 (l:List Nat) (i:Nat):Nat:=ju l i 0
def j6 (acc:List Nat):List bX→Nat
 | []=>0
 | e::l=>cond (cY .any e && az e.on acc.length) (Nat.lor (Nat.lor (Nat.pow 2 e.on)<|j8 acc e.on)<|j6 acc l)<|j6 acc l
def fI:List ax→List Nat→List Nat
 | [],acc=>acc
 | o::l,acc=>fI l<|acc++ [j6 acc o.after.toList]
def gZ (A:List Nat) (i j:Nat):Bool:=oK (j8 A i) j
def ns (i:Nat):List bX→Bool
 | []=>true
 | e::l=>cond (cY .any e && !(az e.on i)) false<|ns i l
def wW (a b:Option Nat):Bool:=match a,b with
 | some a,some b=>aD a b
 | _,_=>false
def oZ (ops:List ax) (E:List Nat) (i:Nat) (A:ax):Nat→List ax→Bool
 | _,[]=>true
 | j,C::l=>cond (az j i) ((!(wW A.dst C.dst) && (gZ E i j || (!(pI C.dst<|mM ops A) && !(pI A.dst<|mM ops C)))) && oZ ops E i A (j+1) l) true
def mb (ops:List ax) (A:List Nat):Nat→List ax→Bool
 | _,[]=>true
 | i,C::l=>(ns i C.after.toList && oZ ops A i C 0 ops) && mb ops A (i+1) l
inductive Cs | s | p | l | a | c
structure Rec where
 k:Cs
 xs:List AV
 v:AV
 hb:Hp
 ha:Hp
def oS (P:aq) (e:an):Option (List AV):=match zeroOf P e with
 | some (some A)=>match iQ (gJ 4) A with
   | some l=>cond (dm l) (some l) none
   | none=>none
 | _=>none
def early (A:List Nat) (i:Nat) (last:Option Nat):Bool:=match last with
 | some c=> !(gZ A i c)
 | none=>false
def tz (P:aq) (G:Nat) (X:Xt) (ih:Tk→Rs) (fr:Bool) (o:Op) (xs:List AV) (h:Hp):Option Rec:=match kY P o xs with
 | some v=>some ⟨.p,xs,v,h,h⟩
 | none=>match gL P o xs h with
   | some v=>some ⟨.l,xs,v,h,h⟩
   | none=>match fr,o with
     | true,.alloc e=>match oS P e with
       | some l=>match cx h (.cells l e 0 .x) with
         | some h'=>some ⟨.a,xs,.ptr h.nx 0,h,h'⟩
         | none=>none
       | none=>none
     | _,_=>match nQ P G X ih o xs h with
       | .v v h'=>some ⟨.c,xs,v,h,h'⟩
       | _=>none
def Ev (i:Nat) (last:Option Nat):Cs→Option Nat
 | .c=>some i
 | _=>last
def jy (P:aq) (G:Nat) (X:Xt) (ih:Tk→Rs) (n:Nat) (ops:List ax) (A:List Nat):Nat→Option Nat→List ax→Tr AV→Hp→Option (List Rec×Tr AV×Hp)
 | _,_,[],fr,h=>some ([],fr,h)
 | i,last,o::l,fr,h=>match ij n ops fr o.guard with
   | .y=>match iT G n fr (eR o.op) with
     | some xs=>match tz P G X ih (early A i last) o.op xs h with
       | some r=>match eA n fr o.dst r.v with
         | some fr=>match jy P G X ih n ops A (i+1) (Ev i last r.k) l fr r.ha with
           | some (rs,fr,h)=>some (r::rs,fr,h)
           | none=>none
         | none=>none
       | none=>none
     | none=>none
   | .n=>match eA n fr o.dst (.bG []) with
     | some fr=>match jy P G X ih n ops A (i+1) last l fr h with
       | some (rs,fr,h')=>some (⟨.s,[],.bG [],h,h⟩::rs,fr,h')
       | none=>none
     | none=>none
   | .no=>none
def r7 (a:Option AV) (v:AV):Bool:=match a with
 | some a=>dL a v
 | none=>false
def nO (P:aq) (A:List Nat) (i:Nat) (o:Op) (xs:List AV) (v:AV):Nat→List Rec→Bool
 | _,[]=>true
 | j,q::l=>cond (match q.k with
   | .c=>cond (az j i) (gZ A i j || r7 (gL P o xs q.hb) v) (gZ A j i || r7 (gL P o xs q.ha) v)
   | .a=> !(az j i)
   | _=>true) (nO P A i o xs v (j+1) l) false
def nN (A:List Nat) (i:Nat):Nat→List Rec→Bool
 | _,[]=>true
 | j,q::l=>cond (match q.k with
   | .c=>cond (az j i) (gZ A i j) true
   | .a=>cond (az j i) (gZ A i j) true
   | _=>true) (nN A i (j+1) l) false
def jv (P:aq) (A:List Nat) (rs:List Rec):Nat→List ax→List Rec→Bool
 | _,[],[]=>true
 | i,o::l,q::m=>cond (match q.k with
   | .l=>nO P A i o.op q.xs q.v 0 rs
   | .c=>nN A i 0 rs
   | _=>true) (jv P A rs (i+1) l m) false
 | _,_,_=>false
def o8 (P:aq) (G:Nat) (X:Xt) (ih:Tk→Rs) (n:Nat) (ops:List ax) (fr:Tr AV) (D:List AD) (h:Hp):Rs:=match fI ops [] with
 | A=>cond (mb ops A 0 ops) (match jy P G X ih n ops A 0 none ops fr h with
   | some (rs,fr,h)=>cond (jv P A rs 0 ops rs) (.cd .bM fr D h) .no
   | none=> .no) .no
def ee (P:aq) (G:Nat) (X:Xt) (ih:Tk→Rs):Tk→Rs
 | .cd rd n c fr D h=>match c with
   | .skip => .cd .bM fr D h
   | .region _ ⟨ops⟩ draw=>cond draw (o8 P G X ih n ops fr D h)<|ix P G X ih rd n ops ops fr D h
   | .seq a b=>match ih (.cd rd n a fr D h) with
     | .cd .bM fr D h=>ih<|.cd rd n b fr D h
     | r=>r
   | .cond x a b=>match iS G n fr x with
     | some (.bool true)=>ih<|.cd rd n a fr D h
     | some (.bool false)=>ih<|.cd rd n b fr D h
     | _=> .no
   | .block id c=>match ih (.cd rd n c fr D h) with
     | .cd (.ext j) fr D h=>cond (aD j id) (.cd .bM fr D h)<|.cd (.ext j) fr D h
     | r=>r
   | .loop c=>ih<|.lp rd n c fr D h
   | .rangeFunc g ⟨ps⟩ aP body=>mN ih G rd n g ps aP body fr D h
   | .exit id=> .cd (.ext id) fr D h
   | .ret=> .cd .ret fr D h
   | _=> .no
 | .lp rd n c fr D h=>match ih (.cd rd n c fr D h) with
   | .cd .bM fr D h=>ih<|.lp rd n c fr D h
   | r=>r
 | .cl f args h=>match P.funcs[f]? with
   | some fn=>match fn.body with
     | some c=>cond (aX args.length fn.ntmps && az fn.ntmps bI) (match ih (.cd none fn.ntmps c (gd 0 args .nil) [] h) with
       | .cd (.ext _) _ _ _=> .no
       | .cd _ fr D h=>match ir G ih D h with
         | some h=>match gl P fn.ntmps fr h fn.results.toList with
           | some vs=> .rv (k0 vs) h
           | none=> .no
         | none=> .no
       | _=> .no) .no
     | none=> .no
   | none=> .no
 | .yl l args h=>oe G ih l args h
 | .df f args h=>match P.funcs[f]? with
   | some fn=>match fn.body with
     | some c=>cond (aX args.length fn.ntmps && az fn.ntmps bI) (match (match c with
       | .seq (.region _ ⟨⟨some d,.call ⟨.builtin .recover,⟨[]⟩,⟨[]⟩⟩,ty,pos,af,none⟩::rest⟩ false) y=>match eA fn.ntmps (gd 0 args .nil) (some d) .cM with
         | some fr=>match ix P G X ih none fn.ntmps (⟨some d,.call ⟨.builtin .recover,⟨[]⟩,⟨[]⟩⟩,ty,pos,af,none⟩::rest) rest fr [] h with
           | .cd .bM fr [] h=>ih<|.cd none fn.ntmps y fr [] h
           | _=> .no
         | none=> .no
       | c=>ih (.cd none fn.ntmps c (gd 0 args .nil) [] h)) with
       | .cd (.ext _) _ _ _=> .no
       | .cd _ fr [] h=>match gl P fn.ntmps fr h fn.results.toList with
         | some vs=> .rv (k0 vs) h
         | none=> .no
       | _=> .no) .no
     | none=> .no
   | none=> .no
def nD (c:Nat):List UInt8→Nat→Int
 | [],_=> -1
 | b::l,i=>cond (aD b.toNat c) (jb i)<|nD c l<|i+1
def uy (xs:List AV) (h:Hp):Option (AV×Hp):=match xs with
 | [.str l,.int .u8 (.ofNat c)]=>cond (az c 256) (match dW .i64 (nD c l 0) with
   | some v=>some (v,h)
   | none=>none) none
 | _=>none
def ux (xs:List AV) (h:Hp):Option (AV×Hp):=match xs with
 | [x]=>some (x,h)
 | _=>none
end Go.Hb
namespace Go.Hb
section
variable {P:aq} {G:Nat} {r:Rn} {T:Nat} {h:Hp} {w:ah} {N:Fm} {σ:Nat→ag} {dst:Option Nat} {ty:an} {pos :String} {af:Array bX} {g:Option (Nat×Bool)} {x y z:aT}
theorem HR.y8 (hr:HR P G r T h w) {b o:Nat} {l news:List AV} {e fz:Nat} {ex:Ck} {q:Loc} {Nw:List ag} (hb:h.t.get b=some (.cells l e fz ex)) (aj:aX G b=true) (ak:az b bI=true) (V:r b=some q) (E:aB r news=some Nw) (h1:dm news=true) (hle:o+news.length≤l.length) (av:fz≤o):
 ∃ c fr,w.heap[q.ar]? =some (.cells c e fr)∧fr.2≤q.sh+o∧q.sh+o+Nw.length≤c.size∧(∀ u∈Nw,u.oneCell'=true)∧
   St P G T r h w r ⟨h.t.set b (.cells (l.take o++(news++l.drop (o+news.length))) e fz ex),h.nx⟩ (w.setRow q.ar (c.toList.take (q.sh+o)++Nw++c.toList.drop (q.sh+o+Nw.length)).toArray):=by
 obtain ⟨q',Z,c,fr,us,aa,I,ay,ab,an,ac,ad,ao⟩:=hr.live b _ hb;rw [V] at Z; cases Z;have aw:=cE E;have ax:=cE I;have O:=mE E h1;obtain ⟨L,C⟩:∃ L,c.toList.take (q.sh+o)++Nw++c.toList.drop (q.sh+o+Nw.length)=L:=⟨_,rfl⟩
 have M:=tH c.toList Nw (q.sh+o)<|by have :=jF (xs:=c); omega
 rw [C] at M;have aq:L.length=c.size:=by rw [← C]; simp; omega
 refine ⟨c,fr,aa,U,U,O,?_⟩;rw [C];refine hr.jw hb ak V (bC aj) ?_ ⟨J,J,by simp,fun k _ al=>setRow_other w q.ar k _ al⟩;rw [setRow_heap w q.ar _ _ e _ aa];refine ⟨L.toArray,fr,_,J,ei (gG o I) (ei E<|hZ (o+news.length) I),?_,fun j a A=> ?_,an,?_,⟨fun hex=> ?_,ad.2⟩,fun s am=> ?_⟩
 · simp only [cj,cO,gV,dG]; omega
 · rw [jN,M];have ae:(us.take o).length=o:=by simp; omega
   by_cases m1:j < o
   · rw [eh U,gB,if_pos m1] at A;rw [if_pos U,m6]; exact ab _ _ A
   · rw [et U,ae] at A;rw [if_neg U];by_cases aA:j < o+Nw.length
     · rw [eh U] at A;rw [if_pos U,show q.sh+j - (q.sh+o)=j - o from by omega]; exact A
     · rw [et U,gU] at A;rw [if_neg U,m6];refine ab j a ?_;rw [← A]; congr 1; omega
 · intro a ha;rcases lV.1 ha with ha | ha
   · exact ac a<|ri ha
   · rcases lV.1 ha with ha | ha
     · exact O a ha
     · exact ac a<|rh ha
 · obtain ⟨ah,ap,ai⟩:=ad.1 hex;refine ⟨ah,?_,ai⟩;simp only [cj,cO,gV,dG]; omega
 · have :=ao s am;simp only [dG]; omega
theorem Fb (hr:HR P G r T h w) {t b o n c i j:Nat} {h':Hp} {v:AV} {k al:bg} (hn:th P t n i j h=some (v,h')) (hT:h'.nx≤T) (ai:den r (.sl b o n c false)=some (ev N σ x)) (aj:ev N σ y= .int k (jb i)) (ak:ev N σ z= .int al (jb j)):YM P G r T N σ ⟨dst,.slice t x (some y) (some z) none,ty,pos,af,g⟩ h w v h':=by
 unfold th at hn;split at hn
 · rename_i e he;replace hn:=aQ hn; obtain ⟨L,hn⟩:=hn;simp only [aV] at L;obtain rfl :=bA L.1;obtain rfl :=bA L.2.1;cases hn;simp only at hT;obtain ⟨q,ao,an,hu⟩:=o7 ai;have ah:=tS (dst:=dst) (ty:=ty) (pos :=pos) (af:=af) (g:=g) (w:=w) he hu aj ak ⟨eD _,Int.le_refl _,by simp; omega⟩;obtain ⟨ad,ab⟩:∃ ad:Nat,dw (some ⟨q.ar,q.sh+o,none⟩) (q.room - c) j e=some ⟨q.ar,ad,none⟩:=by
    unfold dw; split
    · exact ⟨_,J⟩
    · exact ⟨_,by rw [eu,eH]⟩
   have hle:=Rn.nH (i:=h.nx) ⟨q.ar,ad,q.room - c - j⟩<|hr.new h.nx (aY _) U;refine ⟨r.ext h.nx ⟨q.ar,ad,q.room - c - j⟩,_,w,?_,.inl ah,hle,⟨fun j I C=> ?_,fun j k V Z aq am C E h1 A he=> ?_,fun k E ae=> ?_,hr.dT.le hle,cH hr.base<|jQ _⟩,jQ _,Md.refl _ _,fun g hg k E ac=> ?_,fun k E=>Rn.ig _ _<|by simp only at E; omega⟩
   · rw [mg (Rn.fj _ _ _) (by simp)];simp [ab]
   · obtain ⟨q',h1,A⟩:=hr.live j I C;exact ⟨q',hle _ _ h1,A.le hle⟩
   · obtain ⟨q',M,_⟩:=hr.live j V C;obtain ⟨ap,O,_⟩:=hr.live k Z E;rw [hle _ _ M] at h1; cases h1;rw [hle _ _ O] at A; cases A;exact hr.inj j k V Z _ _ C E M O he
   · simp only at E; rw [Rn.ig _ _ U]; exact hr.new k U ae
   · obtain ⟨j,I,q',aa,C,ag,rfl⟩:=ac;obtain ⟨am,A,_⟩:=hr.live j I C;have :=hle _ _ A;rw [ag] at this; cases this;exact ⟨j,I,_,aa,C,A,J⟩
 · cases hn
theorem HR.C7 (hr:HR P G r T h w) {b:Nat} (hb:az b bI=true):St P G T r h w r ⟨h.t.del b,h.nx⟩ w:=
 ⟨Rn.le_refl r,hr.del hb,aY _,Md.refl _ _,fun g _ k _ E=>by
  obtain ⟨j,L,q',C,A,I,rfl⟩:=E;rw [Tr.mz _ _ _ hb] at A;split at A
  · cases A
  · exact ⟨j,L,q',C,A,I,J⟩,fun _ _=>rfl⟩
theorem HR.E2 (hr:HR P G r T h w) {b:Nat} {o:AO} {q q':Loc} {h':Hp} {ob:AO} (hb:h.t.get b=some ob) (E:az b bI=true) (J:r b=some q) (O:aX G b=true) (C:q'.ar=q.ar) (hn:Hb.cx ⟨h.t.del b,h.nx⟩ o=some h') (hT:h'.nx≤T) (ab:∀ r',r.le r'→OR P r' q' o w.heap[q.ar]?):
 ∃ r',r' h.nx=some q'∧St P G T r h w r' h' w:=by
 have L:=hr.del E;have ad:=hr.C7 E;unfold Hb.cx at hn;replace hn:=aQ hn; obtain ⟨I,hn⟩:=hn;cases hn;simp only at hT I;have hle:=Rn.nH (i:=h.nx) q'<|hr.new h.nx (aY _) U;have M:∀ g,g≤G→Fr g r h q.ar:=fun g hg=>⟨b,_,q,cH hg (bC O),hb,J,rfl⟩
 refine ⟨r.ext h.nx q',Rn.fj _ _ _,hle,L.put hle I (Rn.fj _ _ _) (by rw [C]; exact ab _ hle) (fun _ _ _=>rfl) (fun j ag ah ae hg ac he=> ?_) (jQ _) (fun k A aa=> ?_),jQ _,Md.refl _ _,fun g hg k A V=> ?_,fun k A=>Rn.ig _ _<|by simp only at A; omega⟩
 · rw [Tr.mz _ _ _ E] at hg;split at hg
   · cases hg
   · rename_i Z;exact Z<|hr.inj j b _ _ _ _ hg hb ac J<|by rw [he,C]
 · simp only at A; rw [Rn.ig _ _ U]; exact hr.new k U aa
 · rcases Fr.set I (Rn.fj _ _ _) hle L V with h1 | h1
   · rw [h1,C]; exact M g hg
   · exact ad.dk g hg k A h1
theorem GN (hr:HR P G r T h w) {t b o n c i:Nat} {h':Hp} {v:AV} {k:bg} (hn:tZ P G t b o n c i h=some (v,h')) (hT:h'.nx≤T) (ai:den r (.sl b o n c false)=some (ev N σ x)) (aj:ev N σ y= .int k (jb i)):YM P G r T N σ ⟨dst,.slice t x (some y) none none,ty,pos,af,g⟩ h w v h':=by
 unfold tZ at hn;split at hn
 · rename_i e he;replace hn:=aQ hn; obtain ⟨C,hn⟩:=hn;simp only [aV] at C;obtain rfl :=bA C.1;obtain ⟨_,O,V⟩:=C;split at hn
   · rename_i l t' fz ex hb;split at hn
     · rename_i e' E;replace hn:=aQ hn; obtain ⟨A,hn⟩:=hn;simp only [aV] at A;obtain rfl :=bA A.1;have d1:=bA A.2.1;have d2:=bC A.2.2;split at hn
       · rename_i am ac;cases hn;obtain ⟨q,I,ao,hu⟩:=o7 ai;obtain ⟨q',L,cc,fr,us,ak,ap,aq,av,aw,ax,ay,al⟩:=hr.live b _ hb;rw [I] at L; cases L;have az:=al e E;have ah:=tU (dst:=dst) (ty:=ty) (pos :=pos) (af:=af) (g:=g) (w:=w) he hu aj ⟨eD _,Int.le_refl _⟩;have ag:(c+i+(q.room - c - i))*e=q.room*e:=by congr 1; omega
         rw [kp,kp] at ag;obtain ⟨ad,Z,an,aa⟩:∃ ad:Nat,dw (some ⟨q.ar,q.sh+o,none⟩) (q.room - c) i e=some ⟨q.ar,ad,none⟩∧q.sh≤ad∧ad+(q.room - c - i)*e≤cc.size:=by
          unfold dw; split
          · rename_i h0;refine ⟨_,J,U,?_⟩;rw [show q.room - c - i=0 from by omega,rn]; omega
          · exact ⟨q.sh+o+i*e,by rw [eu,eH],U,U⟩
         obtain ⟨r',ae,a9⟩:=hr.E2 (q':=⟨q.ar,ad,q.room - c - i⟩) hb V I O rfl ac hT fun r' hle=>by
          refine ⟨cc,fr,[],ak,by simp [aB],by simp only [iD,iF]; omega,fun j u ab=>by simp at ab,by simp only; omega,fun u hu=>by simp at hu,⟨(fun h=>by cases h),fun h=>absurd J h⟩,fun s M=> ?_⟩;rw [E] at M; cases M;exact aa
         refine ⟨r',_,w,?_,.inl ah,a9⟩;rw [mg ae (by simp)];simp [Z]
       · cases hn
     · cases hn
   · cases hn
 · cases hn
theorem Cx (hr:HR P G r T h w) {t:an} {a v:AV} {h':Hp} (hn:rS P G t a h=some (v,h')) (L:den r a=some (ev N σ x)):YM P G r T N σ ⟨dst,.call ⟨.builtin .clear,#[x],#[t]⟩,ty,pos,af,g⟩ h w v h':=by
 have C:∀ {u:ag} {w':ah},(qQ #[t] ty #[ev N σ x]).run P w= .ok u w'→(execOp (ev N σ) ⟨dst,.call ⟨.builtin .clear,#[x],#[t]⟩,ty,pos,af,g⟩).run P w= .ok (.value u) w':=by
  intro u w' h;simp [execOp,resolve,invoke,builtin,h]
 unfold rS at hn;split at hn
 · replace hn:=aQ hn; obtain ⟨A,hn⟩:=hn;cases hn;obtain ⟨e,he⟩:=nF A;have hu:=fJ L;exact ⟨r,undef,w,fY r,.inl (C<|by rw [hu]; simp [qQ,ba he]; rfl),St.refl hr⟩
 · rename_i b o n c q;split at hn
   · rename_i e s am al aa;obtain ⟨i,zv,hu,hi,ab,rfl,rfl,ai,aq,ad,ae,av⟩:=qq (r:=r) aa;obtain ⟨O,cap,Z,ao,M,_⟩:=ga L;split at hn
     · cases hn;exact ⟨r,undef,w,fY r,.inl (C<|by rw [M]; simp [qQ,ba hu]; rfl),St.refl hr⟩
     · rename_i V;split at hn
       · rename_i l e' fz ex hb;replace hn:=aQ hn; obtain ⟨A,hn⟩:=hn;simp only [aV] at A;obtain ⟨⟨c1,c2⟩,c3,c4⟩:=A;have c1:=bC c1;have c2:=bC c2;cases hn;have E:=pX ad n;have hlen:=cE E;have I:(iU al n).length=n*i.size:=by
          rw [← hlen]; simp [List.length_flatten,ai]
         obtain ⟨cc,fr,aj,aw,ax,ak,a9⟩:=hr.y8 (o:=o) hb c3 c4 Z E (tA ae n) (by rw [I]; exact c1) c2;have J:=run_storeCells_atF P O.ar (O.sh+o) e' fr _ 0 cc w aj U U ak;simp only [iF] at J;rw [I] at a9;refine ⟨r,undef,_,fY r,.inl (C ?_),a9⟩;rw [M];have ac:(As zv.cells n).toList=(dq n zv.cells.toList).flatten:=by
          have :=tv zv.cells U n;have :=congrArg Array.toList this;simpa [As] using this
         have ap:n≠0:=fun h=>V<|by rw [h]
         obtain ⟨m,rfl⟩:∃ m,n=m+1:=⟨n - 1,U⟩
         simp [qQ,ba hu,zeroValue,cG hi,ab,ac,J];rfl
       · cases hn
   · cases hn
 · cases hn
theorem yb {x:AV} {kx:ag} {A:KK} (E:cX A x=true) (C:den r x=some kx):∀ {l:List (AV×AV)} {es:List MapEntry} {j:Nat} {e':MapEntry},eQ r l es→dV A l=true→
 es[j]? =some e'→e'.key=kx→(es.map fun e=>e.key).Nodup→eQ r (js x l) (es.eraseIdx j)
 | [],[],j,e',_,_,hj,_,_=>by simp at hj
 | [],_::_,_,_,hm,_,_,_,_=>hm.elim
 | _::_,[],_,_,hm,_,_,_,_=>hm.elim
 | q::l,e::es,0,e',hm,hk,hj,hk',_=>by
   simp only [dV] at hk;cases h1:cX A q.1
   · rw [h1] at hk; cases hk
   · simp only [gA,bu] at hj;subst hj;simp only [js,(jt h1 E hm.1 C).2 hk',cond_true];exact hm.2.2
 | q::l,e::es,j+1,e',hm,hk,hj,hk',hn=>by
   simp only [dV] at hk;cases h1:cX A q.1
   · rw [h1] at hk; cases hk
   · rw [h1] at hk;simp only [gz] at hj;simp only [fg,Bj] at hn;have he:eM q.1 x=false :=by
      cases hq:eM q.1 x
      · rfl
      · have :=(jt h1 E hm.1 C).1 hq;exact absurd (rf.2 ⟨e',lW hj,hk'.trans this.symm⟩) hn.1
     simp only [js,he,cond_false];exact ⟨hm.1,hm.2.1,yb E C hm.2.2 hk hj hk' hn.2⟩
theorem xJ {x:AV} {kx:ag} {A:KK} (E:cX A x=true) (C:den r x=some kx):∀ {l:List (AV×AV)} {es:List MapEntry},eQ r l es→dV A l=true→(∀ e∈es,e.key≠kx)→js x l=l
 | [],_,_,_,_=>rfl
 | q::l,[],hm,_,_=>hm.elim
 | q::l,e::es,hm,hk,hn=>by
   simp only [dV] at hk;cases h1:cX A q.1
   · rw [h1] at hk; cases hk
   · rw [h1] at hk;have he:eM q.1 x=false :=by
      cases hq:eM q.1 x
      · rfl
      · exact absurd ((jt h1 E hm.1 C).1 hq)<|hn e jP
     simp only [js,he,cond_false,xJ E C hm.2.2 hk (fun e he=>hn e<|jO _ he)]
theorem C6 (hr:HR P G r T h w) {t E:an} {b:Nat} {k v:AV} {h':Hp} (hp:rZ P G t b k h=some (v,h')) (al:den r (.map b)=some (ev N σ x)) (C:den r k=some (ev N σ y)):YM P G r T N σ ⟨dst,.call ⟨.builtin .delete,#[x,y],#[t,E]⟩,ty,pos,af,g⟩ h w v h':=by
 have U:∀ {u:ag} {w':ah},(uF #[t,E] ty #[ev N σ x,ev N σ y]).run P w= .ok u w'→(execOp (ev N σ) ⟨dst,.call ⟨.builtin .delete,#[x,y],#[t,E]⟩,ty,pos,af,g⟩).run P w= .ok (.value u) w':=by
  intro u w' h;simp [execOp,resolve,invoke,builtin,h]
 unfold rZ at hp;split at hp
 · rename_i l hb;split at hp
   · rename_i ap e V;split at hp
     · rename_i am ai;replace hp:=aQ hp; obtain ⟨I,hp⟩:=hp;simp only [aV] at I;obtain ⟨⟨ac,ad⟩,hka,hkl⟩:=I;cases hp;obtain ⟨q,es,c,M,hw,hm,hn⟩:=hr.map hb;obtain ⟨q',O,hu⟩:=kJ al;rw [M] at O; cases O;have A:=sN ai;have hi:=pC hka C;have ae:∀ e∈es.toList,mA am e.key:=pd rfl (pH hm hkl);have aJ:=(ef.1 hw).1;have st:∀ (es':Array MapEntry),eQ r (js k l) es'.toList→(es'.toList.map fun e=>e.key).Nodup→St P G T r h w r ⟨h.t.set b (.map<|js k l),h.nx⟩ {w with heap:=w.heap.setIfInBounds q.ar<|.map es' c} :=fun es' Z aa=>
        hr.jw hb ad M (bC ac) ⟨es',c,by simp only; rw [uD aJ],Z,aa⟩ ⟨rfl,rfl,by simp,fun i _ aj=>by simp only; rw [uC (fun e=>aj e.symm)]⟩
       rcases A.find w (ev N σ y) es.toList hi ae with ⟨h1,ak⟩ | ⟨j,e',h1,L,ab⟩
       · refine ⟨r,undef,_,fY r,.inl (U ?_),st es (by rw [xJ hka C hm hkl ak]; exact hm) hn⟩;rw [hu];simp [uF,ba V,run_getObj_map hw,A.check _ w _ hi,h1,setObj,jG,hw];rfl
       · have ao:=(cJ.1 L).1;have J:(es.eraseIdxIfInBounds j).toList=es.toList.eraseIdx j:=by simp
         refine ⟨r,undef,_,fY r,.inl (U ?_),st (es.eraseIdxIfInBounds j) (by rw [J]; exact yb hka C hm hkl L ab hn) (by
          rw [J];exact List.Nodup.sublist (H6 _<|List.eraseIdx_sublist _ _) hn)⟩
         rw [hu];simp [uF,ba V,run_getObj_map hw,A.check _ w _ hi,h1,setObj,jG,hw];rfl
     · cases hp
   · cases hp
 · cases hp
theorem G3 (hr:HR P G r T h w) {A it:an} {a b v:AV} {h':Hp} (hp:uk P G A a b h=some (v,h')) (aa:den r a=some (ev N σ x)) (ab:den r b=some (ev N σ y)):YM P G r T N σ ⟨dst,.call ⟨.builtin .unsafeString,#[x,y],#[A,it]⟩,ty,pos,af,g⟩ h w v h':=by
 have V:∀ {u:ag} {w':ah},(Builtin.unsafeString_ #[A,it] ty #[ev N σ x,ev N σ y]).run P w= .ok u w'→(execOp (ev N σ) ⟨dst,.call ⟨.builtin .unsafeString,#[x,y],#[A,it]⟩,ty,pos,af,g⟩).run P w= .ok (.value u) w':=by
  intro u w' h;simp [execOp,resolve,invoke,builtin,h]
 have aj:den r (.str [])=some (.string .empty):=rfl;unfold uk at hp;split at hp
 · cases hp;obtain ⟨q,O,hu⟩:=fZ aa;have E:=cm ab;exact ⟨r,_,w,aj,.inl (V<|by rw [hu,E]; exact AM w A it ty _),St.refl hr⟩
 · cases hp;have hu:=mi aa;have E:=cm ab;exact ⟨r,_,w,aj,.inl (V<|by rw [hu,E]; exact AM w A it ty _),St.refl hr⟩
 · rename_i I n _;split at hp
   · rename_i l e fz ex hb;have key:ex≠.a→cond ((ptrTo P A e && (aX n l.length && (az 0 n && az n 1000000000))) && (aX G I && az I bI)) (match lg (l.take n) with
      | some m=>some (AV.str m,(⟨h.t.set I (.cells l e (max fz n) .z),h.nx⟩:Hp))
      | none=>none) none=some (v,h')→YM P G r T N σ ⟨dst,.call ⟨.builtin .unsafeString,#[x,y],#[A,it]⟩,ty,pos,af,g⟩ h w v h':=by
      intro hex hp;replace hp:=aQ hp; obtain ⟨ai,hp⟩:=hp;simp only [aV] at ai;obtain ⟨⟨C,c1,c2,c3⟩,hG,hbm⟩:=ai;have c1:=bC c1;have c2:=bQ.1 c2;have c3:=bQ.1 c3;split at hp
      · rename_i m hm;cases hp;obtain ⟨q,O,cc,fr,us,ac,ad,aB,am,aC,aD,aE,aF⟩:=hr.live I _ hb;have Z:=aE.2 hex;obtain ⟨q',al,hu⟩:=fZ aa;rw [O] at al; cases al;have E:=cm ab;rw [Z] at hu;have aq:=gG n ad;have ae:=ud hm aq;have aG:=cE ad;have L:m.length=n:=by
         have :=congrArg q9 ae;simp [oQ] at this;omega
        unfold ptrTo at C;split at C
        · rename_i e' av;simp only [aV,beq_iff_eq] at C;obtain ⟨rfl,ao⟩:=C;have aA:w.shape? q.ar=some (e',cc.size):=by simp [World.shape?,ac]
          have M:m≠[]:=fun h=>by rw [h] at L; simp at L; omega
          have ap:=Lib.run_unsafeString_row (P:=P) w A it ty e' av ao q.ar cc.size aA m M U U (fun j u aw=>by
           have h1:us[j]? =some (.int .u8 u.toNat):=by
            have :(us.take n)[j]? =some (.int .u8 u.toNat):=by rw [ae]; simp [U8,aw]
            rw [gB] at this;split at this
            · exact this
            · cases this
           rw [eH,hJ,bT ac,b9];have :=am j _ h1;rwa [Z,b9] at this)
          have ak:jI w ⟨q.ar,0,none⟩ m.length= {w with heap:=w.heap.modify q.ar fun
           | .cells c elem (lo,hi)=> .cells c elem (if lo==hi then (0,0 +m.length) else (min lo 0,max hi (0 +m.length)))
           | o=>o} :=by
           unfold jI;rw [if_neg U];rfl
          obtain ⟨lo,hi⟩:=fr;have ay:(jI w ⟨q.ar,0,none⟩ m.length).heap[q.ar]? =some (.cells cc e' (if lo==hi then (0,0 +m.length) else (min lo 0,max hi (0 +m.length)))):=by
           rw [ak];simp only [Ah,if_true,ac];rfl
          refine ⟨r,.string ⟨m.toArray⟩,jI w ⟨q.ar,0,none⟩ m.length,J,.inl (V ?_),hr.jw hb hbm O (bC hG) ?_ ?_⟩
          · rw [hu,E,← L]; exact ap
          · rw [ay];refine ⟨cc,_,us,J,ad,aB,am,?_,aD,⟨(fun h=>by cases h),fun _=>Z⟩,aF⟩;simp only at aC;split <;> simp only <;> omega
          · rw [ak];exact ⟨J,J,by simp,fun k _ ax=>by simp only [Ah]; rw [if_neg (fun e=>ax e.symm)]⟩
        · cases C
      · cases hp
     split at hp
     · cases hp
     · rename_i M;exact key M hp
   · cases hp
 · cases hp
theorem Fj (hr:HR P G r T h w) {o:Op} {xs:List AV} {v:AV} {h':Hp} (A:pQ P G o xs h=some (v,h')) (hT:h'.nx≤T) (I:aB r xs=some ((eR o).map<|ev N σ)):YM P G r T N σ ⟨dst,o,ty,pos,af,g⟩ h w v h':=by
 have two:∀ {a b:AV} {l:List aT},aB r [a,b]=some (l.map<|ev N σ)→∃ x y,l= [x,y]∧den r a=some (ev N σ x)∧den r b=some (ev N σ y):=by
  intro a b l h;have :=cE h;simp at this;obtain ⟨x,y,rfl⟩:∃ x y,l= [x,y]:=by
   match l,this with
   | [x,y],_=>exact ⟨x,y,rfl⟩
  exact ⟨x,y,J,fG h⟩
 have one:∀ {a:AV} {l:List aT},aB r [a]=some (l.map<|ev N σ)→∃ x,l= [x]∧den r a=some (ev N σ x):=by
  intro a l h;have :=cE h;simp at this;obtain ⟨x,rfl⟩:=oC.1 this;exact ⟨x,J,dK h⟩
 unfold pQ at A;split at A
 · rename_i C t ad;split at A
   · obtain ⟨C⟩:=C;obtain ⟨x,y,rfl,E,L⟩:=two I;exact B2 hr A hT E L
   · cases A
 · rename_i C t;split at A
   · obtain ⟨C⟩:=C;obtain ⟨x,rfl,E⟩:=one I;exact Cx hr A E
   · cases A
 · rename_i C t aa;split at A
   · obtain ⟨C⟩:=C;obtain ⟨x,y,rfl,E,L⟩:=two I;exact C6 hr A E L
   · cases A
 · rename_i C ac;obtain ⟨C⟩:=C;split at A
   · cases A;obtain ⟨x,rfl,E⟩:=one I;exact ⟨r,_,w,J,.inl (uj (v:= .nilFunc) (fJ E)<|.inl J),St.refl hr⟩
   · replace A:=aQ A; obtain ⟨O,A⟩:=A;have O:=bQ.1 O;cases A;obtain ⟨x,rfl,E⟩:=one I;obtain ⟨q,cap,Z,hn,hu,_⟩:=ga E;exact ⟨r,_,w,by simp only [den,Z],.inl (uj (v:= .nilFunc) hu<|.inr U),St.refl hr⟩
   · cases A
 · rename_i C ab it;split at A
   · obtain ⟨C⟩:=C;obtain ⟨x,y,rfl,E,L⟩:=two I;exact G3 hr A E L
   · cases A
 · split at A
   · obtain ⟨h1,M⟩:=fG I;exact GN hr A hT h1<|cm M
   · cases A
 · split at A
   · obtain ⟨h1,M,V⟩:=jX I;exact Fb hr A hT h1 (cm M)<|cm V
   · cases A
 · cases A
end
end Go.Hb
namespace Go.Hb
def ie:EX→bc
 | .bM=> .normal
 | .ret=> .ret
 | .ext i=> .exit i
def ib (r:Rn):List AD→List Deferred→Prop
 | [],[]=>True
 | .mark d::l,x::m=>(∃ q,r d=some q∧x= {target:= .collected q.ar,args:= #[]})∧ib r l m
 | .fn f args::l,x::m=>(∃ (a:List ag) (cap A:Array ag),aB r args=some a∧x= {target:= .fn (.func f) cap,args:=A}∧A++cap=a.toArray)∧ib r l m
 | _,_=>False
def nV (r:Rn):Option Nat→Option Nat→Prop
 | none,none=>True
 | some l,some k=> ∃ q,r l=some q∧q.ar=k
 | _,_=>False
theorem kI {r s:Rn} (h:r.le s):∀ {D:List AD} {m:List Deferred},ib r D m→ib s D m
 | [],[],_=>trivial
 | [],_::_,h'=>h'.elim
 | .mark d::l,[],h'=>h'.elim
 | .fn f args::l,[],h'=>h'.elim
 | .mark d::l,x::m,⟨⟨q,h1,h2⟩,h3⟩=>⟨⟨q,h _ _ h1,h2⟩,kI h h3⟩
 | .fn f args::l,x::m,⟨⟨a,cap,as_,h1,h2⟩,h3⟩=>⟨⟨a,cap,as_,fH h h1,h2⟩,kI h h3⟩
theorem yI {r s:Rn} (h:r.le s) {a b:Option Nat} (hr:nV r a b):nV s a b:=by
 cases a <;> cases b
 · trivial
 · exact hr.elim
 · exact hr.elim
 · obtain ⟨q,h1,A⟩:=hr; exact ⟨q,h _ _ h1,A⟩
theorem dr.le {r s:Rn} (h:r.le s) {n:Nat} {fr:Tr AV} {σ:Nat→ag} (A:dr r n fr σ):dr s n fr σ:=fun i hi=>jl h<|A i hi
def cS (P:aq) (G:Nat) (rd:Option Nat) (n:Nat) (W:Option Nat→(bc→Act→ah→Prop)→Act→ah→Prop) (fr:Tr AV) (D:List AD) (h:Hp) (e:EX) (E:Tr AV) (C:List AD) (h':Hp):Prop :=
 h.nx≤h'.nx∧∀ (T:Nat) (r:Rn) (w:ah) (σ:Nat→ag) (Dl:List Deferred) (rr:Option Nat) (Q:bc→Act→ah→Prop),h'.nx≤T→HR P G r T h w→dr r n fr σ→ib r D Dl→nV r rd rr→
  (∀ (r':Rn) (w':ah) (σ':Nat→ag) (A:List Deferred),St P G T r h w r' h' w'→dr r' n E σ'→ib r' C A→Q (ie e) (act ⟨n,A,[],rr⟩ σ') w')→W rr Q (act ⟨n,Dl,[],rr⟩ σ) w
def gX (P:aq) (G:Nat) (f:Nat) (args:List AV) (h:Hp) (v:AV) (h':Hp):Prop :=
 h.nx≤h'.nx∧∀ (T:Nat) (r:Rn) (w:ah) (L:List ag),h'.nx≤T→HR P G r T h w→aB r args=some L→bj P f L.toArray w fun u w'=> ∃ r',den r' v=some u∧St P G T r h w r' h' w'
def rD (P:aq) (G:Nat) (l:Nat) (args:List AV) (h:Hp) (v:AV) (h':Hp):Prop :=
 h.nx≤h'.nx∧∀ (T:Nat) (r:Rn) (w:ah) (L:List ag) (q:Loc),h'.nx≤T→HR P G r T h w→aB r args=some L→r l=some q→YieldAt gS 0 P q.ar L.toArray w fun e w'=> ∃ u r',e= .returned u∧den r' v=some u∧St P G T r h w r' h' w'
def BD (P:aq) (G:Nat) (f:Nat) (args:List AV) (h h':Hp):Prop :=
 h.nx≤h'.nx∧∀ (T:Nat) (r:Rn) (w:ah) (L:List ag),h'.nx≤T→HR P G r T h w→aB r args=some L→CallsDIn gS 0 P f L.toArray .returning w fun e A w'=> ∃ v,e= .returned v∧A= .returning∧∃ r',St P G T r h w r' h' w'
def qI (P:aq) (c:bt) (rr:Option Nat) (Q:bc→Act→ah→Prop) (a:Act) (w:ah):Prop :=
 ∀ (b:Frame) (k:List Item) (cs:List Frame),b.roundOf=(fe rr).round→(fe rr).fn b.fn→(fe rr).room (cs.length+1 +0)→
   ∃ e A w',Q e A w'∧ArrivesIn (Machine.fenced P<|fe rr) P (lone (b.atR a (.code c:: .inLoop c::k)) cs w) b k cs e A w'
def jT (P:aq) (G:Nat):Tk→Rs→Prop
 | .cd rd n c fr D h,.cd e fr' D' h'=>cS P G rd n (fun rr Q a w=>c.wpIn (fe rr) 0 P Q a w) fr D h e fr' D' h'
 | .lp rd n c fr D h,.cd e fr' D' h'=>cS P G rd n (qI P c) fr D h e fr' D' h'
 | .cl f args h,.rv v h'=>gX P G f args h v h'
 | .yl l args h,.rv v h'=>rD P G l args h v h'
 | .df f args h,.rv v h'=>BD P G f args h h'
 | _,.no=>True
 | _,_=>False
def Good (P:aq) (G:Nat) (ih:Tk→Rs):Prop := ∀ t,jT P G t (ih t)
def fX (P:aq) (G:Nat) (X:Xt):Prop := ∀ f e,X f=some e→∀ xs h v h',e xs h=some (v,h')→h.nx≤h'.nx∧∀ (T:Nat) (r:Rn) (w:ah) (us:List ag),h'.nx≤T→HR P G r T h w→aB r xs=some us→
 ∃ r' u w',den r' v=some u∧(callFunc f us.toArray).run P w= .ok (.value u) w'∧St P G T r h w r' h' w'
def eX (P:aq):Prop := ∀ f fn c,P.funcs[f]? =some fn→fn.body=some c→fB P f
section
variable {P:aq} {G:Nat} {r:Rn} {T:Nat} {h:Hp} {w:ah} {N:Fm} {σ:Nat→ag} {dst:Option Nat} {ty:an} {pos :String} {af:Array bX} {g:Option (Nat×Bool)} {x y z:aT} {K:Act→ah→Prop} {Q:bc→Act→ah→Prop}
theorem qH {o:ax} (hn:∀ c,o.op≠.defer c) {u:ag} {w':ah} (hr:(execOp (ev N σ) o).run P w= .ok (.value u) w'∨(execOp (ev N σ) o).run P w= .ok .skip w'∧u=undef) (A:K ((act N σ).put o.dst u) w'):o.wpIn (fe N.r) 0 P (act N σ) w K Q:=by
 refine ⟨fun f _=>j1 _ f,?_⟩;rw [nw,uO _ _ _ hn,cW];rcases hr with hr | ⟨hr,rfl⟩
 · rw [hr]; exact A
 · rw [hr]; exact A
theorem vE {f:Nat} {fo:aT} {first cap:Array ag} {args:Array aT} {A:Array an} (C:ev N σ fo= .func (.func f) first cap):(execOp (ev N σ) ⟨dst,.call ⟨.value fo,args,A⟩,ty,pos,af,g⟩).run P w=(callFunc f<|first++args.map (ev N σ)++cap).run P w:=by
 simp only [execOp,resolve,C,ki,gx,jH,fT,invoke]
end
end Go.Hb
namespace Go.Hb
section
variable {P:aq} {G:Nat} {h:Hp}
theorem iO {o:AO} {h':Hp} (hn:cx h o=some h'):h'.nx=h.nx+1:=by
 unfold cx at hn;replace hn:=aQ hn; obtain ⟨_,hn⟩:=hn;cases hn; rfl
theorem yG {t:an} {b:Nat} {k v:AV} {h':Hp} (hp:mK P t b k v h=some h'):h'.nx=h.nx:=by
 unfold mK at hp;split at hp
 · split at hp
   · split at hp
     · replace hp:=aQ hp; obtain ⟨_,hp⟩:=hp; cases hp; rfl
     · cases hp
   · cases hp
 · cases hp
theorem Gv {t b o:Nat} {v:AV} {h':Hp} (A:n6 P G t b o v h=some h'):h'.nx=h.nx:=by
 unfold n6 at A;split at A
 · split at A
   · replace A:=aQ A; obtain ⟨_,A⟩:=A; cases A; rfl
   · cases A
 · cases A
theorem Fh {o:Op} {xs:List AV} {v:AV} {h':Hp} (A:mH P G o xs h=some (v,h')):h.nx≤h'.nx:=by
 unfold mH at A;split at A
 · split at A
   · split at A
     · replace A:=aQ A; obtain ⟨_,A⟩:=A;split at A
       · rename_i hn; cases A; have :=iO hn; omega
       · cases A
     · cases A
   · cases A
 · split at A
   · replace A:=aQ A; obtain ⟨_,A⟩:=A;split at A
     · rename_i hn; cases A; have :=iO hn; omega
     · cases A
   · cases A
 · split at A
   · rename_i hn; cases A; have :=iO hn; omega
   · cases A
 · split at A
   · replace A:=aQ A; obtain ⟨_,A⟩:=A;split at A
     · replace A:=aQ A; obtain ⟨_,A⟩:=A;split at A
       · rename_i hn; cases A; have :=iO hn; omega
       · cases A
     · cases A
   · cases A
 · split at A
   · split at A
     · replace A:=aQ A; obtain ⟨_,A⟩:=A;split at A
       · rename_i hn; cases A; have :=iO hn; omega
       · cases A
     · cases A
   · cases A
 · split at A
   · split at A
     · rename_i C; cases A; have :=Gv C; omega
     · cases A
   · cases A
 · split at A
   · replace A:=aQ A; obtain ⟨_,A⟩:=A;split at A
     · rename_i hp; cases A; have :=yG hp; omega
     · cases A
   · cases A
 · split at A
   · replace A:=aQ A; obtain ⟨_,A⟩:=A;split at A
     · rename_i hp; cases A; have :=yG hp; omega
     · cases A
   · cases A
 · cases A
end
section
variable {P:aq} {G:Nat} {X:Xt} {ih:Tk→Rs} {n:Nat}
def iH (P:aq) (G:Nat) (o:Op) (xs:List AV) (h:Hp) (v:AV) (h':Hp):Prop :=
 h.nx≤h'.nx∧∀ (T:Nat) (r:Rn) (w:ah) (N:Fm) (σ:Nat→ag) (dst:Option Nat) (ty:an) (pos :String) (af:Array bX) (g:Option (Nat×Bool)) (K:Act→ah→Prop) (Q:bc→Act→ah→Prop),h'.nx≤T→HR P G r T h w→aB r xs=some ((eR o).map<|ev N σ)→
  (∀ (r':Rn) (u:ag) (w':ah),den r' v=some u→St P G T r h w r' h' w'→K ((act N σ).put dst u) w')→(Oper.mk dst o ty pos af g).wpIn (fe N.r) 0 P (act N σ) w K Q
theorem iH.run {o:Op} {xs:List AV} {h h':Hp} {v:AV} (hn:∀ c,o≠.defer c) (L:h.nx≤h'.nx)
 (hr:∀ (T:Nat) (r:Rn) (w:ah) (N:Fm) (σ:Nat→ag) (dst:Option Nat) (ty:an) (pos :String) (af:Array bX) (g:Option (Nat×Bool)),h'.nx≤T→HR P G r T h w→aB r xs=some ((eR o).map<|ev N σ)→YM P G r T N σ ⟨dst,o,ty,pos,af,g⟩ h w v h'):iH P G o xs h v h':=
 ⟨L,fun T r w N σ dst ty pos af g K Q hT I E J=>by
  obtain ⟨r',u,w',h1,A,C⟩:=hr T r w N σ dst ty pos af g hT I E;exact qH hn A (J r' u w' h1 C)⟩
theorem Cp (aj:Good P G ih) (ap:fX P G X) (ao:eX P) (aw:∀ f args h v h',ih (.cl f args h)= .rv v h'→∃ fn c,P.funcs[f]? =some fn∧fn.body=some c) {fo:aT} {I:List aT} {ab:Array an} {f:AV} {args:List AV} {h h':Hp} {v:AV} (C:oY X ih f args h= .v v h'):
 iH P G (.call ⟨.value fo,⟨I⟩,ab⟩) (f::args) h v h':=by
 have ae:∀ c,Op.call ⟨.value fo,⟨I⟩,ab⟩≠.defer c:=fun c e=>by cases e
 unfold oY at C;split at C
 · rename_i f a c;split at C
   · rename_i e he;split at C
     · rename_i v1 h1 ag;cases C;obtain ⟨aa,E⟩:=ap f e he _ _ _ _ ag;refine iH.run ae aa fun T r w N σ dst ty pos af g hT Z U=> ?_;obtain ⟨u,us,A,V,O⟩:=dh U;simp only [eR,fg,jK] at A;obtain ⟨A,rfl⟩:=A;obtain ⟨J,c',ha,ac,rfl⟩:=jZ V;obtain ⟨r',u,w',L,M,am⟩:=E T r w _ hT Z<|ei ha<|ei O ac;refine ⟨r',u,w',L,.inl ?_,am⟩;rw [vE A];have :J.toArray++(⟨I⟩:Array aT).map (ev N σ)++c'.toArray=(J++(I.map (ev N σ)++c')).toArray:=by simp
       rw [this]; exact M
     · cases C
   · split at C
     · rename_i v1 h1 al;cases C;have E:=aj<|.cl f (a++(args++c)) h;rw [al] at E;obtain ⟨aa,E⟩:=E;obtain ⟨fn,cd,ax,aq⟩:=aw _ _ _ _ _ al;have av:=ao f fn cd ax aq;refine ⟨aa,fun T r w N σ dst ty pos af g K Q hT Z U ad=> ?_⟩;obtain ⟨u,us,A,V,O⟩:=dh U;simp only [eR,fg,jK] at A;obtain ⟨A,rfl⟩:=A;obtain ⟨J,c',ha,ac,rfl⟩:=jZ V;have az:=E T r w _ hT Z<|ei ha<|ei O ac;refine ⟨fun f _=>j1 _ f,?_⟩;rw [nw,uO _ _ _ ae,cW,vE A];have :J.toArray++(⟨I⟩:Array aT).map (ev N σ)++c'.toArray=(J++(I.map (ev N σ)++c')).toArray:=by simp
       rw [this,av];simp only [Oper.uponIn_enter];refine ⟨fun h0=>(by rw [pj] at h0; cases h0),CallsIn.mono (sg az) ?_⟩;rintro e w' ⟨u,rfl,r',L,M⟩;exact ad r' u w' L M
     · cases C
 · rename_i l;split at C
   · rename_i v1 h1 aB;cases C;have E:=aj<|.yl l args h;rw [aB] at E;obtain ⟨aa,E⟩:=E;refine ⟨aa,fun T r w N σ dst ty pos af g K Q hT Z U ad=> ?_⟩;obtain ⟨u,us,A,V,O⟩:=dh U;simp only [eR,fg,jK] at A;obtain ⟨A,rfl⟩:=A;obtain ⟨q,ay,rfl⟩:=r5 V;obtain ⟨fn,tmps,ah,ai,aA,ak⟩:=E T r w _ q hT Z O ay;refine ⟨fun f _=>j1 _ f,?_⟩;rw [nw,uO _ _ _ ae,cW];have ag:(execOp (ev N σ) ⟨dst,.call ⟨.value fo,⟨I⟩,ab⟩,ty,pos,af,g⟩).run P w= .ok (.round q.ar fn tmps ah ai) w:=by
      have hm:(⟨I⟩:Array aT).map (ev N σ)=(I.map<|ev N σ).toArray:=by simp
      simp only [execOp,resolve,A,ki,gx,jH,fT,invoke];simp [aA]
     rw [ag];simp only [qV];refine ⟨fun h0=>(by rw [pj] at h0; cases h0),?_⟩;have h1:RoundIn (fe N.r) (0 - 1) P q.ar fn tmps ah ai w fun e w'=> ∃ u r',e= .returned u∧den r' v=some u∧St P G T r h w r' h' w':=by
      cases hr:N.r with
      | none=>exact ak
      | some k=>exact ak
     refine RoundIn.mono h1 ?_;rintro e w' ⟨u,r',rfl,L,M⟩;exact ad r' u w' L M
   · cases C
 · cases C
theorem yz (U:Good P G ih) (V:fX P G X) (O:eX P) (Z:∀ f args h v h',ih (.cl f args h)= .rv v h'→∃ fn c,P.funcs[f]? =some fn∧fn.body=some c) {o:Op} {xs:List AV} {h h':Hp} {v:AV} (A:nQ P G X ih o xs h= .v v h'):iH P G o xs h v h':=by
 unfold nQ at A;split at A
 · rename_i v1 hp;cases A;have E:∀ c,o≠.defer c:=fun c e=>by subst e; simp [kY] at hp
   refine iH.run E (aY _) fun T r w N σ dst ty pos af g hT C I=> ?_;obtain ⟨u,h1,J⟩:=yy (dst:=dst) (ty:=ty) (pos :=pos) (af:=af) (g:=g) hp I;exact ⟨r,u,w,h1,.inl (J w),St.refl C⟩
 · split at A
   · rename_i v1 M;cases A;have E:∀ c,o≠.defer c:=fun c e=>by subst e; simp [gL] at M
     refine iH.run E (aY _) fun T r w N σ dst ty pos af g hT C I=> ?_;obtain ⟨u,h1,J⟩:=yx (dst:=dst) (ty:=ty) (pos :=pos) (af:=af) (g:=g) C M I;exact ⟨r,u,w,h1,.inl J,St.refl C⟩
   · split at A
     · rename_i fo L aa;split at A
       · obtain ⟨L⟩:=L;exact Cp U V O Z A
       · cases A
     · split at A <;> cases A
     · rename_i ab E;split at A
       · rename_i v1 h1 hm;cases A;have E:∀ c,o≠.defer c:=fun c e=>by subst e; simp [mH] at hm
         exact iH.run E (Fh hm) fun T r w N σ dst ty pos af g hT C I=>Fi C hm hT I
       · split at A
         · rename_i v1 h1 hm;cases hle:aX h.nx h1.nx
           · rw [hle] at A; cases A
           rw [hle] at A;cases A;have E:∀ c,o≠.defer c:=fun c e=>by subst e; simp [pQ] at hm
           exact iH.run E (bC hle) fun T r w N σ dst ty pos af g hT C I=>Fj C hm hT I
         · cases A
end
end Go.Hb
namespace Go.Hb
section
variable {P:aq} {G:Nat} {X:Xt} {ih:Tk→Rs} {n:Nat} {r:Rn}
theorem mS {fr C:Tr AV} {d:Option Nat} {v:AV} {u:ag} {σ:Nat→ag} (A:eA n fr d v=some C) (I:dr r n fr σ) (J:den r v=some u):dr r n C (cV σ d u):=by
 cases d with
 | none=>simp only [eA,bu] at A; subst A; exact I
 | some d=>
   simp only [eA] at A;replace A:=aQ A; obtain ⟨E,A⟩:=A;simp only [aV] at E;cases A;intro i hi;simp only [cV,a0,cF,Tr.jo _ _ _ _ E.2];by_cases e:i=d
   · subst e;rw [if_pos rfl,show aD i i=true from by simp]; exact J
   · rw [if_neg e,show aD i d=false from by
      cases hb:aD i d
      · rfl
      · exact absurd (bA hb) e]
     exact I i hi
theorem sy {ops:List ax} {fr:Tr AV} {o:ax} {N:Fm} {σ:Nat→ag} (hg:ij N.n ops fr o.guard= .y) (A:dr r N.n fr σ):iB o (yielded ops.toArray (act N σ).tmps)=true :=by
 unfold ij at hg;split at hg
 · exact eU _ (by assumption) _
 · rename_i j want C;split at hg
   · rename_i L E;split at hg
     · rename_i t I;cases hb:az t N.n
       · rw [hb] at hg; cases hg
       · rw [hb] at hg;simp only [cond_true] at hg;split at hg
         · rename_i b J;cases hbw:(b==want)
           · rw [hbw] at hg; cases hg
           · have h1:=A t<|bQ.1 hb;rw [J] at h1;rw [kg C (by simp [da,E,I]) hb (gH h1),hbw]
         · cases hg
         · cases hg
     · cases hg
   · cases hg
theorem xy {ops:List ax} {fr:Tr AV} {o:ax} {N:Fm} {σ:Nat→ag} (hg:ij N.n ops fr o.guard= .n) (C:dr r N.n fr σ):iB o (yielded ops.toArray (act N σ).tmps)=false :=by
 unfold ij at hg;split at hg
 · cases hg
 · rename_i j want E;split at hg
   · rename_i L I;split at hg
     · rename_i t J;cases hb:az t N.n
       · rw [hb] at hg; cases hg
       · rw [hb] at hg;simp only [cond_true] at hg;split at hg
         · rename_i b A;cases hbw:(b==want)
           · have h1:=C t<|bQ.1 hb;rw [A] at h1;rw [kg E (by simp [da,I,J]) hb (gH h1),hbw]
           · rw [hbw] at hg; cases hg
         · rename_i A;have h1:=C t<|bQ.1 hb;rw [A] at h1;rw [fY] at h1;exact uq E (by simp [da,I,J]) hb (fV h1).symm
         · cases hg
     · cases hg
   · cases hg
theorem nR (ab:Good P G ih) (ac:fX P G X) (aa:eX P) (ad:∀ f args h v h',ih (.cl f args h)= .rv v h'→∃ fn c,P.funcs[f]? =some fn∧fn.body=some c) {rd:Option Nat} {ops:List ax} :∀ {l:List ax} {fr Z:Tr AV} {D V:List AD} {h h':Hp},
 ix P G X ih rd n ops l fr D h= .cd .bM Z V h'→cS P G rd n (fun rr Q a w=>wpListIn (fe rr) 0 P ops.toArray Q l a w) fr D h .bM Z V h'
 | [],fr,Z,D,V,h,h',he=>by
   simp only [ix,Rs.cd.injEq,true_and] at he;obtain ⟨rfl,rfl,rfl⟩:=he;exact ⟨aY _,fun T r w σ Dl rr Q hT E C L O M=>M r w σ Dl (St.refl E) C L⟩
 | o::l,fr,Z,D,V,h,h',he=>by
   simp only [ix] at he;split at he
   · rename_i hg;split at he
     · rename_i xs al;split at he
       · rename_i v h1 A;split at he
         · rename_i aq U;obtain ⟨n1,s1⟩:=yz ab ac aa ad A;obtain ⟨n2,s2⟩:=nR ab ac aa ad he;refine ⟨cH n1 n2,fun T r w σ Dl rr Q hT E C L O M=> ?_⟩;show wpListIn _ _ _ _ _ _ _ _;unfold wpListIn;rw [if_pos (sy (N:=⟨n,Dl,[],rr⟩) hg C)];obtain ⟨d,op,ty,pos,af,g⟩:=o;refine s1 T r w ⟨n,Dl,[],rr⟩ σ d ty pos af g _ Q (cH n2 hT) E (pO E.dT C al) fun r' u w' hu a9=> ?_;rw [dS];exact s2 T r' w' _ Dl rr Q hT a9.hr (mS U (C.le a9.le) hu) (kI a9.le L) (yI a9.le O) fun am an ao ag ak aj ai=>M am an ao ag (a9.trans ak) aj ai
         · cases he
       · rename_i a A;split at he
         · split at he
           · rename_i aq U;obtain ⟨n2,s2⟩:=nR ab ac aa ad he;refine ⟨n2,fun T r w σ Dl rr Q hT E C L O M=> ?_⟩;have aA:rr=none:=by
              cases rr with
              | none=>rfl
              | some k=>exact O.elim
             subst aA;show wpListIn _ _ _ _ _ _ _ _;unfold wpListIn;rw [if_pos (sy (N:=⟨n,Dl,[],none⟩) hg C)];obtain ⟨d,op,ty,pos,af,g⟩:=o;simp only at A al U;have aC:=pO (N:=⟨n,Dl,[],none⟩) E.dT C al;unfold nQ at A;split at A
             · cases A
             · split at A
               · cases A
               · split at A
                 · rename_i fo I ap;split at A
                   · unfold oY at A;split at A
                     · split at A
                       · split at A <;> cases A
                       · split at A <;> cases A
                     · split at A <;> cases A
                     · cases A
                   · cases A
                 · rename_i fo I ap _ _;split at A
                   · rename_i f aD c' args _ _;cases A;obtain ⟨I⟩:=I;obtain ⟨u,us,ae,ay,av⟩:=dh aC;simp only [eR,fg,jK] at ae;obtain ⟨ae,rfl⟩:=ae;obtain ⟨ah,c2,ha,aw,rfl⟩:=jZ ay;refine ⟨fun f _=>trivial,?_⟩;have aB:(execOp (ev ⟨n,Dl,[],none⟩ σ) ⟨d,.defer ⟨.value fo,⟨I⟩,ap⟩,ty,pos,af,g⟩).run P w= .ok (.defer {target:= .fn (.func f) c2.toArray,args:=ah.toArray++(⟨I⟩:Array aT).map (ev ⟨n,Dl,[],none⟩ σ)}) w:=by
                      simp [execOp,resolve,ae,ki]
                     show qV _ _ _ _ _ _ _ (jG P (Oper.semAt (fe none).round _ _) w);rw [nw,Oper.semAt_none,cW,aB];simp only [Oper.uponIn_defer];have az:({(act ⟨n,Dl,[],none⟩ σ) with defers:= {target:=Target.fn (.func f) c2.toArray,args:=ah.toArray++(⟨I⟩:Array aT).map (ev ⟨n,Dl,[],none⟩ σ)} ::(act ⟨n,Dl,[],none⟩ σ).defers} :Act)=act ⟨n,{target:= .fn (.func f) c2.toArray,args:=ah.toArray++(⟨I⟩:Array aT).map (ev ⟨n,Dl,[],none⟩ σ)} ::Dl,[],none⟩ σ:=rfl;rw [az,dS];refine s2 T r w _ _ none Q hT E (mS U C<|fY r) ⟨⟨_,_,_,ei ha (ei av aw),J,by simp⟩,L⟩ O fun am an ao ag ak aj ai=>M am an ao ag ak aj ai
                   · cases A
                 · split at A
                   · cases A
                   · split at A
                     · rename_i ar _;cases hle:aX h.nx ar.nx
                       · rw [hle] at A; cases A
                       · rw [hle] at A; cases A
                     · cases A
           · cases he
         · cases he
       · cases he
     · cases he
   · rename_i hg;split at he
     · rename_i aq U;obtain ⟨n2,s2⟩:=nR ab ac aa ad he;refine ⟨n2,fun T r w σ Dl rr Q hT E C L O M=> ?_⟩;show wpListIn _ _ _ _ _ _ _ _;unfold wpListIn;rw [if_neg (by rw [xy (N:=⟨n,Dl,[],rr⟩) hg C]; simp)];refine ⟨fun f _=>j1 _ f,?_⟩;rw [dS];exact s2 T r w _ Dl rr Q hT E (mS U C<|fY r) L O M
     · cases he
   · cases he
end
end Go.Hb
namespace Go.Hb
section
variable {P:aq} {G:Nat} {X:Xt} {ih:Tk→Rs} {n:Nat} {r:Rn} {T:Nat} {h:Hp} {w:ah}
theorem HR.loop (hr:HR P G r T h w) {l:Nat} {st:LoopState} {E:Option bt} {fr:Tr AV} {ps:List Nat} {aP body:bt} {D:Nat} (M:h.t.get l=some (.loop st E n fr ps aP body D)):
 ∃ q fn A C,r l=some q∧w.heap[q.ar]? =some (.loop {state:=st,pending:=E,fn:=fn,tmps:=A,params:=ps.toArray,assign:=aP,body:=body,defers:=C})∧(∃ x,r D=some x∧x.ar=C)∧A.size=n∧∀ i,i < n→den r (cF fr i)=A[i]? :=by
 obtain ⟨q,O,fn,A,C,h1,I,J,L⟩:=hr.live l _ M;exact ⟨q,fn,A,C,O,h1,I,J,L⟩
theorem HR.tK (hr:HR P G r T h w) {l:Nat} {q:Loc} {st st':LoopState} {E pe':Option bt} {fr:Tr AV} {ps:List Nat} {aP body:bt} {D fn C:Nat} {A:Array ag} (U:h.t.get l=some (.loop st E n fr ps aP body D)) (L:aX G l=true) (hb:az l bI=true) (V:r l=some q)
 (hw:w.heap[q.ar]? =some (.loop {state:=st,pending:=E,fn:=fn,tmps:=A,params:=ps.toArray,assign:=aP,body:=body,defers:=C})) (I:∃ x,r D=some x∧x.ar=C) (Z:A.size=n) (M:∀ i,i < n→den r (cF fr i)=A[i]?):
 St P G T r h w r ⟨h.t.set l (.loop st' pe' n fr ps aP body D),h.nx⟩ (w.putObj q.ar<|.loop {state:=st',pending:=pe',fn:=fn,tmps:=A,params:=ps.toArray,assign:=aP,body:=body,defers:=C}):=by
 have aJ:=(ef.1 hw).1;refine hr.jw U hb V (bC L) ?_ ⟨J,J,by simp [AS],fun k _ O=>AT O⟩;rw [AU aJ];exact ⟨fn,A,C,J,I,Z,M⟩
theorem zd {σ:Nat→ag} :∀ {ps:List Nat} {args:List AV} {L:List ag} {fr A:Tr AV},k9 n ps args fr=some A→dr r n fr σ→aB r args=some L→L.length=ps.length∧dr r n A ((ps.zip L).foldl (fun s p=>a0 s p.1 p.2) σ)
 | [],[],L,fr,A,hs,hf,hd=>by
   simp only [k9,bu] at hs;subst hs;rw [iI hd]; exact ⟨rfl,hf⟩
 | [],_::_,_,_,_,hs,_,_=>by simp [k9] at hs
 | _::_,[],_,_,_,hs,_,_=>by simp [k9] at hs
 | p::ps,v::vs,L,fr,A,hs,hf,hd=>by
   simp only [k9] at hs;split at hs
   · rename_i O h1;obtain ⟨u,us,rfl,E,I⟩:=dh hd;have C:=mS h1 hf E;simp only [cV] at C;obtain ⟨J,M⟩:=zd hs C I;exact ⟨by simp [J],M⟩
   · cases hs
theorem BK (N:Fm) (l:List (Tmp×ag)) (σ:Nat→ag):l.foldl (fun t p=>t.setIfInBounds p.1 p.2) (act N σ).tmps=(act N<|l.foldl (fun s p=>a0 s p.1 p.2) σ).tmps:=BJ N l σ
theorem BI {A:Array ag} {N:Fm} (C:A.size=N.n):A=(act N fun i=>A.getD i undef).tmps:=by
 apply Array.ext_getElem?;intro i;rw [gF];by_cases hi:i < N.n
 · rw [if_pos hi,gw,lH U]; rfl
 · rw [if_neg hi,Array.getElem?_eq_none U]
theorem CI {c:Bool} {p:Rs} {v:AV} {h:Hp} (A:cond c p .no= .rv v h):c=true∧p= .rv v h:=by
 cases c
 · cases A
 · exact ⟨J,A⟩
theorem HQ (aj:Good P G ih) {l:Nat} {args:List AV} {h':Hp} {v:AV} (A:oe G ih l args h= .rv v h'):rD P G l args h v h':=by
 unfold oe at A;split at A
 · rename_i bj n fr ps aP body d aR;split at A
   · rename_i aB aU;split at A
     · rename_i aC h1 aG;have s1:=aj<|.cd (some l) n aP aB [] h;rw [aG] at s1;obtain ⟨n1,s1⟩:=s1;split at A
       · rename_i av m1 aA a3 ay az d1 ak;replace A:=CI A; obtain ⟨E,A⟩:=A;simp only [aV] at E;split at A
         · rename_i e bf I aH;have s2:=aj<|.cd (some l) n body aC [] ⟨h1.t.set l (.loop .busy av m1 aA a3 ay az d1),h1.nx⟩;rw [aH] at s2;obtain ⟨n2,s2⟩:=s2;simp only at n2;split at A
           · rename_i bl aq ai aw ad ae d2 al;have key:∀ (jump:Option bt) (st:LoopState),jump=xh e→st=(if jump.isNone then .ready else .done)→v= .bool jump.isNone→h'=⟨I.t.set l (.loop st jump aq ai aw ad ae d2),I.nx⟩→rD P G l args h v h':=by
              intro jump st aa a9 a2 aQ;subst a2 aQ;refine ⟨cH n1 n2,fun T r w L q hT hr aI ab=> ?_⟩;simp only at hT;obtain ⟨q',fn,C,bo,am,hw,bg,aX,aM⟩:=hr.loop aR;rw [ab] at am; cases am;have aW:=zd (σ:=fun i=>C.getD i undef) aU (fun i hi=>by
               show den r (cF fr i)=some (C.getD i undef);rw [aM i hi,gw,lH U]; rfl) aI
              obtain ⟨hlen,aK⟩:=aW;have aT:=run_yield (P:=P) (args:=L.toArray) hw<|by simpa using hlen
              refine ⟨_,_,_,_,aT,roundIn_of_wpIn (F:=gS) trivial ?_⟩;have a1:((ps.toArray.zip L.toArray).foldl (fun tmps (p:Tmp×ag)=>tmps.setIfInBounds p.1 p.2) C)=(act ⟨n,[],[],some q.ar⟩<|(ps.zip L).foldl (fun s p=>a0 s p.1 p.2) fun i=>C.getD i undef).tmps:=by
               rw [← Ae,Array.toList_zip];simp only [];rw [← BK ⟨n,[],[],some q.ar⟩];rw [← BI (N:=⟨n,[],[],some q.ar⟩) aX]
              have ah:({tmps:=((ps.toArray.zip L.toArray).foldl (fun tmps (p:Tmp×ag)=>tmps.setIfInBounds p.1 p.2) C),defers:= []} :Act)=act ⟨n,[],[],some q.ar⟩ ((ps.zip L).foldl (fun s p=>a0 s p.1 p.2) fun i=>C.getD i undef):=by rw [a1]; rfl
              simp only at ah ⊢;rw [ah];refine s1 T r w _ [] (some q.ar) _ U hr aK trivial ⟨q,ab,J⟩ fun a4 bv ba ac O aL aJ=> ?_;have aF:ac= []:=by cases ac; rfl; exact aJ.elim
              subst aF;obtain ⟨bm,bc,br,bp,M,ao,aD,aY,aN⟩:=O.hr.loop ak;have :=O.le _ _ ab;rw [M] at this; cases this;have ax:=O.hr.tK (st':= .busy) (pe':=av) ak E.1 E.2 M ao aD aY aN;refine ⟨_,run_beginRound ao J,?_⟩;refine s2 T a4 _ ba [] (some q.ar) _ U ax.hr aL trivial ⟨q,M,J⟩ fun a5 a8 bw bb V bi bh=> ?_;obtain ⟨bn,bd,bu,bq,an,ap,aE,aZ,aO⟩:=V.hr.loop al;have :=V.le _ _ M;rw [an] at this; cases this;have a6:=V.hr.tK (st':=st) (pe':=jump) al E.1 E.2 an ap aE aZ aO;have Z:=run_endRound (P:=P) jump ap;simp only at Z;rw [← a9] at Z;have a7:=St.trans (St.trans (St.trans O ax) V) a6;have fin:∃ v w',(Instr.endRound q.ar jump).run P a8= .ok v w'∧∃ u r',(Ending.returned v)= .returned u∧den r' (.bool jump.isNone)=some u∧St P G T r h w r' ⟨I.t.set l (.loop st jump aq ai aw ad ae d2),I.nx⟩ w':=
               ⟨_,_,Z,_,a5,rfl,rfl,a7⟩
              cases e with
              | bM=>subst aa; exact fin
              | ret=>subst aa; exact fin
              | ext i=>subst aa; exact fin
             split at A
             · cases A;exact key none .ready J J J J
             · rename_i aS;cases A;cases e with
               | bM=>exact absurd rfl aS
               | ret=>exact key (some .ret) .done rfl rfl rfl rfl
               | ext i=>exact key (some<|.exit i) .done rfl rfl rfl rfl
           · cases A
         · cases A
       · cases A
     · cases A
   · cases A
 · cases A
end
end Go.Hb
namespace Go.Hb
section
variable {P:aq} {G:Nat} {X:Xt} {ih:Tk→Rs} {n:Nat} {r:Rn} {T:Nat} {h:Hp} {w:ah}
theorem CH {c:Bool} {p:Rs} {e:EX} {fr:Tr AV} {D:List AD} {h:Hp} (A:cond c p .no= .cd e fr D h):c=true∧p= .cd e fr D h:=by
 cases c
 · cases A
 · exact ⟨J,A⟩
theorem wT (aj:Good P G ih) {rd:Option Nat} {fr J:Tr AV} {D I:List AD} {l:Nat} {h':Hp} {e:EX} (he:ml G ih rd n fr D l h= .cd e J I h'):h.nx≤h'.nx∧
 ∀ (T:Nat) (r:Rn) (w:ah) (σ:Nat→ag) (Dl:List Deferred) (rr:Option Nat) (Q:bc→Act→ah→Prop) (q:Loc) (u:ag),h'.nx≤T→HR P G r T h w→r l=some q→dr r n fr σ→ib r D Dl→nV r rd rr→
   (∀ (r':Rn) (w':ah) (σ':Nat→ag) (E:List Deferred),St P G T r h w r' h' w'→dr r' n J σ'→ib r' I E→Q (ie e) (act ⟨n,E,[],rr⟩ σ') w')→rangePost (fe rr) 0 P q.ar Q (act ⟨n,Dl,[],rr⟩ σ) (.returned u) w:=by
 unfold ml at he;split at he
 · rename_i st A m L ps aP body d ab;have key:cond (aX G l && az l bI) (match A with
    | none=>Rs.cd .bM fr D ⟨h.t.set l (.loop .exhausted A m L ps aP body d),h.nx⟩
    | some c=>ih (.cd rd n c fr D ⟨h.t.set l (.loop .exhausted A m L ps aP body d),h.nx⟩)) .no= .cd e J I h'→st≠.busy→h.nx≤h'.nx∧
   ∀ (T:Nat) (r:Rn) (w:ah) (σ:Nat→ag) (Dl:List Deferred) (rr:Option Nat) (Q:bc→Act→ah→Prop) (q:Loc) (u:ag),h'.nx≤T→HR P G r T h w→r l=some q→dr r n fr σ→ib r D Dl→nV r rd rr→
     (∀ (r':Rn) (w':ah) (σ':Nat→ag) (E:List Deferred),St P G T r h w r' h' w'→dr r' n J σ'→ib r' I E→Q (ie e) (act ⟨n,E,[],rr⟩ σ') w')→rangePost (fe rr) 0 P q.ar Q (act ⟨n,Dl,[],rr⟩ σ) (.returned u) w:=by
     intro he a9;obtain ⟨O,he⟩:=CH he;simp only [aV] at O;have run:∀ (r:Rn) (w:ah) (T:Nat) (q:Loc),HR P G r T h w→r l=some q→∃ w',(Instr.endLoop q.ar).run P w= .ok A w'∧St P G T r h w r ⟨h.t.set l (.loop .exhausted A m L ps aP body d),h.nx⟩ w':=by
      intro r w T q hr C;obtain ⟨q',fn,ay,ax,ac,hw,ai,ao,am⟩:=hr.loop ab;rw [C] at ac; cases ac;exact ⟨_,run_endLoop (P:=P) hw a9,hr.tK (st':= .exhausted) (pe':=A) ab O.1 O.2 C hw ai ao am⟩
     cases A with
     | none=>
       cases he;refine ⟨aY _,fun T r w σ Dl rr Q q u hT hr C V U ad Z=> ?_⟩;obtain ⟨w',aa,M⟩:=run r w T q hr C;exact ⟨none,w',aa,Z r w' σ Dl M V U⟩
     | some c=>
       simp only at he;have s1:=aj<|.cd rd n c fr D ⟨h.t.set l (.loop .exhausted (some c) m L ps aP body d),h.nx⟩;rw [he] at s1;obtain ⟨n1,s1⟩:=s1;refine ⟨n1,fun T r w σ Dl rr Q q u hT hr C V U ad Z=> ?_⟩;obtain ⟨w',aa,M⟩:=run r w T q hr C;exact ⟨some c,w',aa,s1 T r w' σ Dl rr Q hT M.hr V U ad fun ap av aw ae aq al ak=>Z ap av aw ae (M.trans aq) al ak⟩
   split at he
   · cases he
   · rename_i an;exact key he an
 · cases he
theorem FB (ac:Good P G ih) (aJ:eX P) (aK:∀ f args h v h',ih (.cl f args h)= .rv v h'→∃ fn c,P.funcs[f]? =some fn∧fn.body=some c) {rd:Option Nat} {g:aT} {ps:List Nat} {aP body:bt} {fr aI:Tr AV} {D aH:List AD} {h':Hp} {e:EX} (he:mN ih G rd n g ps aP body fr D h= .cd e aI aH h'):
 cS P G rd n (fun rr Q a w=>(Code.rangeFunc g ⟨ps⟩ aP body).wpIn (fe rr) 0 P Q a w) fr D h e aI aH h':=by
 unfold mN at he;split at he
 · rename_i f a c hg;split at he
   · split at he
     · rename_i h1 aL;split at he
       · rename_i aj Z;split at he
         · rename_i v aU V;have s1:=ac<|.cl f (a++(.e9 h1.nx::c)) aj;rw [V] at s1;obtain ⟨m1,s1⟩:=s1;obtain ⟨a4,s2⟩:=wT ac he;have bb:=iO aL;have a3:=iO Z;obtain ⟨ai,ah,ax,am⟩:=aK _ _ _ _ _ V;have an:=aJ f ai ah ax am;refine ⟨U,fun T r w σ Dl rr Q hT hr M ap ad ay=> ?_⟩;have aY:rr=none:=by
            cases rr with
            | none=>rfl
            | some k=>exact ad.elim
           subst aY;refine wpIn_rangeFunc ?_;intro fn _;have L:=nP (N:=⟨n,Dl,[],none⟩) hr.dT M hg;obtain ⟨A,c',ha,ao,L⟩:=jZ L;obtain ⟨bh,aM,aB⟩:=hr.cx aL U 0 (w':=w.alloc<|.deferred<|some []) rfl rfl rfl fun r' _ _=>rfl;have aZ:(w.alloc<|.deferred<|some []).heap.size=w.heap.size+1:=World.size_alloc _ _;obtain ⟨ab,O,E⟩:=aB.hr.cx Z U 0 (w':=(w.alloc<|.deferred<|some []).alloc<|.loop {state:= .ready,pending:=none,fn:=fn,tmps:=(act ⟨n,Dl,[],none⟩ σ).tmps,params:=⟨ps⟩,assign:=aP,body:=body,defers:=w.heap.size}) rfl rfl rfl fun r' hle _=>by
            refine ⟨fn,(act ⟨n,Dl,[],none⟩ σ).tmps,w.heap.size,J,⟨_,hle _ _ aM,J⟩,by simp [act],fun i hi=> ?_⟩;rw [gF,if_pos hi];exact jl hle<|jl aB.le<|M i hi
           have aC:=aB.trans E;rw [aZ] at O;have ak:=ei (fH aC.le ha)<|c9 (show den ab (.e9 h1.nx)=some (.func (.yield<|w.heap.size+1) #[] #[]) from by simp only [den,O])<|fH aC.le ao;have az:=s1 T ab _ _ U E.hr ak;refine ⟨w.heap.size+1,[{target:= .collected w.heap.size,args:= #[]}],((w.alloc<|.deferred<|some []).alloc<|.loop {state:= .ready,pending:=none,fn:=fn,tmps:=(act ⟨n,Dl,[],none⟩ σ).tmps,params:=⟨ps⟩,assign:=aP,body:=body,defers:=w.heap.size}),{target:= .fn (.func f) c'.toArray,args:=A.toArray++ #[.func (.yield<|w.heap.size+1) #[] #[]]},((w.alloc<|.deferred<|some []).alloc<|.loop {state:= .ready,pending:=none,fn:=fn,tmps:=(act ⟨n,Dl,[],none⟩ σ).tmps,params:=⟨ps⟩,assign:=aP,body:=body,defers:=w.heap.size}),f,(A++(.func (.yield<|w.heap.size+1) #[] #[]::c')).toArray,_,?_,?_,fun _ _=>trivial,?_,fun h0=>(by cases h0),callsIn_wide.2<|iX az ?_⟩
           · exact run_enterLoop_outer _ _ _ _ _
           · have av:(act ⟨n,Dl,[],none⟩ σ).eval g= .func (.func f) A.toArray c'.toArray:=by rw [cW]; exact L
             simp only [resolve,av];simp [go_sem]
           · have al:A.toArray++ #[.func (.yield<|w.heap.size+1) #[] #[]]++c'.toArray=(A++(.func (.yield<|w.heap.size+1) #[] #[]::c')).toArray:=by simp
             have :=an (A++(.func (.yield<|w.heap.size+1) #[] #[]::c')).toArray<|(w.alloc<|.deferred<|some []).alloc<|.loop {state:= .ready,pending:=none,fn:=fn,tmps:=(act ⟨n,Dl,[],none⟩ σ).tmps,params:=⟨ps⟩,assign:=aP,body:=body,defers:=w.heap.size};simp only [invoke,al];exact this
           · rintro aR aE ⟨u,rfl,ae,_,I⟩;have cR:=aC.trans I;have hm:ae h.nx=some ⟨w.heap.size,0,0⟩:=I.le _ _<|E.le _ _ aM;exact s2 T ae aE σ ({target:= .collected w.heap.size,args:= #[]} ::Dl) none Q ⟨w.heap.size+1,0,0⟩ u hT I.hr (I.le _ _ O) (M.le cR.le) ⟨⟨_,hm,J⟩,kI cR.le ap⟩ trivial fun aA aF aG ag aD aw aq=>ay aA aF aG ag (cR.trans aD) aw aq
         · cases he
       · cases he
     · cases he
   · rename_i bc;split at he
     · rename_i bi bd m0 a8 bf a5 a6 d aW;split at he
       · rename_i aj Z;split at he
         · rename_i v aU V;have s1:=ac<|.cl f (a++(.e9 h.nx::c)) aj;rw [V] at s1;obtain ⟨m1,s1⟩:=s1;obtain ⟨a4,s2⟩:=wT ac he;have a3:=iO Z;obtain ⟨ai,ah,ax,am⟩:=aK _ _ _ _ _ V;have an:=aJ f ai ah ax am;refine ⟨U,fun T r w σ Dl rr Q hT hr M ap ad ay=> ?_⟩;obtain ⟨aQ,rfl⟩:∃ aQ,rr=some aQ:=by
            cases rr with
            | none=>exact ad.elim
            | some k=>exact ⟨k,rfl⟩
           obtain ⟨C,aN,aX⟩:=ad;obtain ⟨bg,a7,bj,aa,aO,a0,aV,ba,a9⟩:=hr.loop aW;rw [aN] at aO; cases aO;subst aX;refine wpIn_rangeFunc ?_;intro fn _;have L:=nP (N:=⟨n,Dl,[],some C.ar⟩) hr.dT M hg;obtain ⟨A,c',ha,ao,L⟩:=jZ L;obtain ⟨ab,O,E⟩:=hr.cx Z U 0 (w':=w.alloc<|.loop {state:= .ready,pending:=none,fn:=fn,tmps:=(act ⟨n,Dl,[],some C.ar⟩ σ).tmps,params:=⟨ps⟩,assign:=aP,body:=body,defers:=aa}) rfl rfl rfl fun r' hle _=>by
            obtain ⟨x,a1,a2⟩:=aV;refine ⟨fn,(act ⟨n,Dl,[],some C.ar⟩ σ).tmps,aa,J,⟨x,hle _ _ a1,a2⟩,by simp [act],fun i hi=> ?_⟩;rw [gF,if_pos hi];exact jl hle<|M i hi
           have ak:=ei (fH E.le ha)<|c9 (show den ab (.e9 h.nx)=some (.func (.yield w.heap.size) #[] #[]) from by simp only [den,O])<|fH E.le ao;have az:=s1 T ab _ _ U E.hr ak;refine ⟨w.heap.size,[],(w.alloc<|.loop {state:= .ready,pending:=none,fn:=fn,tmps:=(act ⟨n,Dl,[],some C.ar⟩ σ).tmps,params:=⟨ps⟩,assign:=aP,body:=body,defers:=aa}),{target:= .fn (.func f) c'.toArray,args:=A.toArray++ #[.func (.yield w.heap.size) #[] #[]]},(w.alloc<|.loop {state:= .ready,pending:=none,fn:=fn,tmps:=(act ⟨n,Dl,[],some C.ar⟩ σ).tmps,params:=⟨ps⟩,assign:=aP,body:=body,defers:=aa}),f,(A++(.func (.yield w.heap.size) #[] #[]::c')).toArray,_,?_,?_,fun aS _=>j1 _ aS,?_,fun h0=>(by cases h0),sg<|iX az ?_⟩
           · exact run_enterLoop_inner a0 _ _ _ _ _
           · have av:(act ⟨n,Dl,[],some C.ar⟩ σ).eval g= .func (.func f) A.toArray c'.toArray:=by rw [cW]; exact L
             simp only [resolve,av];simp [go_sem]
           · have al:A.toArray++ #[.func (.yield w.heap.size) #[] #[]]++c'.toArray=(A++(.func (.yield w.heap.size) #[] #[]::c')).toArray:=by simp
             have :=an (A++(.func (.yield w.heap.size) #[] #[]::c')).toArray<|w.alloc<|.loop {state:= .ready,pending:=none,fn:=fn,tmps:=(act ⟨n,Dl,[],some C.ar⟩ σ).tmps,params:=⟨ps⟩,assign:=aP,body:=body,defers:=aa};simp only [invoke,al];exact this
           · rintro aR aE ⟨u,rfl,ae,_,I⟩;have cR:=E.trans I;exact s2 T ae aE σ _ (some C.ar) Q ⟨w.heap.size,0,0⟩ u hT I.hr (I.le _ _ O) (M.le cR.le) (kI cR.le ap) ⟨C,cR.le _ _ aN,J⟩ fun aA aF aG ag aD aw aq=>ay aA aF aG ag (cR.trans aD) aw aq
         · cases he
       · cases he
     · cases he
 · cases he
theorem tC {N:Fm} {σ:Nat→ag} (hr:HR P G r T h w) {fr:Tr AV} (J:dr r N.n fr σ):∀ {l:List ResultVar} {vs:List AV},gl P N.n fr h l=some vs→∃ us,aB r vs=some us∧(l.mapM<|jz (act N σ).tmps).run P w= .ok us w
 | [],vs,A=>by
   simp only [gl,bu] at A;subst A;exact ⟨[],by simp [aB],by simp⟩
 | .tmp t::l,vs,A=>by
   simp only [gl] at A;split at A
   · rename_i ac E;replace A:=aQ A; obtain ⟨C,A⟩:=A;cases A;obtain ⟨us,h1,L⟩:=tC hr J E;have M:=J t<|bQ.1 C;have U:=iz (P:=P) (w:=w)<|nW (P:=P) (N:=N) (σ:=σ) (w:=w) (t:=t);have I:ev N σ (.tmp t)=σ t:=by simp only [ev,C,cond_true]
     rw [I] at U;exact ⟨σ t::us,c9 M h1,by simp [Bb,U,L]⟩
   · cases A
 | .cell a t::l,vs,A=>by
   simp only [gl] at A;split at A
   · rename_i ac E;replace A:=aQ A; obtain ⟨C,A⟩:=A;split at A
     · rename_i v cT;cases A;obtain ⟨us,h1,L⟩:=tC hr J E;have M:=J a<|bQ.1 C;have I:ev N σ (.tmp a)=σ a:=by simp only [ev,C,cond_true]
       obtain ⟨b,off,u,V,hu,Z⟩:=xT hr cT M;have aa:jg P N σ w (.cell a t) u:=by
        rcases Z with ⟨ha,O⟩ | ⟨m,cs,ha,rfl,E,O⟩
        · exact gN (I.trans V) ha O
        · exact gp (I.trans V) ha E O
       have ab:=iz aa;exact ⟨u::us,c9 hu h1,by simp [Bb,ab,L]⟩
     · cases A
   · cases A
theorem tD {N:Fm} {σ:Nat→ag} {fn:Func} (hr:HR P G r T h w) {fr:Tr AV} (I:dr r N.n fr σ) {vs:List AV} (O:gl P N.n fr h fn.results.toList=some vs):∃ u,den r (k0 vs)=some u∧(results fn (act N σ).tmps).run P w= .ok u w:=by
 obtain ⟨us,h1,E⟩:=tC hr I O;have U:(results fn (act N σ).tmps)=(do let vs ← fn.results.mapM (jz (act N σ).tmps); pure (if h:vs.size=1 then vs[0] else .tuple vs)):=rfl;have C:=cE h1;have A:(fn.results.mapM<|jz (act N σ).tmps).run P w= .ok us.toArray w:=by
  have :fn.results=fn.results.toList.toArray:=by simp
  rw [this,List.mapM_toArray];simp [E]
 rw [U];unfold k0;split
 · obtain ⟨u,rfl⟩:=oC.1 (show us.length=1 from C);exact ⟨u,dK h1,by simp [A]⟩
 · rename_i M;refine ⟨.tuple us.toArray,by simp only [den,h1],?_⟩;have L:us.length≠1:=fun e=>by
    rw [C] at e;obtain ⟨v,rfl⟩:=oC.1 e;exact M v J
   simp [A,L]
end
end Go.Hb
namespace Go.Hb
section
variable {P:aq} {G:Nat} {X:Xt} {ih:Tk→Rs} {n:Nat} {r:Rn} {T:Nat} {h:Hp} {w:ah}
theorem xp:∀ (l:List AV) (k:Nat) (fr:Tr AV) (i:Nat),k+l.length≤1048574→(gd k l fr).get i=if k≤i∧i < k+l.length then l[i - k]? else fr.get i
 | [],k,fr,i,_=>by rw [gd,if_neg (fun h=>by have :=h.1; have :=h.2; simp only [iD] at this; omega)]
 | v::l,k,fr,i,h=>by
   simp only [cZ] at h;rw [gd,xp l (k+1) _ i U,Tr.jo _ _ _ _ (bQ.2 (show k < 1048574 by omega))];by_cases h1:k+1≤i∧i < k+1 +l.length
   · rw [if_pos h1,if_pos (by simp only [cZ]; omega)];obtain ⟨m,hm⟩:∃ m,i - k=m+1:=⟨i - k - 1,U⟩
     rw [hm,gz,show i - (k+1)=m from by omega]
   · rw [if_neg h1];by_cases A:i=k
     · rw [if_pos A,if_pos (by simp only [cZ]; omega),A]; simp
     · rw [if_neg A,if_neg (by simp only [cZ]; omega)]
theorem sr {args:List AV} {L:List ag} (A:aB r args=some L) (hb:aX args.length n=true) (hn:az n bI=true):dr r n (gd 0 args .nil) (cU L):=by
 have hb:=bC hb;have hn:n < 1048574:=bQ.1 hn;have I:=cE A;intro i hi;simp only [cF,xp args 0 .nil i U,cU,jd,true_and,b9,Nat.sub_zero];by_cases h1:i < args.length
 · rw [if_pos h1,bH h1];obtain ⟨u,C,E⟩:=me A<|bH h1;simp only [E,cg,C,gC]
 · rw [if_neg h1,Tr.get_nil];simp only [fY,cg];rw [km U]; rfl
theorem vC {f:FuncId} {args:Array ag} {u:FrameMode} {R A:Ending→FrameMode→ah→Prop} (C:CallsDIn gS 0 P f args u w R) (hr:∀ e u w,R e u w→A e u w):CallsDIn gS 0 P f args u w A:=
 ⟨C.1,fun c cs hu E=>let ⟨e,u',w',fr,h1,h2⟩:=C.2 c cs hu E; ⟨e,u',w',fr,hr _ _ _ h1,h2⟩⟩
theorem Cq {f:FuncId} {fn:Func} {id N d:Nat} {ty:an} {pos :String} {af:Array bX} {rest:List ax} {y:bt} {args:List ag} {R:ah→Prop}
 (I:P.funcs[f]? =some fn) (hb:fn.body=some (.seq (.region id ⟨⟨some d,.call ⟨.builtin .recover,⟨[]⟩,⟨[]⟩⟩,ty,pos,af,none⟩::rest⟩ false) y)) (ad:fn.ntmps=N) (hn:aX args.length N=true)
 (h:wpListIn (fe none) 0 P (⟨some d,.call ⟨.builtin .recover,⟨[]⟩,⟨[]⟩⟩,ty,pos,af,none⟩::rest).toArray (Exit.then (y.wpIn (fe none) 0 P fun e a w=>(e= .normal∨e= .ret)∧a.defers= []∧∃ v,(results fn a.tmps).run P w= .ok v w∧R w) fun _ _ _=>False) rest (act ⟨N,[],[],none⟩<|a0 (cU args) d .nilIface) w):
 CallsDIn gS 0 P f args.toArray .returning w fun e ar w'=> ∃ v,e= .returned v∧ar= .returning∧R w':=by
 subst ad;refine ⟨trivial,fun A cs hu _=> ?_⟩
 let b:Frame:= {(default:Frame) with fn:=f,kind:= .deferred}
 have ae:Frame.enter P f args.toArray .deferred=b.at (act ⟨fn.ntmps,[],[],none⟩<|cU args) [.code (.seq (.region id ⟨⟨some d,.call ⟨.builtin .recover,⟨[]⟩,⟨[]⟩⟩,ty,pos,af,none⟩::rest⟩ false) y)]:=by
  rw [← mU fn args [] hn];simp [Frame.enter,Frame.at,I,hb,b]
 have ap:kn (⟨⟨some d,.call ⟨.builtin .recover,⟨[]⟩,⟨[]⟩⟩,ty,pos,af,none⟩::rest⟩:Array ax).size=0::(ko 1 rest.length):=by
  rw [dG,cZ,List.range_eq_range',List.range'_succ]
 have aj:=wpOpsIn_eq_wpListIn (F:=fe none) (n:=0) (P:=P) (ops:=(⟨some d,.call ⟨.builtin .recover,⟨[]⟩,⟨[]⟩⟩,ty,pos,af,none⟩::rest).toArray) (Q:=Exit.then (y.wpIn (fe none) 0 P fun e a w=>(e= .normal∨e= .ret)∧a.defers= []∧∃ v,(results fn a.tmps).run P w= .ok v w∧R w) fun _ _ _=>False) rest 1 fun j=>by simp [rj]
 rw [← aj] at h;obtain ⟨e,av,w',Z,C⟩:=wp_opsIn _ _ _ h b [.code y] (A::cs) rfl trivial (room_wide _);have C:=(arrivesIn_iff (b:=b) (fun _ _=>stepsIn_wide) rfl).1 C;have am:step P (lone (b.at (act ⟨fn.ntmps,[],[],none⟩<|cU args) (.inRegion (⟨some d,.call ⟨.builtin .recover,⟨[]⟩,⟨[]⟩⟩,ty,pos,af,none⟩::rest).toArray (0::ko 1 rest.length)::[.code y])) (A::cs) w)=
  .next (lone (b.at (act ⟨fn.ntmps,[],[],none⟩<|a0 (cU args) d .nilIface) (.inRegion (⟨some d,.call ⟨.builtin .recover,⟨[]⟩,⟨[]⟩⟩,ty,pos,af,none⟩::rest).toArray (ko 1 rest.length)::[.code y])) (A::cs) w):=by
  have hg:=stepG_op (P:=P) (b:=b) (a:=act ⟨fn.ntmps,[],[],none⟩<|cU args) (k:= [.code y]) (cs:=A::cs) (w:=w) (ops:=(⟨some d,.call ⟨.builtin .recover,⟨[]⟩,⟨[]⟩⟩,ty,pos,af,none⟩::rest).toArray) (i:=0) (rest:=ko 1 rest.length) (o:=⟨some d,.call ⟨.builtin .recover,⟨[]⟩,⟨[]⟩⟩,ty,pos,af,none⟩) rfl (eU _ rfl _);have aq:(execOp (act ⟨fn.ntmps,[],[],none⟩<|cU args).eval ⟨some d,.call ⟨.builtin .recover,⟨[]⟩,⟨[]⟩⟩,ty,pos,af,none⟩).run P w= .ok .recover w:=by
   rw [cW];simp [execOp,resolve,invoke,builtin]
  have ab:=tryRecover_deferred (fr:=b.at (act ⟨fn.ntmps,[],[],none⟩<|cU args) (.inRegion (⟨some d,.call ⟨.builtin .recover,⟨[]⟩,⟨[]⟩⟩,ty,pos,af,none⟩::rest).toArray (0::ko 1 rest.length)::[.code y])) rfl (A::cs);have ak:recoverD (A::cs)=none:=by simp [recoverD,hu]
  have ai:(b.at (act ⟨fn.ntmps,[],[],none⟩<|cU args) (.inRegion (⟨some d,.call ⟨.builtin .recover,⟨[]⟩,⟨[]⟩⟩,ty,pos,af,none⟩::rest).toArray (0::ko 1 rest.length)::[.code y])).finish .nilIface=b.at (act ⟨fn.ntmps,[],[],none⟩<|a0 (cU args) d .nilIface) (.inRegion (⟨some d,.call ⟨.builtin .recover,⟨[]⟩,⟨[]⟩⟩,ty,pos,af,none⟩::rest).toArray (ko 1 rest.length)::[.code y]):=by
   rw [Frame.finish_at];have :=dS ⟨fn.ntmps,[],[],none⟩ (cU args) (some d) .nilIface;simp only [cV] at this;rw [← this]; rfl
  refine step_lone_go ?_;rw [hg,← ai];simp only [Frame.at] at ab ⊢;simp [stepG.apply,aq,ab,ak]
 have O:Steps P (lone (Frame.enter P f args.toArray .deferred) (A::cs) w) (lone (b.at (act ⟨fn.ntmps,[],[],none⟩<|a0 (cU args) d .nilIface) (.inRegion (⟨some d,.call ⟨.builtin .recover,⟨[]⟩,⟨[]⟩⟩,ty,pos,af,none⟩::rest).toArray (ko 1 rest.length)::[.code y])) (A::cs) w):=by
  rw [ae];refine .head step_seq<|.head step_region ?_;rw [ap];exact .one am
 cases e with
 | normal=>
   obtain ⟨aw,L,ac,al,E⟩:=Z b [] (A::cs) rfl trivial (room_wide _);have E:=(arrivesIn_iff (b:=b) (fun _ _=>stepsIn_wide) rfl).1 E;obtain ⟨DW,U,v,aa,M⟩:=al;have V:({A with mode:= .returning} :Frame)=A:=by rw [← hu]
   rcases DW with rfl | rfl
   · refine ⟨.returned v,.returning,ac,{b.at L [] with mode:= .returning},⟨v,J,J,M⟩,?_,J,J,J,U,fn,I,aa⟩;rw [V];exact stepsIn_wide.2<|Steps.trans O<|Steps.trans C<|Steps.trans E<|.one step_end
   · obtain ⟨todo,ao⟩:=E;refine ⟨.returned v,.returning,ac,{b.at L todo with mode:= .returning},⟨v,J,J,M⟩,?_,J,J,J,U,fn,I,aa⟩;rw [V];exact stepsIn_wide.2<|Steps.trans O<|Steps.trans C ao
 | _=>exact Z.elim
theorem sW (M:Good P G ih) (L:eX P) (U:∀ f args h v h',ih (.df f args h)= .rv v h'→∃ fn c,P.funcs[f]? =some fn∧fn.body=some c):∀ {D:List AD} {h h':Hp},ir G ih D h=some h'→h.nx≤h'.nx∧∀ (T:Nat) (r:Rn) (w:ah) (Dl:List Deferred) (fn:Func) (tmps:Array ag) (R:Ending→ah→Prop),
 h'.nx≤T→HR P G r T h w→ib r D Dl→(∀ (r':Rn) (w':ah),St P G T r h w r' h' w'→∃ v,(results fn tmps).run P w'= .ok v w'∧R (.returned v) w')→LeavesInM gS 0 P fn tmps R Dl .returning w
 | [],h,h',he=>by
   simp only [ir,bu] at he;subst he;refine ⟨aY _,fun T r w Dl fn tmps R hT hr A C=> ?_⟩;have :Dl= []:=by cases Dl; rfl; exact A.elim
   subst this;exact C r w<|St.refl hr
 | .mark d::D,h,h',he=>by
   simp only [ir] at he;split at he
   · rename_i Z;replace he:=aQ he; obtain ⟨O,he⟩:=he;simp only [aV] at O;obtain ⟨n1,s1⟩:=sW M L U he;refine ⟨n1,fun T r w Dl fn tmps R hT hr A C=> ?_⟩;cases Dl with
     | nil=>exact A.elim
     | cons x Dl=>
       obtain ⟨⟨q,aa,rfl⟩,A⟩:=A;obtain ⟨q',ab,E⟩:=hr.live d _ Z;rw [aa] at ab; cases ab;have E:w.heap[q.ar]? =some (.deferred<|some []):=E;have aJ:=(ef.1 E).1;have st:St P G T r h w r ⟨h.t.set d (.jm false),h.nx⟩ (w.putObj q.ar<|.deferred none):=
        hr.jw Z O.2 aa (bC O.1) (by rw [AU aJ]; rfl) ⟨rfl,rfl,by simp [AS],fun k _ C=>AT C⟩
       exact ⟨AE,.inl ⟨q.ar,_,J,run_takeDeferred E,s1 T r _ Dl fn tmps R hT st.hr A fun r' w' st'=>C r' w'<|st.trans st'⟩⟩
   · cases he
 | .fn f args::D,h,h',he=>by
   simp only [ir] at he;split at he
   · rename_i v h1 V;have I:=M<|.df f args h;rw [V] at I;obtain ⟨al,I⟩:=I;obtain ⟨ad,ac,ak,ae⟩:=U _ _ _ _ _ V;have ai:=L f ad ac ak ae;obtain ⟨n1,s1⟩:=sW M L U he;refine ⟨cH al n1,fun T r w Dl fn tmps R hT hr A C=> ?_⟩;cases Dl with
     | nil=>exact A.elim
     | cons x Dl=>
       obtain ⟨⟨a,cap,ap,ha,rfl,aj⟩,A⟩:=A;refine ⟨AE,.inr ⟨fun h0=>(by cases h0),.func f,cap,f,a.toArray,J,?_,fun _ _=>trivial,vC (I T r w a (cH n1 hT) hr ha) ?_⟩⟩
       · simp only [invoke,aj];exact ai a.toArray w
       · rintro e aq w' ⟨v,rfl,rfl,r',st⟩;exact s1 T r' w' Dl fn tmps R hT st.hr (kI st.le A) fun am ao an=>C am ao<|st.trans an
   · cases he
def vf (P:aq) (G:Nat) (X:Xt) (ih:Tk→Rs):Prop := ∀ (rd:Option Nat) (n id:Nat) (ops:List ax) (fr:Tr AV) (D:List AD) (h:Hp),match o8 P G X ih n ops fr D h with
 | .cd e C A h'=>cS P G rd n (fun rr Q a w=>(Aw id ⟨ops⟩ true).wpIn (fe rr) 0 P Q a w) fr D h e C A h'
 | .no=>True
 | _=>False
theorem cS.bind {rd:Option Nat} {W W' I:Option Nat→(bc→Act→ah→Prop)→Act→ah→Prop} {fr O U:Tr AV} {D C E:List AD} {h h1 V:Hp} {L M:EX} (s1:cS P G rd n W fr D h L O C h1) (s2:cS P G rd n W' O C h1 M U E V)
 (ac:∀ rr Q a w,W rr (fun e a w=>e=ie L∧W' rr Q a w) a w→I rr Q a w):cS P G rd n I fr D h M U E V:=by
 obtain ⟨n1,s1⟩:=s1;obtain ⟨n2,s2⟩:=s2;refine ⟨cH n1 n2,fun T r w σ Dl rr Q hT hr ai ad Z al=>ac rr Q _ w ?_⟩;exact s1 T r w σ Dl rr _ (cH n2 hT) hr ai ad Z fun am ap ar aa A aj ae=>⟨J,s2 T am ap ar aa rr Q hT A.hr aj ae (yI A.le Z) fun an aq av ab ao ak ag=>al an aq av ab (A.trans ao) ak ag⟩
theorem cS.map {rd:Option Nat} {W W':Option Nat→(bc→Act→ah→Prop)→Act→ah→Prop} {fr I:Tr AV} {D A:List AD} {h h1:Hp} {C E:EX} (s1:cS P G rd n W fr D h C I A h1)
 (M:∀ rr Q a w,W rr (fun e a w=>e=ie C∧Q (ie E) a w) a w→W' rr Q a w):cS P G rd n W' fr D h E I A h1:=by
 obtain ⟨n1,s1⟩:=s1;exact ⟨n1,fun T r w σ Dl rr Q hT hr V O ab aa=>M rr Q _ w<|s1 T r w σ Dl rr _ hT hr V O ab fun ac ae ag L ad Z U=>⟨J,aa ac ae ag L ad Z U⟩⟩
theorem GG (V:Good P G ih) (ac:eX P) (ag:∀ f args h v h',ih (.df f args h)= .rv v h'→∃ fn c,P.funcs[f]? =some fn∧fn.body=some c) (f:Nat) (args:List AV) (h:Hp):jT P G (.cl f args h) (ee P G X ih<|.cl f args h):=by
 show jT P G (.cl f args h) (match P.funcs[f]? with
  | some fn=>match fn.body with
    | some c=>cond (aX args.length fn.ntmps && az fn.ntmps bI) (match ih (.cd none fn.ntmps c (gd 0 args .nil) [] h) with
      | .cd (.ext _) _ _ _=> .no
      | .cd _ fr D h=>match ir G ih D h with
        | some h=>match gl P fn.ntmps fr h fn.results.toList with
          | some vs=> .rv (k0 vs) h
          | none=> .no
        | none=> .no
      | _=> .no) .no
    | none=> .no
  | none=> .no)
 split
 · rename_i fn aj;split
   · rename_i c ad;cases hc:(aX args.length fn.ntmps && az fn.ntmps bI)
     · trivial
     · simp only [cond_true];simp only [aV] at hc;have key:∀ (e:EX) (fr:Tr AV) (D:List AD) (h1 A:Hp) (vs:List AV),(e= .bM∨e= .ret)→ih (.cd none fn.ntmps c (gd 0 args .nil) [] h)= .cd e fr D h1→ir G ih D h1=some A→gl P fn.ntmps fr A fn.results.toList=some vs→jT P G (.cl f args h) (.rv (k0 vs) A):=by
        intro e fr D h1 A vs ah M C E;have O:=V<|.cd none fn.ntmps c (gd 0 args .nil) [] h;rw [M] at O;obtain ⟨al,O⟩:=O;obtain ⟨n1,s1⟩:=sW V ac ag C;refine ⟨cH al n1,fun T r w L hT hr Z=> ?_⟩;have hlen:=cE Z;refine callsIn_wide.1<|callsIn_of_wp_marks (F:=gS) (n:=0) aj ad trivial ?_;rw [mU fn L [] (by rw [hlen]; exact hc.1)];refine O T r w (cU L) [] none _ (cH n1 hT) hr (sr Z hc.1 hc.2) trivial trivial fun am ab ao I aa ai ae=> ?_;have fin:LeavesInM gS 0 P fn (act ⟨fn.ntmps,I,[],none⟩ ao).tmps (fun e w'=> ∃ v,e= .returned v∧∃ r',den r' (k0 vs)=some v∧St P G T r h w r' A w') I .returning ab:=by
         refine s1 T am ab I fn _ _ hT aa.hr ae fun an ap U=> ?_;obtain ⟨u,hu,ak⟩:=tD (N:=⟨fn.ntmps,I,[],none⟩) U.hr (ai.le U.le) E;exact ⟨u,ak,u,J,an,hu,aa.trans U⟩
        rcases ah with rfl | rfl <;> exact fin
       cases M:ih (.cd none fn.ntmps c (gd 0 args .nil) [] h) with
       | no=>trivial
       | rv v h1=>trivial
       | cd e fr D h1=>
         cases e with
         | ext i=>trivial
         | bM=>
           simp only;cases C:ir G ih D h1 with
           | none=>trivial
           | some A=>
             simp only;cases E:gl P fn.ntmps fr A fn.results.toList with
             | none=>trivial
             | some vs=>exact key .bM fr D h1 A vs (.inl rfl) M C E
         | ret=>
           simp only;cases C:ir G ih D h1 with
           | none=>trivial
           | some A=>
             simp only;cases E:gl P fn.ntmps fr A fn.results.toList with
             | none=>trivial
             | some vs=>exact key .ret fr D h1 A vs (.inr rfl) M C E
   · trivial
 · trivial
end
end Go.Hb
namespace Go.Hb
section
variable {P:aq} {G:Nat} {X:Xt} {ih:Tk→Rs} {n:Nat} {r:Rn} {T:Nat} {h:Hp} {w:ah}
theorem GH (Z:Good P G ih) (am:fX P G X) (al:eX P) (ao:∀ f args h v h',ih (.cl f args h)= .rv v h'→∃ fn c,P.funcs[f]? =some fn∧fn.body=some c) (f:Nat) (args:List AV) (h:Hp):jT P G (.df f args h) (ee P G X ih<|.df f args h):=by
 cases hs:ee P G X ih (.df f args h) with
 | no=>trivial
 | cd e fr D h1=>
   exfalso;simp only [ee] at hs;split at hs;rename_i fn ad;split at hs;rename_i c aa;cases hc:(aX args.length fn.ntmps && az fn.ntmps bI);rw [hc] at hs; cases hs;rw [hc] at hs;simp only [cond_true] at hs;split at hs;cases hs;split at hs <;> cases hs;cases hs;cases hs;cases hs
 | rv v h'=>
   simp only [ee] at hs;split at hs;rename_i fn ad;split at hs;rename_i c aa;cases hc:(aX args.length fn.ntmps && az fn.ntmps bI);rw [hc] at hs; cases hs;rw [hc] at hs;simp only [cond_true] at hs;simp only [aV] at hc;split at hs;cases hs;rename_i e aE h1 ae A;split at hs;rename_i vs ag;cases hs;split at A;rename_i id d ty pos af rest y;split at A;rename_i aD aw;split at A;rename_i aj U av;obtain ⟨n1,s1⟩:=nR Z am al ao av;have s2:=Z<|.cd none fn.ntmps y aj [] U;rw [A] at s2;obtain ⟨n2,s2⟩:=s2;refine ⟨cH n1 n2,fun T r w L hT hr I=> ?_⟩;have hlen:=cE I;refine Cq (R:=fun w'=> ∃ r',St P G T r h w r' h' w') ad aa J (by rw [hlen]; exact hc.1) ?_;have aq:=mS aw (sr I hc.1 hc.2) (show den r .cM=some .nilIface from rfl);refine s1 T r w (a0 (cU L) d .nilIface) [] none _ (cH n2 hT) hr aq trivial trivial fun ax ay aB ai ah ar ap=> ?_;refine s2 T ax ay aB ai none _ hT ah.hr ar ap trivial fun O aA aC E C ac ab=> ?_;have V:E= []:=by cases E; rfl; exact ab.elim
   subst V;obtain ⟨u,hu,M⟩:=tD (N:=⟨fn.ntmps,[],[],none⟩) C.hr ac ag;have he:ie e= .normal∨ie e= .ret:=by
    cases e with
    | bM=>exact .inl rfl
    | ret=>exact .inr rfl
    | ext i=>exact (ae i rfl).elim
   exact ⟨he,J,u,M,O,ah.trans C⟩;cases A;cases A;have s2:=Z<|.cd none fn.ntmps c (gd 0 args .nil) [] h;rw [A] at s2;obtain ⟨n2,s2⟩:=s2;refine ⟨n2,fun T r w L hT hr I=> ?_⟩;have hlen:=cE I;have an:=callsDIn_of_wp (F:=gS) (n:=0) (u:= .returning) (w:=w) (args:=L.toArray) (R:=fun e w'=> ∃ v,e= .returned v∧∃ r',St P G T r h w r' h' w') ad aa trivial (by
    rw [mU fn L [] (by rw [hlen]; exact hc.1)];refine s2 T r w (cU L) [] none _ hT hr (sr I hc.1 hc.2) trivial trivial fun O aA aC E C ac ab=> ?_;have V:E= []:=by cases E; rfl; exact ab.elim
    subst V;obtain ⟨u,hu,M⟩:=tD (N:=⟨fn.ntmps,[],[],none⟩) C.hr ac ag;cases e with
    | bM=>exact ⟨rfl,u,M,u,rfl,O,C⟩
    | ret=>exact ⟨rfl,u,M,u,rfl,O,C⟩
    | ext i=>exact (ae i rfl).elim)
   exact vC an fun e aF w' ⟨h1,v,U,ak⟩=>⟨v,U,h1,ak⟩
   cases hs;cases hs;cases hs;cases hs
theorem uu {c:bt} {rr:Option Nat} {Q:bc→Act→ah→Prop} {a:Act} {w:ah} (Z:c.wpIn (fe rr) 0 P (Exit.then (qI P c rr Q) Q) a w):qI P c rr Q a w:=by
 intro b k cs L hb hr;obtain ⟨e,E,I,C,A⟩:=Z b (.inLoop c::k) cs L hb hr;cases e with
 | normal=>
   obtain ⟨U,M,ab,aa,V⟩:=C b k cs L hb hr;exact ⟨U,M,ab,aa,.of_steps (StepsIn.trans A<|.one (fenced_calm hb hr J) stepR_inLoop) V⟩
 | exit id=>exact ⟨.exit id,E,I,C,.pass (x:= .inLoop c) rfl (fun _ _=> .inl<|by simp) A⟩
 | goto l=>exact ⟨.goto l,E,I,C,.pass (x:= .inLoop c) rfl (fun _ _=> .inl<|by simp) A⟩
 | ret=>exact ⟨.ret,E,I,C,.pass (x:= .inLoop c) rfl (fun _ _=> .inl<|by simp) A⟩
 | panic O=>exact ⟨.panic O,E,I,C,.pass (x:= .inLoop c) rfl (fun _ _=> .inl<|by simp) A⟩
 | outgrown=>exact ⟨.outgrown,E,I,C,.pass (x:= .inLoop c) rfl (fun _ _=> .inl<|by simp) A⟩
theorem HK {c:bt} {rr:Option Nat} {Q:bc→Act→ah→Prop} {a:Act} {w:ah} (h:qI P c rr Q a w):(Code.loop c).wpIn (fe rr) 0 P Q a w:=by
 intro b k cs I hb hr;obtain ⟨e,A,w',E,C⟩:=h b k cs I hb hr;exact ⟨e,A,w',E,.of_steps (.one (fenced_calm hb hr J) stepR_loop) C⟩
theorem Good.kG (A:Good P G ih) {rd:Option Nat} {c:bt} {fr:Tr AV} {D:List AD} {h h':Hp} {v:AV} (C:ih (.cd rd n c fr D h)= .rv v h'):False:=by
 have :=A (.cd rd n c fr D h); rw [C] at this; exact this
theorem Good.xZ (A:Good P G ih) {rd:Option Nat} {c:bt} {fr:Tr AV} {D:List AD} {h h':Hp} {v:AV} (C:ih (.lp rd n c fr D h)= .rv v h'):False:=by
 have :=A (.lp rd n c fr D h); rw [C] at this; exact this
theorem GI (A:Good P G ih) (rd:Option Nat) (n:Nat) (c:bt) (fr:Tr AV) (D:List AD) (h:Hp):jT P G (.lp rd n c fr D h) (ee P G X ih<|.lp rd n c fr D h):=by
 simp only [ee];cases hi:ih (.cd rd n c fr D h) with
 | no=>trivial
 | rv v h1=>exact (A.kG hi).elim
 | cd e E C h1=>
   have s1:=A<|.cd rd n c fr D h;rw [hi] at s1;cases e with
   | bM=>
     simp only;have s2:=A<|.lp rd n c E C h1;cases hj:ih (.lp rd n c E C h1) with
     | no=>trivial
     | rv v I=>exact (A.xZ hj).elim
     | cd L M J I=>
       rw [hj] at s2;exact cS.bind s1 s2 fun rr Q a w hw=>uu (wpIn_mono hw fun e a w he=>by
        obtain ⟨rfl,he⟩:=he; exact he)
   | ret=>exact cS.map s1 fun rr Q a w hw=>uu<|wpIn_mono hw fun e a w he=>by obtain ⟨rfl,he⟩:=he; exact he
   | ext i=>exact cS.map s1 fun rr Q a w hw=>uu<|wpIn_mono hw fun e a w he=>by obtain ⟨rfl,he⟩:=he; exact he
theorem cS.here {rd:Option Nat} {W:Option Nat→(bc→Act→ah→Prop)→Act→ah→Prop} {fr:Tr AV} {D:List AD} {h:Hp} {e:EX} (A:∀ rr Q a w,Q (ie e) a w→W rr Q a w):cS P G rd n W fr D h e fr D h:=
 ⟨aY _,fun T r w σ Dl rr Q hT hr E C J I=>A rr Q _ w<|I r w σ Dl (St.refl hr) E C⟩
theorem pR {rd:Option Nat} {ops:List ax} :∀ {l:List ax} {fr:Tr AV} {D:List AD} {h:Hp},(∃ C A h',ix P G X ih rd n ops l fr D h= .cd .bM C A h')∨ix P G X ih rd n ops l fr D h= .no
 | [],fr,D,h=> .inl ⟨fr,D,h,rfl⟩
 | o::l,fr,D,h=>by
   simp only [ix];split
   · split
     · split
       · split
         · exact pR
         · exact .inr J
       · split
         · split
           · exact pR
           · exact .inr J
         · exact .inr J
       · exact .inr J
     · exact .inr J
   · split
     · exact pR
     · exact .inr J
   · exact .inr J
theorem FC (E:Good P G ih) {rd:Option Nat} {g:aT} {ps:List Nat} {aP body:bt} {fr:Tr AV} {D:List AD} {h h':Hp} {v:AV} (A:mN ih G rd n g ps aP body fr D h= .rv v h'):False:=by
 have C:∀ {fr:Tr AV} {D:List AD} {l:Nat} {h:Hp},ml G ih rd n fr D l h= .rv v h'→False:=by
  intro fr D l h A;unfold ml at A;split at A
  · split at A
    · cases A
    · rename_i J m I ps aP body d _ _;cases hc:(aX G l && az l bI)
      · rw [hc] at A; cases A
      · rw [hc] at A;simp only [cond_true] at A;split at A
        · cases A
        · exact E.kG A
  · cases A
 unfold mN at A;split at A
 · split at A
   · split at A
     · split at A
       · split at A
         · exact C A
         · cases A
       · cases A
     · cases A
   · split at A
     · split at A
       · split at A
         · exact C A
         · cases A
       · cases A
     · cases A
 · cases A
theorem GF (A:Good P G ih) (ac:fX P G X) (V:eX P) (ab:vf P G X ih) (Z:∀ f args h v h',ih (.cl f args h)= .rv v h'→∃ fn c,P.funcs[f]? =some fn∧fn.body=some c) (rd:Option Nat) (n:Nat) (c:bt) (fr:Tr AV) (D:List AD) (h:Hp):jT P G (.cd rd n c fr D h) (ee P G X ih<|.cd rd n c fr D h):=by
 cases c with
 | skip =>exact cS.here fun rr Q a w O=>wpIn_skip O
 | region id ops draw=>
   obtain ⟨ops⟩:=ops;simp only [ee];cases draw with
   | true =>
     simp only [cond_true];have :=ab rd n id ops fr D h;split at this
     · rename_i he; rw [he]; exact this
     · rename_i he; rw [he]; trivial
     · exact this.elim
   | false =>
     simp only [cond_false];rcases pR (P:=P) (G:=G) (X:=X) (ih:=ih) (n:=n) (rd:=rd) (ops:=ops) (l:=ops) (fr:=fr) (D:=D) (h:=h) with ⟨ai,ae,h',he⟩ | he
     · rw [he];obtain ⟨n1,s1⟩:=nR A ac V Z he;exact ⟨n1,fun T r w σ Dl rr Q hT hr C J M L=>wpIn_region_lit<|s1 T r w σ Dl rr Q hT hr C J M L⟩
     · rw [he]; trivial
 | seq a b=>
   simp only [ee];cases hi:ih (.cd rd n a fr D h) with
   | no=>trivial
   | rv v h1=>exact (A.kG hi).elim
   | cd e I E h1=>
     have s1:=A<|.cd rd n a fr D h;rw [hi] at s1;cases e with
     | bM=>
       simp only;have s2:=A<|.cd rd n b I E h1;cases hj:ih (.cd rd n b I E h1) with
       | no=>trivial
       | rv v aa=>exact (A.kG hj).elim
       | cd ah aj ag aa=>
         rw [hj] at s2;exact cS.bind s1 s2 fun rr Q a w hw=>wpIn_seq<|wpIn_mono hw fun e a w he=>by obtain ⟨rfl,he⟩:=he; exact he
     | ret=>exact cS.map s1 fun rr Q a w hw=>wpIn_seq<|wpIn_mono hw fun e a w he=>by obtain ⟨rfl,he⟩:=he; exact he
     | ext i=>exact cS.map s1 fun rr Q a w hw=>wpIn_seq<|wpIn_mono hw fun e a w he=>by obtain ⟨rfl,he⟩:=he; exact he
 | cond x a b=>
   simp only [ee];split
   · rename_i U;have s1:=A<|.cd rd n a fr D h;cases hi:ih (.cd rd n a fr D h) with
     | no=>trivial
     | rv v h1=>exact (A.kG hi).elim
     | cd e I E h1=>
       rw [hi] at s1;obtain ⟨n1,s1⟩:=s1;exact ⟨n1,fun T r w σ Dl rr Q hT hr C J M L=>wpIn_cond_true (by rw [cW]; exact gH<|nP (N:=⟨n,Dl,[],rr⟩) hr.dT C U)<|s1 T r w σ Dl rr Q hT hr C J M L⟩
   · rename_i U;have s1:=A<|.cd rd n b fr D h;cases hi:ih (.cd rd n b fr D h) with
     | no=>trivial
     | rv v h1=>exact (A.kG hi).elim
     | cd e I E h1=>
       rw [hi] at s1;obtain ⟨n1,s1⟩:=s1;exact ⟨n1,fun T r w σ Dl rr Q hT hr C J M L=>wpIn_cond_false (by rw [cW]; exact gH<|nP (N:=⟨n,Dl,[],rr⟩) hr.dT C U)<|s1 T r w σ Dl rr Q hT hr C J M L⟩
   · trivial
 | block id c=>
   simp only [ee];cases hi:ih (.cd rd n c fr D h) with
   | no=>trivial
   | rv v h1=>exact (A.kG hi).elim
   | cd e I E h1=>
     have s1:=A<|.cd rd n c fr D h;rw [hi] at s1;cases e with
     | bM=>exact cS.map s1 fun rr Q a w hw=>wpIn_block<|wpIn_mono hw fun e a w he=>by obtain ⟨rfl,he⟩:=he; exact he
     | ret=>exact cS.map s1 fun rr Q a w hw=>wpIn_block<|wpIn_mono hw fun e a w he=>by obtain ⟨rfl,he⟩:=he; exact he
     | ext j=>
       simp only;cases hj:aD j id
       · have ad:j≠id:=fun e=>by subst e; simp at hj
         exact cS.map s1 fun rr Q a w hw=>wpIn_block (wpIn_mono hw fun e a w he=>by
          obtain ⟨rfl,he⟩:=he;simp only [ie,AB,if_neg ad]; exact he)
       · obtain rfl :=bA hj;exact cS.map s1 fun rr Q a w hw=>wpIn_block (wpIn_mono hw fun e a w he=>by
          obtain ⟨rfl,he⟩:=he;simp only [ie,AB,if_true]; exact he)
 | loop c=>
   simp only [ee];cases hi:ih (.lp rd n c fr D h) with
   | no=>trivial
   | rv v h1=>exact (A.xZ hi).elim
   | cd e I E h1=>
     have s1:=A<|.lp rd n c fr D h;rw [hi] at s1;obtain ⟨n1,s1⟩:=s1;exact ⟨n1,fun T r w σ Dl rr Q hT hr C J M L=>HK<|s1 T r w σ Dl rr Q hT hr C J M L⟩
 | rangeFunc g ps aP body=>
   obtain ⟨ps⟩:=ps;simp only [ee];cases hi:mN ih G rd n g ps aP body fr D h with
   | no=>trivial
   | rv v h1=>exact (FC A hi).elim
   | cd e I E h1=>exact FB A V Z hi
 | exit id=>exact cS.here fun rr Q a w O=>wpIn_exit O
 | ret=>exact cS.here fun rr Q a w O=>wpIn_ret O
 | scope c=>trivial
 | label l=>trivial
 | goto l=>trivial
 | refuse s=>trivial
theorem GJ (A:Good P G ih) (l:Nat) (args:List AV) (h:Hp):jT P G (.yl l args h) (ee P G X ih<|.yl l args h):=by
 simp only [ee];cases hi:oe G ih l args h with
 | no=>trivial
 | rv v h1=>exact HQ A hi
 | cd e fr D h1=>
   exfalso;unfold oe at hi;split at hi
   · split at hi
     · split at hi
       · split at hi
         · rename_i L J I M C E d1 _;cases hc:(aX G l && az l bI)
           · rw [hc] at hi; cases hi
           · rw [hc] at hi;simp only [cond_true] at hi;split at hi
             · split at hi
               · split at hi <;> cases hi
               · cases hi
             · cases hi
         · cases hi
       · cases hi
     · cases hi
   · cases hi
end
end Go.Hb
namespace Go.Hb
mutual
theorem mo:∀ {a b:AV},dL a b=true→a=b
 | .bool a,.bool b,h=>by simp only [dL,beq_iff_eq] at h; rw [h]
 | .int k a,.int k' b,h=>by
   simp only [dL] at h;cases hk:aD (c7 k) (c7 k')
   · rw [hk] at h; cases h
   · rw [hk] at h;simp only [cond_true,decide_eq_true_iff] at h;rw [kQ hk,h]
 | .str l,.str m,h=>by simp only [dL,mq,decide_eq_true_iff] at h; rw [h]
 | .ptr b o,.ptr b' o',h=>by
   simp only [dL,aV] at h;rw [bA h.1,bA h.2]
 | .fm,.fm,_=>rfl
 | .sl b o n c x,.sl b' o' n' c' x',h=>by
   simp only [dL,aV,beq_iff_eq] at h;obtain ⟨⟨h1,A⟩,h3,h4,h5⟩:=h;rw [bA h1,bA A,bA h3,bA h4,h5]
 | .au,.au,_=>rfl
 | .map b,.map b',h=>by simp only [dL] at h; rw [bA h]
 | .iP,.iP,_=>rfl
 | .fn f a c,.fn f' a' c',h=>by
   simp only [dL,aV] at h;rw [bA h.1,kK h.2.1,kK h.2.2]
 | .e9 l,.e9 l',h=>by simp only [dL] at h; rw [bA h]
 | .gk,.gk,_=>rfl
 | .ek t v,.ek t' v',h=>by
   simp only [dL,aV] at h;rw [bA h.1,mo h.2]
 | .cM,.cM,_=>rfl
 | .agg l,.agg m,h=>by simp only [dL] at h; rw [kK h]
 | .bG l,.bG m,h=>by simp only [dL] at h; rw [kK h]
theorem kK:∀ {a b:List AV},ic a b=true→a=b
 | [],[],_=>rfl
 | a::l,b::m,h=>by
   simp only [ic] at h;cases hk:dL a b
   · rw [hk] at h; cases h
   · rw [hk] at h; rw [mo hk,kK h]
 | [],_::_,h=>by simp [ic] at h
 | _::_,[],h=>by simp [ic] at h
end
theorem rU {c p:Bool} (h:cond c p false =true):c=true∧p=true :=by
 cases c
 · cases h
 · exact ⟨J,h⟩
theorem ta {t:Nat} :∀ {l:List Nat},nK t l=true↔t∈l
 | []=>by simp [nK]
 | u::l=>by
   simp only [nK,fU];cases hb:aD t u
   · have :t≠u:=fun e=>by subst e; simp at hb
     simp only [cond_false,ta,this,false_or]
   · have :=bA hb;simp [this]
theorem wG {i:Nat} :∀ {l:List bX},ns i l=true→∀ e∈l,cY .any e=true→e.on < i
 | [],_,e,he,_=>by cases he
 | x::l,h,e,he,hb=>by
   simp only [ns] at h;cases hx:(cY .any x && !(az x.on i))
   · rw [hx] at h;rcases fU.1 he with rfl | he
     · rw [hb] at hx;simp only [Bool.true_and,Bool.not_eq_false'] at hx;exact bQ.1 hx
     · exact wG h e he hb
   · rw [hx] at h; cases h
def lZ (ops:List ax) (X:Nat→Prop):Prop := ∀ i o,X i→ops[i]? =some o→∀ e∈o.after.toList,cY .any e=true→X e.on
theorem tj {l:List Nat} {i:Nat} :j8 l i=(l[i]?).getD 0:=by
 unfold j8
 induction l generalizing i with
 | nil=>simp [ju]
 | cons a l ih=>
   cases i with
   | zero=>simp [ju]
   | succ i=>simp [ju,ih]
theorem sZ {acc:List Nat} {j:Nat} :∀ {l:List bX},oK (j6 acc l) j=true→∃ e∈l,cY .any e=true∧e.on < acc.length∧(j=e.on∨oK (j8 acc e.on) j=true)
 | [],h=>by simp [j6] at h
 | e::l,h=>by
   simp only [j6] at h;cases hb:(cY .any e && az e.on acc.length)
   · rw [hb] at h;obtain ⟨e',h1,A⟩:=sZ h;exact ⟨e',jO _ h1,A⟩
   · rw [hb] at h;simp only [aV] at hb;simp only [cond_true] at h;have h':((2 ^ e.on ||| j8 acc e.on) ||| j6 acc l).testBit j=true :=h;simp only [Nat.testBit_or,lJ,Nat.testBit_two_pow,decide_eq_true_iff] at h';rcases h' with (h' | h') | h'
     · exact ⟨e,jP,hb.1,bQ.1 hb.2,.inl h'.symm⟩
     · exact ⟨e,jP,hb.1,bQ.1 hb.2,.inr h'⟩
     · obtain ⟨e',h1,A⟩:=sZ h';exact ⟨e',jO _ h1,A⟩
theorem wq {ops:List ax} {X:Nat→Prop} (A:lZ ops X):∀ (l:List ax) (acc:List Nat),(∀ k,l[k]? =ops[acc.length+k]?)→(∀ i j,i < acc.length→oK (j8 acc i) j=true→j < i∧(X i→X j))→
 ∀ i j,oK (j8 (fI l acc) i) j=true→j < i∧(X i→X j)
 | [],acc,_,ha,i,j,h=>by
   simp only [fI] at h;rcases de i acc.length with hi | hi
   · exact ha i j hi h
   · rw [tj,km hi] at h; simp at h
 | o::l,acc,hl,ha,i,j,h=>by
   simp only [fI] at h;refine wq A l (acc++ [j6 acc o.after.toList]) (fun k=> ?_) (fun i j hi hb=> ?_) i j h
   · have :=hl<|k+1;simp only [gz] at this;rw [this]; congr 1; simp; omega
   · rw [tj] at hb;rcases de i acc.length with h1 | h1
     · rw [eh h1,← tj] at hb; exact ha i j h1 hb
     · have :i=acc.length:=by simp at hi; omega
       subst this;rw [et (aY _)] at hb;simp only [Nat.sub_self,gA,gC] at hb;obtain ⟨e,he,I,aJ,C⟩:=sZ hb;have J:ops[acc.length]? =some o:=by
        have :=hl 0;simpa using this.symm
       rcases C with rfl | C
       · exact ⟨aJ,fun E=>A _ _ E J e he I⟩
       · obtain ⟨M,L⟩:=ha _ _ aJ C;exact ⟨U,fun E=>L<|A _ _ E J e he I⟩
theorem nh {ops:List ax} {X:Nat→Prop} (A:lZ ops X) {i j:Nat} (h:gZ (fI ops []) i j=true):j < i∧(X i→X j):=
 wq A ops [] (fun k=>by simp) (fun i j hi=>by simp at hi) i j h
structure rA (ops:List ax) (dp:List Nat) (i j:Nat) (oi oj:ax):Prop where
 ne:∀ t,oi.dst=some t→oj.dst≠some t
 ap:gZ dp i j=true∨((∀ t,oj.dst=some t→t∉mM ops oi)∧∀ t,oi.dst=some t→t∉mM ops oj)
theorem vH {ops:List ax} {I:List Nat} {i:Nat} {J:ax} :∀ {l:List ax} {b:Nat},oZ ops I i J b l=true→∀ k C,l[k]? =some C→b+k < i→rA ops I i (b+k) J C
 | [],b,_,k,C,hk,_=>by simp at hk
 | o::l,b,h,k,C,hk,aJ=>by
   simp only [oZ] at h;rw [bQ.2 (show b < i by omega)] at h;simp only [cond_true,aV,iW,lJ] at h;cases k with
   | zero=>
     simp only [gA,bu] at hk;subst hk;refine ⟨fun t h1 A=> ?_,?_⟩
     · have :=h.1.1;rw [h1,A] at this;simp [wW] at this
     · rcases h.1.2 with h1 | ⟨h1,A⟩
       · exact .inl h1
       · refine .inr ⟨fun t E hm=> ?_,fun t E hm=> ?_⟩
         · rw [E] at h1; simp only [pI] at h1; rw [ta.2 hm] at h1; cases h1
         · rw [E] at A; simp only [pI] at A; rw [ta.2 hm] at A; cases A
   | succ k=>
     simp only [gz] at hk;have :=vH h.2 k C hk U;rwa [show b+1 +k=b+(k+1) from by omega] at this
theorem rR {ops:List ax} {E:List Nat} :∀ {l:List ax} {b:Nat},mb ops E b l=true→∀ k A,l[k]? =some A→ns (b+k) A.after.toList=true∧∀ j C,ops[j]? =some C→j < b+k→rA ops E (b+k) j A C
 | [],b,_,k,A,hk=>by simp at hk
 | o::l,b,h,k,A,hk=>by
   simp only [mb,aV] at h;cases k with
   | zero=>
     simp only [gA,bu] at hk;subst hk;refine ⟨h.1.1,fun j C I aJ=> ?_⟩;have :=vH h.1.2 j C I U;rwa [b9] at this
   | succ k=>
     simp only [gz] at hk;have :=rR h.2 k A hk;rwa [show b+1 +k=b+(k+1) from by omega] at this
theorem wY {a:Option AV} {v:AV} (h:r7 a v=true):a=some v:=by
 cases a with
 | none=>cases h
 | some a=>rw [mo h]
theorem ys {P:aq} {A:List Nat} {i:Nat} {o:Op} {xs:List AV} {v:AV} :∀ {l:List Rec} {b:Nat},nO P A i o xs v b l=true→∀ k q,l[k]? =some q→
 (q.k= .c→(b+k < i→gZ A i (b+k)=true∨gL P o xs q.hb=some v)∧(¬b+k < i→gZ A (b+k) i=true∨gL P o xs q.ha=some v))∧(q.k= .a→¬b+k < i)
 | [],b,_,k,q,hk=>by simp at hk
 | x::l,b,h,k,q,hk=>by
   simp only [nO] at h;obtain ⟨h1,C⟩:=rU h;cases k with
   | succ k=>
     simp only [gz] at hk;have :=ys C k q hk;rwa [show b+1 +k=b+(k+1) from by omega] at this
   | zero=>
     simp only [gA,bu] at hk;subst hk;rw [iF];refine ⟨fun E=> ?_,fun ha aJ=> ?_⟩
     · rw [E] at h1;simp only at h1;refine ⟨fun aJ=> ?_,fun aJ=> ?_⟩
       · rw [bQ.2 aJ] at h1;simp only [cond_true,lJ] at h1;exact h1.imp id wY
       · have :az b i=false :=by cases hb:az b i; rfl; exact absurd (bQ.1 hb) aJ
         rw [this] at h1;simp only [cond_false,lJ] at h1;exact h1.imp id wY
     · rw [ha,bQ.2 aJ] at h1; cases h1
theorem yr {C:List Nat} {i:Nat} :∀ {l:List Rec} {b:Nat},nN C i b l=true→∀ k q,l[k]? =some q→(q.k= .c∨q.k= .a)→b+k < i→gZ C i (b+k)=true
 | [],b,_,k,q,hk,_,_=>by simp at hk
 | x::l,b,h,k,q,hk,A,aJ=>by
   simp only [nN] at h;obtain ⟨h1,E⟩:=rU h;cases k with
   | succ k=>
     simp only [gz] at hk;have :=yr E k q hk A U;rwa [show b+1 +k=b+(k+1) from by omega] at this
   | zero=>
     simp only [gA,bu] at hk;subst hk;rw [iF] at aJ ⊢;rcases A with A | A <;> (rw [A] at h1; simp only at h1; rw [bQ.2 aJ] at h1; exact h1)
theorem yt {P:aq} {E:List Nat} {rs:List Rec} :∀ {l:List ax} {m:List Rec} {b:Nat},jv P E rs b l m=true→l.length=m.length∧∀ k o q,l[k]? =some o→m[k]? =some q→(q.k= .l→nO P E (b+k) o.op q.xs q.v 0 rs=true)∧(q.k= .c→nN E (b+k) 0 rs=true)
 | [],[],b,_=>⟨rfl,fun k o q A=>by simp at A⟩
 | [],_::_,b,h=>by simp [jv] at h
 | _::_,[],b,h=>by simp [jv] at h
 | o::l,q::m,b,h=>by
   simp only [jv] at h;obtain ⟨h1,J⟩:=rU h;obtain ⟨L,M⟩:=yt J;refine ⟨by simp [L],fun k O q' A C=> ?_⟩;cases k with
   | succ k=>
     simp only [gz] at A C;have :=M k O q' A C;rwa [show b+1 +k=b+(k+1) from by omega] at this
   | zero=>
     simp only [gA,bu] at A C;subst A; subst C;rw [iF];exact ⟨fun I=>by rw [I] at h1; exact h1,fun I=>by rw [I] at h1; exact h1⟩
end Go.Hb
namespace Go.Hb
section
variable {P:aq} {G:Nat} {X:Xt} {ih:Tk→Rs} {n:Nat}
inductive Cl (P:aq) (G:Nat) (o:Op) (q:Rec):Prop
 | p:q.k= .p→kY P o q.xs=some q.v→q.ha=q.hb→Cl P G o q
 | l:q.k= .l→gL P o q.xs q.hb=some q.v→q.ha=q.hb→Cl P G o q
 | a (e:an) (l:List AV):q.k= .a→o= .alloc e→oS P e=some l→cx q.hb (.cells l e 0 .x)=some q.ha→q.v= .ptr q.hb.nx 0→Cl P G o q
 | c:q.k= .c→iH P G o q.xs q.hb q.v q.ha→Cl P G o q
structure l6 (P:aq) (G n:Nat) (ops:List ax) (o:ax) (q:Rec) (fr fr':Tr AV) (h h':Hp):Prop where
 hb:q.hb=h
 ha:q.ha=h'
 set :eA n fr o.dst q.v=some fr'
 run:(ij n ops fr o.guard= .y∧iT G n fr (eR o.op)=some q.xs∧Cl P G o.op q)∨(ij n ops fr o.guard= .n∧q.k= .s∧q.v= .bG []∧q.ha=q.hb)
theorem Fx (J:Good P G ih) (L:fX P G X) (I:eX P) (M:∀ f args h v h',ih (.cl f args h)= .rv v h'→∃ fn c,P.funcs[f]? =some fn∧fn.body=some c) {E:Bool} {o:Op} {xs:List AV} {h:Hp} {q:Rec} (A:tz P G X ih E o xs h=some q):q.xs=xs∧q.hb=h∧Cl P G o q:=by
 unfold tz at A;split at A
 · rename_i v hp; cases A; exact ⟨rfl,rfl,.p rfl hp rfl⟩
 · split at A
   · rename_i v C; cases A; exact ⟨rfl,rfl,.l rfl C rfl⟩
   · split at A
     · rename_i e _ _;split at A
       · rename_i l C;split at A
         · rename_i h' hn; cases A; exact ⟨rfl,rfl,.a e l rfl rfl C hn rfl⟩
         · cases A
       · cases A
     · split at A
       · rename_i v h' O; cases A; exact ⟨rfl,rfl,.c rfl (yz J L I M O)⟩
       · cases A
theorem Cl.nx {o:Op} {q:Rec} (h:Cl P G o q):q.hb.nx≤q.ha.nx:=by
 cases h with
 | p _ _ h=>rw [h]; exact aY _
 | l _ _ h=>rw [h]; exact aY _
 | a e l _ _ _ h _=>have :=iO h; omega
 | c _ h=>exact h.1
theorem l6.nx {ops:List ax} {o:ax} {q:Rec} {fr C:Tr AV} {h h':Hp} (A:l6 P G n ops o q fr C h h'):h.nx≤h'.nx:=by
 rw [← A.hb,← A.ha];rcases A.run with ⟨_,_,h⟩ | ⟨_,_,_,h⟩
 · exact h.nx
 · rw [h]; exact aY _
theorem yL (ab:Good P G ih) (ac:fX P G X) (aa:eX P) (ad:∀ f args h v h',ih (.cl f args h)= .rv v h'→∃ fn c,P.funcs[f]? =some fn∧fn.body=some c) {ops:List ax} {Z:List Nat} :∀ {l:List ax} {i:Nat} {last:Option Nat} {fr C:Tr AV} {h E:Hp} {rs:List Rec},jy P G X ih n ops Z i last l fr h=some (rs,C,E)→
 ∃ (F:Nat→Tr AV) (H:Nat→Hp),F 0=fr∧H 0=h∧F l.length=C∧H l.length=E∧rs.length=l.length∧∀ k o q,l[k]? =some o→rs[k]? =some q→l6 P G n ops o q (F k) (F<|k+1) (H k) (H<|k+1)
 | [],i,last,fr,C,h,E,rs,hr=>by
   simp only [jy,bu,gD] at hr;obtain ⟨rfl,rfl,rfl⟩:=hr;exact ⟨fun _=>fr,fun _=>h,J,J,J,J,J,fun k o q I=>by simp at I⟩
 | o::l,i,last,fr,C,h,E,rs,hr=>by
   have key:∀ (q:Rec) (A:Tr AV) (j:Nat) (la:Option Nat) (gN:List Rec),l6 P G n ops o q fr A h q.ha→jy P G X ih n ops Z j la l A q.ha=some (gN,C,E)→rs=q::gN→
    ∃ (F:Nat→Tr AV) (H:Nat→Hp),F 0=fr∧H 0=h∧F (o::l).length=C∧H (o::l).length=E∧rs.length=(o::l).length∧∀ k O q,(o::l)[k]? =some O→rs[k]? =some q→l6 P G n ops O q (F k) (F<|k+1) (H k) (H<|k+1):=by
    intro q A j la gN ao M ae;obtain ⟨F,H,h1,U,ak,al,am,an⟩:=yL ab ac aa ad M;refine ⟨fun k=>match k with | 0=>fr | k+1=>F k,fun k=>match k with | 0=>h | k+1=>H k,J,J,ak,al,by rw [ae]; simp [am],fun k O q' I L=> ?_⟩;subst ae;cases k with
    | zero=>
      simp only [gA,bu] at I L;subst I; subst L;simp only [h1,U]; exact ao
    | succ k=>exact an k O q' (by simpa using I)<|by simpa using L
   simp only [jy] at hr;split at hr
   · rename_i hg;split at hr
     · rename_i xs ap;split at hr
       · rename_i q L;split at hr
         · rename_i A V;split at hr
           · rename_i gN aj U M;cases hr;obtain ⟨ag,ah,ai⟩:=Fx ab ac aa ad L;exact key q A _ _ gN ⟨ah,J,V,.inl ⟨hg,by rw [ag]; exact ap,ai⟩⟩ M J
           · cases hr
         · cases hr
       · cases hr
     · cases hr
   · rename_i hg;split at hr
     · rename_i A V;split at hr
       · rename_i gN aj U M;cases hr;exact key ⟨.s,[],.bG [],h,h⟩ A _ _ gN ⟨J,J,V,.inr ⟨hg,J,J,J⟩⟩ M J
       · cases hr
     · cases hr
   · cases hr
structure Sq (P:aq) (G n:Nat) (ops:List ax) (rs:List Rec) (F:Nat→Tr AV) (H:Nat→Hp):Prop where
 len:rs.length=ops.length
 line:∀ k o q,ops[k]? =some o→rs[k]? =some q→l6 P G n ops o q (F k) (F<|k+1) (H k) (H<|k+1)
 pair:∀ i j oi oj,ops[i]? =some oi→ops[j]? =some oj→j < i→rA ops (fI ops []) i j oi oj
 De:∀ i o,ops[i]? =some o→∀ e∈o.after.toList,cY .any e=true→e.on < i
theorem zb {fr C:Tr AV} {d:Option Nat} {v:AV} (A:eA n fr d v=some C) (t:Nat):cF C t=if d=some t then v else cF fr t:=by
 cases d with
 | none=>simp only [eA,bu] at A; subst A; simp
 | some d=>
   simp only [eA] at A;replace A:=aQ A; obtain ⟨E,A⟩:=A;simp only [aV] at E;cases A;simp only [cF,Tr.jo _ _ _ _ E.2,bu];by_cases e:t=d
   · subst e; simp
   · rw [if_neg e,if_neg (fun x=>e x.symm)]
variable {ops:List ax} {rs:List Rec} {F:Nat→Tr AV} {H:Nat→Hp}
theorem Sq.get (s:Sq P G n ops rs F H) {i:Nat} {o:ax} (A:ops[i]? =some o):∃ q,rs[i]? =some q:=by
 have :=(cJ.1 A).1;exact ⟨rs[i]'(by rw [s.len]; exact this),bH _⟩
theorem Sq.get' (s:Sq P G n ops rs F H) {i:Nat} {q:Rec} (A:rs[i]? =some q):∃ o,ops[i]? =some o:=by
 have :=(cJ.1 A).1;exact ⟨ops[i]'(by rw [← s.len]; exact this),bH _⟩
theorem Sq.slot (s:Sq P G n ops rs F H) (t:Nat):∀ k,k≤ops.length→(∃ j o q,j < k∧ops[j]? =some o∧o.dst=some t∧rs[j]? =some q∧cF (F k) t=q.v)∨((∀ j o,j < k→ops[j]? =some o→o.dst≠some t)∧cF (F k) t=cF (F 0) t)
 | 0,_=> .inr ⟨fun j o h=>by omega,rfl⟩
 | k+1,hk=>by
   have A:ops[k]? =some (ops[k]'U):=bH _;generalize ops[k]'U=o at A;obtain ⟨q,L⟩:=s.get A;have Z:=s.line k o q A L;rw [zb Z.set t];by_cases e:o.dst=some t
   · rw [if_pos e]; exact .inl ⟨k,o,q,kr _,A,e,L,rfl⟩
   · rw [if_neg e];rcases s.slot t k U with ⟨j,J,q',h1,C,M,O,V⟩ | ⟨h1,C⟩
     · exact .inl ⟨j,J,q',U,C,M,O,V⟩
     · refine .inr ⟨fun j J E I=> ?_,C⟩;rcases Br.1 E with E | rfl
       · exact h1 j J E I
       · rw [A] at I; cases I; exact e
def kB (ops:List ax) (rs:List Rec) (f0:Tr AV) (Y:Nat→Prop) (fx:Tr AV):Prop := ∀ t,(∃ j o q,Y j∧ops[j]? =some o∧o.dst=some t∧rs[j]? =some q∧cF fx t=q.v)∨((∀ j o,Y j→ops[j]? =some o→o.dst≠some t)∧cF fx t=cF f0 t)
theorem kB.set {f0 fx J:Tr AV} {Y:Nat→Prop} (O:kB ops rs f0 Y fx) {i:Nat} {o:ax} {q:Rec} (L:ops[i]? =some o) (M:rs[i]? =some q) (h:eA n fx o.dst q.v=some J):kB ops rs f0 (fun j=>Y j∨j=i) J:=by
 intro t;rw [zb h t];by_cases e:o.dst=some t
 · rw [if_pos e]; exact .inl ⟨i,o,q,.inr rfl,L,e,M,rfl⟩
 · rw [if_neg e];rcases O t with ⟨j,I,q',h1,A⟩ | ⟨h1,A⟩
   · exact .inl ⟨j,I,q',.inl h1,A⟩
   · refine .inr ⟨fun j I C E=> ?_,A⟩;rcases C with C | rfl
     · exact h1 j I C E
     · rw [L] at E; cases E; exact e
theorem FY {fr C:Tr AV} {d:Option Nat} {v:AV} (A:eA n fr d v=some C) (fx:Tr AV):∃ E,eA n fx d v=some E:=by
 cases d with
 | none=>exact ⟨fx,rfl⟩
 | some d=>
   simp only [eA] at A ⊢;replace A:=aQ A; obtain ⟨I,A⟩:=A;rw [I]; exact ⟨_,rfl⟩
theorem Sq.BO (s:Sq P G n ops rs F H) {Y:Nat→Prop} (ag:lZ ops Y) {i:Nat} {o:ax} (Z:ops[i]? =some o) (hi:¬Y i) (hr:lZ ops (fun j=>Y j∨j=i)) {fx:Tr AV} (ab:kB ops rs (F 0) Y fx) {t:Nat} (ac:t∈mM ops o):cF fx t=cF (F i) t:=by
 have ai:=(cJ.1 Z).1;rcases s.slot t i U with ⟨j,O,aj,h1,I,M,ad,ae⟩ | ⟨h1,I⟩
 · have hp:=s.pair i j o O Z I h1;have ah:Y j:=by
    rcases hp.ap with hb | ⟨hb,_⟩
    · rcases (nh hr hb).2 (.inr rfl) with h | h
      · exact h
      · omega
    · exact absurd ac<|hb t M
   rcases ab t with ⟨C,L,q',E,A,J,V,aa⟩ | ⟨E,A⟩
   · have :C=j:=by
      rcases oH C j with aJ | he | aJ
      · exact absurd J<|(s.pair j C O L I A aJ).ne t M
      · exact he
      · exact absurd M<|(s.pair C j L O A I aJ).ne t J
     subst this;rw [ad] at V; cases V;rw [aa,ae]
   · exact absurd M<|E j O ah I
 · rcases ab t with ⟨C,L,q',E,A,J,V,aa⟩ | ⟨E,A⟩
   · exfalso;rcases oH C i with aJ | he | aJ
     · exact h1 C L aJ A J
     · subst he; exact hi E
     · rcases (s.pair C i L o A Z aJ).ap with hb | ⟨_,hb⟩
       · exact hi<|(nh ag hb).2 E
       · exact hb t J ac
   · rw [A,I]
theorem Fg {fr fx:Tr AV} {x:aT} (h:∀ t,x= .tmp t→cF fx t=cF fr t):iS G n fx x=iS G n fr x:=by
 cases x with
 | tmp t=>simp only [iS,h t rfl]
 | const v=>rfl
 | func f=>rfl
 | global g=>rfl
theorem yw {fr fx:Tr AV} :∀ {l:List aT},(∀ t∈mX l,cF fx t=cF fr t)→iT G n fx l=iT G n fr l
 | [],_=>rfl
 | x::l,h=>by
   simp only [iT];rw [Fg (fr:=fr) (fx:=fx) fun t e=>h t (by subst e; simp [mX]),yw (fr:=fr) (fx:=fx) (l:=l) fun t A=>h t (by cases x <;> simp [mX,A])]
theorem DO {fr fx:Tr AV} {g:Option (Nat×Bool)} (h:∀ t∈sA ops g,cF fx t=cF fr t):ij n ops fx g=ij n ops fr g:=by
 unfold ij;cases g with
 | none=>rfl
 | some p=>
   obtain ⟨j,want⟩:=p;simp only;cases hj:ops[j]? with
   | none=>rfl
   | some q=>
     simp only;cases hd:q.dst with
     | none=>rfl
     | some t=>
       simp only;rw [h t (by simp [sA,hj,hd])]
theorem Sq.done (s:Sq P G n ops rs F H) {Y:Nat→Prop} (ac:∀ j,j < ops.length→Y j) {fx:Tr AV} (Z:kB ops rs (F 0) Y fx) (t:Nat):cF fx t=cF (F ops.length) t:=by
 rcases s.slot t ops.length (aY _) with ⟨j,U,ad,h1,E,O,aa,ab⟩ | ⟨h1,E⟩
 · rcases Z t with ⟨C,L,q',I,A,J,M,V⟩ | ⟨I,A⟩
   · have :C=j:=by
      rcases oH C j with aJ | he | aJ
      · exact absurd J<|(s.pair j C U L E A aJ).ne t O
      · exact he
      · exact absurd O<|(s.pair C j L U A E aJ).ne t J
     subst this;rw [aa] at M; cases M;rw [V,ab]
   · exact absurd O<|I j U (ac j h1) E
 · rcases Z t with ⟨C,L,q',I,A,J,M,V⟩ | ⟨I,A⟩
   · exact absurd J<|h1 C L (cJ.1 A).1 A
   · rw [A,E]
theorem Sq.mono (s:Sq P G n ops rs F H) {i:Nat} :∀ {k:Nat},i≤k→k≤ops.length→(H i).nx≤(H k).nx
 | 0,h,_=>by have :i=0:=U
             subst this; exact aY _
 | k+1,h,hk=>by
   rcases de k i with aJ | hle
   · have :i=k+1:=U;subst this; exact aY _
   · have A:ops[k]? =some (ops[k]'U):=bH _;obtain ⟨q,C⟩:=s.get A;exact cH (s.mono hle U) (s.line k _ q A C).nx
theorem BR {e:an} {l:List AV} (ha:oS P e=some l):dm l=true∧∃ us:List ag,(∀ r,aB r l=some us)∧∀ (N:Fm) (σ:Nat→ag) (dst:Option Nat) (ty:an) (pos :String) (af:Array bX) (g:Option (Nat×Bool)) (w:ah),
 (execOp (ev N σ) ⟨dst,.alloc e,ty,pos,af,g⟩).run P w= .ok (.value<|.pointer<|some ⟨w.heap.size,0,none⟩) {w with heap:=w.heap.push<|.cells us.toArray e (0,0)} :=by
 unfold oS at ha;split at ha
 · rename_i J A;split at ha
   · rename_i L E;replace ha:=aQ ha; obtain ⟨C,ha⟩:=ha;cases ha;refine ⟨C,J,fun r=>mD (r:=r) (fun v a=>j9 4) E,fun N σ dst ty pos af g w=> ?_⟩;unfold zeroOf at A;simp only [fA] at A;obtain ⟨i,hi,zv,I,rfl⟩:=A;simp [execOp,qS,zeroValue,cG hi,I,newVar,newRow]
   · cases ha
 · cases ha
end
end Go.Hb
namespace Go.Hb
section
variable {P:aq} {G n T:Nat} {ops:List ax} {rs:List Rec} {F:Nat→Tr AV} {H:Nat→Hp} {r0 r:Rn} {w0 w:ah} {h0:Hp} {Y:Nat→Prop} {lo:Nat}
structure HD (P:aq) (G T:Nat) (ops:List ax) (rs:List Rec) (H:Nat→Hp) (r0:Rn) (w0:ah) (h0:Hp) (Y:Nat→Prop) (lo:Nat) (r:Rn) (w:ah):Prop where
 hi:lo≤rs.length
 lc:∀ j q,rs[j]? =some q→q.k= .c→(Y j↔j < lo)
 la:∀ j q,rs[j]? =some q→q.k= .a→j < lo→Y j
 hr:HR P G r 0 (H lo) w
 new:∀ i,(H lo).nx≤i→i < T→r i=none∨∃ j q,Y j∧lo≤j∧rs[j]? =some q∧q.k= .a∧q.hb.nx=i
 jx:∀ j q,Y j→lo≤j→rs[j]? =some q→q.k= .a→∃ k,r q.hb.nx=some ⟨k,0,0⟩∧w0.heap.size≤k∧(∀ i o q',(H lo).t.get i=some o→r i=some q'→q'.ar≠k)∧
  ∃ e l us,cx q.hb (.cells l e 0 .x)=some q.ha∧(∀ r,aB r l=some us)∧dm l=true∧w.heap[k]? =some (.cells us.toArray e (0,0))
 mJ:∀ j j' q q' x x',Y j→lo≤j→rs[j]? =some q→q.k= .a→Y j'→lo≤j'→rs[j']? =some q'→q'.k= .a→r q.hb.nx=some x→r q'.hb.nx=some x'→x.ar=x'.ar→j=j'
 le:r0.le r
 md:Md (Fr G r0 h0) w0 w
 dk:∀ g,g≤G→∀ k,k < w0.heap.size→Fr g r (H lo) k→Fr g r0 h0 k
 out:∀ i,(H ops.length).nx≤i→r i=r0 i
theorem Sq.fresh (s:Sq P G n ops rs F H) {j:Nat} {q:Rec} (E:rs[j]? =some q) (C:q.k= .a):q.hb=H j∧q.ha=H (j+1)∧(H<|j+1).nx=(H j).nx+1:=by
 obtain ⟨o,I⟩:=s.get' E;have A:=s.line j o q I E;refine ⟨A.hb,A.ha,?_⟩;rw [← A.hb,← A.ha];rcases A.run with ⟨_,_,h⟩ | ⟨_,h,_,_⟩
 · cases h with
   | p h _ _=>rw [C] at h; cases h
   | l h _ _=>rw [C] at h; cases h
   | a e l _ _ _ h _=>exact iO h
   | c h _=>rw [C] at h; cases h
 · rw [C] at h; cases h
theorem Sq.alt (s:Sq P G n ops rs F H) {j i:Nat} {q q':Rec} (J:rs[j]? =some q) (E:q.k= .a) (A:rs[i]? =some q') (I:q'.k= .a) (aJ:j < i):q.hb.nx < q'.hb.nx:=by
 obtain ⟨h1,O,V⟩:=s.fresh J E;obtain ⟨C,L,M⟩:=s.fresh A I;have :=s.mono (i:=j+1) (k:=i) U<|by have :=(cJ.1 A).1; have :=s.len; omega
 rw [h1,C]; omega
theorem Sq.BP (s:Sq P G n ops rs F H) {j i:Nat} {q q':Rec} (E:rs[j]? =some q) (A:q.k= .a) (I:rs[i]? =some q') (C:q'.k= .a) (he:q.hb.nx=q'.hb.nx):j=i:=by
 rcases oH j i with h | h | h
 · have :=s.alt E A I C h; omega
 · exact h
 · have :=s.alt I C E A h; omega
theorem HD.uf (A:HD P G T ops rs H r0 w0 h0 Y lo r w) {q:Rec} (V:rs[lo]? =some q) (he:H (lo+1)=H lo) (ab:q.k≠.c) (ha:q.k≠.a):HD P G T ops rs H r0 w0 h0 Y (lo+1) r w:=by
 have E:∀ j q',rs[j]? =some q'→(q'.k= .c∨q'.k= .a)→j≠lo:=fun j q' E ac e=>by
  subst e; rw [V] at E; cases E;rcases ac with h | h
  · exact ab h
  · exact ha h
 refine ⟨(cJ.1 V).1,fun j q' h1 C=> ?_,fun j q' h1 C O=>A.la j q' h1 C (by have :=E j q' h1 (.inr C); omega),by rw [he]; exact A.hr,fun i h1 C=> ?_,fun j q' h1 C O aa=>by rw [he]; exact A.jx j q' h1 U O aa,fun j ad ae ag x ah L Z I J M ai=>A.mJ j ad ae ag x ah L U I J M U,A.le,A.md,by rw [he]; exact A.dk,A.out⟩
 · rw [A.lc j q' h1 C]; have :=E j q' h1 (.inl C); omega
 · rw [he] at h1;rcases A.new i h1 C with h | ⟨j,q',L,Z,I,J,M⟩
   · exact .inl h
   · exact .inr ⟨j,q',L,by have :=E j q' I (.inr J); omega,I,J,M⟩
theorem HD.G0 (s:Sq P G n ops rs F H) (A:HD P G T ops rs H r0 w0 h0 Y lo r w) {q:Rec} (L:rs[lo]? =some q) (ha:q.k= .a) (aa:Y lo):HD P G T ops rs H r0 w0 h0 Y (lo+1) r w:=by
 obtain ⟨f1,f2,f3⟩:=s.fresh L ha;obtain ⟨k,M,ay,an,e,l,us,hn,ao,h1,hw⟩:=A.jx lo q aa (aY _) L ha;rw [f1] at M;rw [f1,f2] at hn;unfold cx at hn;replace hn:=aQ hn; obtain ⟨V,hn⟩:=hn;simp only [bu] at hn;have az:(H<|lo+1).nx=(H lo).nx+1:=f3;refine ⟨(cJ.1 L).1,fun j q' h1 E=> ?_,fun j q' h1 E aj=> ?_,?_,fun i h1 E=> ?_,fun j q' I ac C J=> ?_,fun j ap ar av x aw I ac C J O ax=>A.mJ j ap ar av x aw I U C J O U,A.le,A.md,?_,A.out⟩
 · rw [A.lc j q' h1 E];have :j≠lo:=fun e=>by subst e; rw [L] at h1; cases h1; rw [ha] at E; cases E
   omega
 · rcases Br.1 aj with h | rfl
   · exact A.la j q' h1 E h
   · exact aa
 · rw [← hn];exact A.hr.put (r':=r) (w':=w) (q:=⟨k,0,0⟩) (Rn.le_refl r) V M (by rw [hw]; exact tq (ao r) h1) (fun _ _ _=>rfl) (fun j aq q' _ ak hr=>an j aq q' ak hr) (jQ _) fun _ _ al=>absurd al<|rk _
 · rcases A.new i U E with h | ⟨j,q',I,ac,C,J,O⟩
   · exact .inl h
   · refine .inr ⟨j,q',I,?_,C,J,O⟩;rcases de lo j with h | h
     · exact h
     · have :j=lo:=U;subst this;rw [L] at C; cases C;rw [f1] at O; omega
 · obtain ⟨ab,ad,ag,ah,ai⟩:=A.jx j q' I U C J;refine ⟨ab,ad,ag,fun i o x hi Z=> ?_,ai⟩;rw [← hn] at hi;simp only [Tr.jo _ _ _ _ V] at hi;split at hi
   · rename_i e; subst e;intro hb;rw [M] at Z; cases Z;have :=A.mJ lo j q q' _ _ aa (aY _) L ha I U C J (by rw [f1]; exact M) ad hb;omega
   · exact ah i o x hi Z
 · intro g hg ab am ae;rw [← hn] at ae;rcases Fr.set V M (Rn.le_refl r) A.hr ae with h | h
   · simp only at h; omega
   · exact A.dk g hg ab am h
theorem HD.up (s:Sq P G n ops rs F H) (E:HD P G T ops rs H r0 w0 h0 Y lo r w) {q:Rec} (A:rs[lo]? =some q) (C:q.k≠.c) (ha:q.k= .a→Y lo):HD P G T ops rs H r0 w0 h0 Y (lo+1) r w:=by
 obtain ⟨o,J⟩:=s.get' A;have I:=s.line lo o q J A;have same:q.ha=q.hb→H (lo+1)=H lo:=fun h=>by rw [← I.hb,← I.ha,h]
 rcases I.run with ⟨_,_,h⟩ | ⟨_,h,_,h'⟩
 · cases h with
   | p h _ h'=>exact E.uf A (same h') C<|by rw [h]; intro h; cases h
   | l h _ h'=>exact E.uf A (same h') C<|by rw [h]; intro h; cases h
   | a e l h _ _ _ _=>exact E.G0 s A h<|ha h
   | c h _=>exact absurd h C
 · exact E.uf A (same h') C<|by rw [h]; intro h; cases h
theorem HD.ug (s:Sq P G n ops rs F H) (A:HD P G T ops rs H r0 w0 h0 Y lo r w):∀ (i:Nat),lo≤i→i≤rs.length→(∀ j q,lo≤j→j < i→rs[j]? =some q→q.k≠.c∧(q.k= .a→Y j))→HD P G T ops rs H r0 w0 h0 Y i r w
 | 0,h,_,_=>by have :lo=0:=U
               subst this; exact A
 | i+1,h,hi,hall=>by
   rcases de i lo with aJ | hle
   · have :lo=i+1:=U;subst this; exact A
   · have h':=HD.ug s A i hle U fun j q a b c=>hall j q a U c;have C:rs[i]? =some (rs[i]'U):=bH _;exact h'.up s C (hall i _ hle (kr _) C).1 (hall i _ hle (kr _) C).2
theorem HD.skip (A:HD P G T ops rs H r0 w0 h0 Y lo r w) {i:Nat} {q:Rec} (ah:rs[i]? =some q) (ae:q.k≠.c) (ha:q.k≠.a):HD P G T ops rs H r0 w0 h0 (fun j=>Y j∨j=i) lo r w:=by
 have C:∀ j q',rs[j]? =some q'→(q'.k= .c∨q'.k= .a)→(Y j∨j=i)→Y j:=fun j q' C ag ai=>by
  rcases ai with h | rfl
  · exact h
  · rw [ah] at C; cases C;rcases ag with h | h
    · exact absurd h ae
    · exact absurd h ha
 refine ⟨A.hi,fun j q' h1 E=> ?_,fun j q' h1 E ad=> .inl (A.la j q' h1 E ad),A.hr,fun i h1 E=> ?_,fun j q' I J L M=>A.jx j q' (C j q' L (.inr M) I) J L M,fun j V Z aa x aj I J L M ab ac O U=>A.mJ j V Z aa x aj (C j Z L (.inr M) I) J L M (C V aa O (.inr U) ab) ac O U,A.le,A.md,A.dk,A.out⟩
 · rw [← A.lc j q' h1 E]; exact ⟨C j q' h1 (.inl E),.inl⟩
 · rcases A.new i h1 E with h | ⟨j,q',I,J⟩
   · exact .inl h
   · exact .inr ⟨j,q',.inl I,J⟩
theorem HR.grow {h:Hp} {r':Rn} {w':ah} (hr:HR P G r 0 h w) (hle:r.le r') (hw:∀ k,k < w.heap.size→w'.heap[k]? =w.heap[k]?):HR P G r' 0 h w':=by
 refine ⟨fun i o hi=> ?_,fun i j o J q q' hi I h1 A he=> ?_,fun i _ h=>absurd h (rk _),hr.dT.le hle,hr.base⟩
 · obtain ⟨q,h1,A⟩:=hr.live i o hi;refine ⟨q,hle _ _ h1,?_⟩;rw [hw _ (hr.lt hi h1)];exact A.le hle
 · obtain ⟨x,C,_⟩:=hr.live i o hi;obtain ⟨L,E,_⟩:=hr.live j J I;rw [hle _ _ C] at h1; cases h1;rw [hle _ _ E] at A; cases A;exact hr.inj i j o J _ _ hi I C E he
theorem HD.early (s:Sq P G n ops rs F H) (A:HD P G T ops rs H r0 w0 h0 Y lo r w) (hT:(H ops.length).nx≤T) {i:Nat} {q:Rec} {e:an} {l:List AV} {us:List ag} (O:rs[i]? =some q) (Z:q.k= .a) (aE:¬Y i) (hn:cx q.hb (.cells l e 0 .x)=some q.ha) (aN:∀ r,aB r l=some us) (h1:dm l=true):
 r.le (r.ext q.hb.nx ⟨w.heap.size,0,0⟩)∧HD P G T ops rs H r0 w0 h0 (fun j=>Y j∨j=i) lo (r.ext q.hb.nx ⟨w.heap.size,0,0⟩) {w with heap:=w.heap.push<|.cells us.toArray e (0,0)} :=by
 obtain ⟨f1,f2,f3⟩:=s.fresh O Z;have aM:i < ops.length:=by rw [← s.len]; exact (cJ.1 O).1
 have aG:lo≤i:=by
  rcases de i lo with h | h
  · exact absurd (A.la i q O Z h) aE
  · exact h
 have m1:=s.mono aG<|Nat.le_of_lt aM;have aO:=s.mono (i:=i+1) (k:=ops.length) U<|aY _;have aK:r q.hb.nx=none:=by
  rw [f1];rcases A.new (H i).nx m1 U with h | ⟨j,q',E,aa,I,ab,M⟩
  · exact h
  · have :=s.BP I ab O Z<|by rw [M,f1]
    subst this; exact absurd E aE
 have hle:=Rn.nH (r:=r) (i:=q.hb.nx) ⟨w.heap.size,0,0⟩ aK;have aF:∀ k,k < w.heap.size→({w with heap:=w.heap.push<|.cells us.toArray e (0,0)} :ah).heap[k]? =w.heap[k]? :=fun k Z=>by
  simp only [qN]; rw [if_neg U]
 have live:∀ j o x,(H lo).t.get j=some o→(r.ext q.hb.nx ⟨w.heap.size,0,0⟩) j=some x→r j=some x:=fun j o x h1 aD=>by
  obtain ⟨ak,C,_⟩:=A.hr.live j o h1;rw [hle _ _ C] at aD; cases aD; exact C
 refine ⟨hle,A.hi,fun j q' C L=> ?_,fun j q' C L ae=> .inl (A.la j q' C L ae),A.hr.grow hle aF,fun aj C L=> ?_,fun j q' E aa I ab=> ?_,fun j aw V ax x ak E aa I ab M al ac am ao ad ap=> ?_,Rn.le_trans A.le hle,Md.trans' A.md (EY w _ fun _=>False) (fun _ _ h=>h.elim),fun g hg k Z aJ=> ?_,fun aj aL=> ?_⟩
 · rw [← A.lc j q' C L];refine ⟨fun h=> ?_,.inl⟩;rcases h with h | rfl
   · exact h
   · rw [O] at C; cases C; rw [Z] at L; cases L
 · by_cases he:aj=q.hb.nx
   · exact .inr ⟨i,q,.inr J,aG,O,Z,he.symm⟩
   · rw [Rn.ig _ _ he];rcases A.new aj C L with h | ⟨j,q',E,aa⟩
     · exact .inl h
     · exact .inr ⟨j,q',.inl E,aa⟩
 · rcases E with E | rfl
   · obtain ⟨k,C,L,ae,e',aH,aI,az,aA,aC,ai⟩:=A.jx j q' E aa I ab;exact ⟨k,hle _ _ C,L,fun i o x hi av=>ae i o x hi (live i o x hi av),e',aH,aI,az,aA,aC,by rw [aF k (ef.1 ai).1]; exact ai⟩
   · rw [O] at I; cases I;refine ⟨w.heap.size,Rn.fj _ _ _,A.md.size,fun i o x hi av=> ?_,e,l,us,hn,aN,h1,by simp⟩;have :=A.hr.lt hi<|live i o x hi av;omega
 · have dk:∀ j V x,Y j→lo≤j→rs[j]? =some V→V.k= .a→(r.ext q.hb.nx ⟨w.heap.size,0,0⟩) V.hb.nx=some x→r V.hb.nx=some x∧x.ar < w.heap.size:=fun j V x c1 c2 c3 aq ay=>by
    obtain ⟨k,C,L,ae,e',aH,aI,az,aA,aC,ai⟩:=A.jx j V c1 c2 c3 aq;rw [hle _ _ C] at ay; cases ay;exact ⟨C,(ef.1 ai).1⟩
   rcases E with E | rfl
   · obtain ⟨c1,c2⟩:=dk j V x E aa I ab ao;rcases M with M | rfl
     · obtain ⟨d1,d2⟩:=dk aw ax ak M al ac am ad;exact A.mJ j aw V ax x ak E aa I ab M al ac am c1 d1 ap
     · rw [O] at ac; cases ac;rw [Rn.fj] at ad; cases ad;simp only at ap; omega
   · rw [O] at I; cases I;rw [Rn.fj] at ao; cases ao;rcases M with M | rfl
     · obtain ⟨d1,d2⟩:=dk aw ax ak M al ac am ad;simp only at ap; omega
     · rfl
 · obtain ⟨j,o,x,c1,c2,c3,aq⟩:=aJ;exact A.dk g hg k Z ⟨j,o,x,c1,c2,live j o x c2 c3,aq⟩
 · rw [Rn.ig _ _ (by rw [f1]; omega)]; exact A.out aj aL
theorem HD.D0 (s:Sq P G n ops rs F H) (A:HD P G T ops rs H r0 w0 h0 Y lo r w) (hT:(H ops.length).nx≤T) {q:Rec} (I:rs[lo]? =some q) (L:q.k= .c):HR P G r (H<|lo+1).nx (H lo) w:=by
 have Z:lo < ops.length:=by rw [← s.len]; exact (cJ.1 I).1
 have aa:=s.mono (i:=lo+1) (k:=ops.length) U<|aY _;refine ⟨A.hr.live,A.hr.inj,fun i h1 V=> ?_,A.hr.dT,A.hr.base⟩;rcases A.new i h1 U with h | ⟨j,q',M,O,C,E,J⟩
 · exact h
 · exfalso;obtain ⟨f1,f2,f3⟩:=s.fresh C E;have :j≠lo:=fun e=>by subst e; rw [I] at C; cases C; rw [L] at E; cases E
   have :=s.mono (i:=lo+1) (k:=j) U<|by have :=(cJ.1 C).1; have :=s.len; omega
   rw [f1] at J; omega
theorem HD.GQ (s:Sq P G n ops rs F H) (A:HD P G T ops rs H r0 w0 h0 Y lo r w) {q:Rec} (al:rs[lo]? =some q) (M:q.k= .c) {r':Rn} {w':ah} (st:St P G (H<|lo+1).nx r (H lo) w r' (H<|lo+1) w'):HD P G T ops rs H r0 w0 h0 (fun j=>Y j∨j=lo) (lo+1) r' w':=by
 have aH:lo < ops.length:=by rw [← s.len]; exact (cJ.1 al).1
 have aD:=s.mono (i:=lo+1) (k:=ops.length) U<|aY _;have ak:∀ j q',rs[j]? =some q'→q'.k= .a→j≠lo:=fun j q' h1 ab e=>by subst e; rw [al] at h1; cases h1; rw [M] at ab; cases ab
 have O:∀ j q',rs[j]? =some q'→q'.k= .a→(Y j∨j=lo)→Y j:=fun j q' h1 ab az=>az.resolve_right<|ak j q' h1 ab;refine ⟨(cJ.1 al).1,fun j q' C J=> ?_,fun j q' C J ai=> ?_,⟨st.hr.live,st.hr.inj,fun i _ h=>absurd h (rk _),st.hr.dT,st.hr.base⟩,fun i C J=> ?_,fun j q' L am E I=> ?_,fun j ac ad ae x aJ L am E I V aG Z aa an ao av=> ?_,Rn.le_trans A.le st.le,Md.trans' A.md st.md (fun k M aj=>A.dk G (aY _) k M aj),fun g hg k M aj=>A.dk g hg k M (st.dk g hg k (kq M A.md.size) aj),fun i hi=>(st.out i<|cH aD hi).trans<|A.out i hi⟩
 · rw [A.lc j q' C J]; omega
 · have :=ak j q' C J;exact .inl<|A.la j q' C J U
 · rw [st.out i C];rcases A.new i (cH st.nx C) J with h | ⟨j,q',L,am,E,I,V⟩
   · exact .inl h
   · have :=ak j q' E I;exact .inr ⟨j,q',.inl L,U,E,I,V⟩
 · obtain ⟨k,C,J,ai,e',aC,aF,aw,ax,ay,aq⟩:=A.jx j q' (O j q' E I L) U E I;have aA:=(ef.1 aq).1;refine ⟨k,st.le _ _ C,J,fun i o x hi aB hb=> ?_,e',aC,aF,aw,ax,ay,st.md.ar aq fun ⟨i,o,x,_,c2,c3,ag⟩=>ai i o x c2 c3 ag⟩;obtain ⟨i2,aE,x2,_,c2,c3,ag⟩:=st.dk 0 (jd _) k aA ⟨i,o,x,jd _,hi,aB,hb⟩;exact ai i2 aE x2 c2 c3 ag
 · obtain ⟨k,C,_⟩:=A.jx j ad (O j ad E I L) U E I;obtain ⟨aI,ap,_⟩:=A.jx ac ae (O ac ae Z aa V) U Z aa;rw [st.le _ _ C] at an; cases an;rw [st.le _ _ ap] at ao; cases ao;exact A.mJ j ac ad ae _ _ (O j ad E I L) U E I (O ac ae Z aa V) U Z aa C ap av
theorem HD.done (s:Sq P G n ops rs F H) (E:HD P G T ops rs H r0 w0 (H 0) Y lo r w) (hT:(H ops.length).nx≤T) (I:∀ j,j < ops.length→Y j):St P G T r0 (H 0) w0 r (H ops.length) w:=by
 have A:=E.ug s ops.length (by have :=E.hi; rw [s.len] at this; exact this) (by rw [s.len]; exact aY _) fun j q h1 C L=>⟨fun M=>by have :=(E.lc j q L M).1 (I j C); omega,fun _=>I j C⟩
 refine ⟨A.le,⟨A.hr.live,A.hr.inj,fun i h1 C=> ?_,A.hr.dT,A.hr.base⟩,s.mono (jd _) (aY _),A.md,A.dk,A.out⟩;rcases A.new i h1 C with h | ⟨j,q',O,U,J,V,Z⟩
 · exact h
 · have :=(cJ.1 J).1; have :=s.len; omega
theorem HD.start (s:Sq P G n ops rs F H) (hr:HR P G r0 T (H 0) w0) (A:∀ j,¬Y j):HD P G T ops rs H r0 w0 (H 0) Y 0 r0 w0:=
 ⟨jd _,fun j q _ _=>⟨fun h=>absurd h (A j),fun h=>by omega⟩,fun j q _ _ h=>by omega,⟨hr.live,hr.inj,fun i _ h=>absurd h (rk _),hr.dT,hr.base⟩,fun i h1 C=> .inl (hr.new i h1 C),fun j q h=>absurd h (A j),fun j E q q' x I h=>absurd h (A j),Rn.le_refl _,Md.refl _ _,fun _ _ _ _ h=>h,fun _ _=>rfl⟩
end
end Go.Hb
namespace Go.Hb
section
variable {P:aq} {G n T:Nat} {ops:List ax} {rs:List Rec} {F:Nat→Tr AV} {H:Nat→Hp}
def Yl (listed:Array Bool) (j:Nat):Prop :=listed[j]? =some true
theorem BH {listed:Array Bool} {i:Nat} (hi:i < listed.size):Yl (listed.setIfInBounds i true)=fun j=>Yl listed j∨j=i:=by
 funext j;apply propext;unfold Yl;rw [og];by_cases e:i=j
 · subst e; simp [hi]
 · rw [if_neg e];exact ⟨.inl,fun h=>h.resolve_right fun x=>e x.symm⟩
theorem filter_le {p p':Nat→Bool} (h:∀ j,p' j=true→p j=true):∀ l:List Nat,(l.filter p').length≤(l.filter p).length
 | []=>aY _
 | a::l=>by
   have :=filter_le h l;simp only [A5];cases hp:p' a
   · cases p a
     · simpa using this
     · simp only [if_true,om,if_false,cZ]; omega
   · rw [h a hp]; simp only [if_true,cZ]; omega
theorem filter_lt {p p':Nat→Bool} (h:∀ j,p' j=true→p j=true) {i:Nat} (hp:p i=true) (A:p' i=false):∀ {l:List Nat},i∈l→(l.filter p').length < (l.filter p).length
 | a::l,hm=>by
   simp only [A5];rcases fU.1 hm with rfl | hm
   · rw [hp,A];have :=filter_le h l;simp only [if_true,om,if_false,cZ]; omega
   · have :=filter_lt h hp A hm;cases hq:p' a
     · cases p a
       · simpa using this
       · simp only [if_true,om,if_false,cZ]; omega
     · rw [h a hq]; simp only [if_true,cZ]; omega
def un (m:Nat) (listed:Array Bool):Nat:=((kn m).filter fun i=> !listed.getD i true).length
theorem GZ {m:Nat} {listed:Array Bool} {i:Nat} (hm:i < m) (hi:listed[i]? =some false):un m (listed.setIfInBounds i true) < un m listed:=by
 have aJ:=(ef.1 hi).1;refine filter_lt (i:=i) (fun j A=> ?_) ?_ ?_ (Bh.2 hm)
 · simp only [iW] at A ⊢;rw [gw,og] at A;rw [gw];by_cases e:i=j
   · subst e; rw [if_pos rfl,if_pos aJ] at A; simp at A
   · rw [if_neg e] at A; exact A
 · simp [gw,hi]
 · simp [gw,aJ]
theorem Fw {listed:Array Bool} {i:Nat} (J:listed.size=ops.length) (h:i∈dn .any ops.toArray listed):∃ o,ops[i]? =some o∧listed[i]? =some false∧∀ e∈o.after.toList,cY .any e=true→Yl listed e.on:=by
 unfold dn at h;rw [Bg] at h;obtain ⟨h1,A⟩:=h;simp only [Bh,dG] at h1;simp only [aV,iW,jN] at A;have C:ops[i]? =some ops[i]:=bH _;generalize ops[i]=o at C;rw [C] at A;simp only [eu,gC] at A;have I:listed[i]? =some (listed[i]'U):=lH _;refine ⟨o,C,?_,fun e he hb=> ?_⟩
 · have :=A.1;rw [gw,I] at this;rw [I]; simp at this; rw [this]
 · have E:=A.2;rw [Ac] at E;have :=E e<|by simpa using he
   rw [hb] at this;simp only [Bool.not_true,Bool.false_or] at this;unfold Yl;rw [gw] at this;cases hx:listed[e.on]? with
   | none=>rw [hx] at this; simp at this
   | some b=>rw [hx] at this; simp at this; rw [this]
theorem yK (s:Sq P G n ops rs F H) {listed:Array Bool} (I:listed.size=ops.length) (h:dn .any ops.toArray listed= []):∀ j,j < ops.length→Yl listed j:=by
 intro j
 induction j using Nat.strongRecOn with
 | ind j ih=>
   intro E;have C:listed[j]? =some (listed[j]'U):=lH _;cases hb:listed[j]'U with
   | true =>unfold Yl; rw [C,hb]
   | false =>
     exfalso;have A:ops[j]? =some ops[j]:=bH _;generalize ops[j]=o at A;have :j∈dn .any ops.toArray listed:=by
      unfold dn;rw [Bg];refine ⟨by simpa using E,?_⟩;simp only [aV,iW,jN,A,eu,gC];refine ⟨by rw [gw,C,hb]; rfl,?_⟩;rw [Ac];intro e he;cases hbd:cY .any e
      · simp
      · have aJ:=s.De j o A e (by simpa using he) hbd;have :=ih e.on aJ U;unfold Yl at this;rw [gw,this]; simp
     rw [h] at this; cases this
variable {r0:Rn} {w0:ah} {rr:Option Nat} {Dl:List Deferred} {Q:bc→Act→ah→Prop}
theorem Dc (s:Sq P G n ops rs F H) (bl:jv P (fI ops []) rs 0 ops rs=true) (hT:(H ops.length).nx≤T) (aF:∀ r w σ,St P G T r0 (H 0) w0 r (H ops.length) w→dr r n (F ops.length) σ→Q .normal (act ⟨n,Dl,[],rr⟩ σ) w):
 ∀ (fuel:Nat) (listed:Array Bool) (lo:Nat) (fx:Tr AV) (σ:Nat→ag) (r:Rn) (w:ah),listed.size=ops.length→un ops.length listed≤fuel→lZ ops (Yl listed)→kB ops rs (F 0) (Yl listed) fx→HD P G T ops rs H r0 w0 (H 0) (Yl listed) lo r w→
   (lo=0∨∃ j q,lo=j+1∧rs[j]? =some q∧q.k= .c∧Yl listed j)→dr r n fx σ→wpAnyIn (fe rr) 0 P .any ops.toArray Q fuel listed (act ⟨n,Dl,[],rr⟩ σ) w:=by
 have fin:∀ (listed:Array Bool) (lo:Nat) (fx:Tr AV) (σ:Nat→ag) (r:Rn) (w:ah),(∀ j,j < ops.length→Yl listed j)→kB ops rs (F 0) (Yl listed) fx→HD P G T ops rs H r0 w0 (H 0) (Yl listed) lo r w→dr r n fx σ→Q .normal (act ⟨n,Dl,[],rr⟩ σ) w:=by
  intro listed lo fx σ r w aQ ac C O;refine aF r w σ (C.done s hT aQ) fun i hi=> ?_;rw [← s.done aQ ac i];exact O i hi
 intro fuel
 induction fuel with
 | zero=>
   intro listed lo fx σ r w ao a3 ax ac C aH O;have a0:(kn ops.length).filter (fun i=> !listed.getD i true)= []:=List.length_eq_zero_iff.1<|Nat.le_zero.1 a3;have hr:dn .any ops.toArray listed= []:=by
    unfold dn;rw [List.filter_eq_nil_iff] at a0 ⊢;intro a ha;have :=a0 a<|by simpa using ha
    simp only [iW,Bool.not_eq_false,aV,not_and] at this ⊢;intro h; rw [this] at h; cases h
   exact ⟨hr,fin listed lo fx σ r w (yK s ao hr) ac C O⟩
 | succ fuel ih=>
   intro listed lo fx σ r w ao a3 ax ac C aH O;refine ⟨fun hr=>fin listed lo fx σ r w (yK s ao hr) ac C O,fun i hi=> ?_⟩;obtain ⟨o,aa,aZ,bc⟩:=Fw ao hi;have bf:=(cJ.1 aa).1;have an:¬Yl listed i:=fun h=>by unfold Yl at h; rw [aZ] at h; cases h
   obtain ⟨q,L⟩:=s.get aa;have aj:=s.line i o q aa L;have ay:lZ ops (fun j=>Yl listed j∨j=i):=by
    intro j ar al ab e he hb;rcases al with al | rfl
    · exact .inl<|ax j ar al ab e he hb
    · rw [aa] at ab; cases ab; exact .inl<|bc e he hb
   have aw:=BH (listed:=listed) (i:=i) U;have bq:(listed.setIfInBounds i true).size=ops.length:=by simpa using ao
   have br:un ops.length (listed.setIfInBounds i true)≤fuel:=by have :=GZ bf aZ; omega
   have aP:∀ t∈mM ops o,cF fx t=cF (F i) t:=fun t ap=>s.BO ax aa an ay ac ap;obtain ⟨a4,a2⟩:=FY aj.set fx;have bp:=ac.set aa L a2;have next :∀ (aq:Nat) (r':Rn) (u:ag) (w':ah),r.le r'→den r' q.v=some u→HD P G T ops rs H r0 w0 (H 0) (fun j=>Yl listed j∨j=i) aq r' w'→(aq=0∨∃ j q,aq=j+1∧rs[j]? =some q∧q.k= .c∧(Yl listed j∨j=i))→
    wpAnyIn (fe rr) 0 P .any ops.toArray Q fuel (listed.setIfInBounds i true) ((act ⟨n,Dl,[],rr⟩ σ).put o.dst u) w':=by
    intro aq r' u w' hle hu aE bg;rw [dS];refine ih _ aq a4 _ r' w' bq br ?_ ?_ ?_ ?_ (mS a2 (O.le hle) hu)
    · rw [aw]; exact ay
    · rw [aw]; exact bp
    · rw [aw]; exact aE
    · rcases bg with h | ⟨j,q,h1,I,Z,ai⟩
      · exact .inl h
      · exact .inr ⟨j,q,h1,I,Z,by rw [aw]; exact ai⟩
   have az:lo=0∨∃ j q,lo=j+1∧rs[j]? =some q∧q.k= .c∧(Yl listed j∨j=i):=aH.imp id fun ⟨j,q,h1,I,Z,ai⟩=>⟨j,q,h1,I,Z,.inl ai⟩
   have aT:=DO (n:=n) (ops:=ops) (g:=o.guard) (fr:=F i) (fx:=fx) fun t ap=>aP t<|List.mem_append_left _ ap;have bm:=yw (G:=G) (n:=n) (l:=eR o.op) (fr:=F i) (fx:=fx) fun t ap=>aP t<|List.mem_append_right _ ap;have bn:=yt bl;have aA:=bn.2 i o q aa L;rw [b9] at aA;show wpOpIn (fe rr) 0 P ops.toArray Q i _ _ w;unfold wpOpIn;rw [jN,aa];show if _ then _ else _
   rcases aj.run with ⟨hg,bv,M⟩ | ⟨hg,aX,bu,bA⟩
   · rw [if_pos (sy (N:=⟨n,Dl,[],rr⟩) (aT.trans hg) O)];have aB:=pO (N:=⟨n,Dl,[],rr⟩) C.hr.dT O<|bm.trans bv;have a9:=aj.set;obtain ⟨d,op,ty,pos,af,g⟩:=o;simp only at aB M next aA
     cases M with
     | p E V aM=>
       have aI:∀ c,op≠.defer c:=fun c e=>by subst e; simp [kY] at V
       obtain ⟨u,h1,I⟩:=yy (N:=⟨n,Dl,[],rr⟩) (dst:=d) (ty:=ty) (pos :=pos) (af:=af) (g:=g) V aB;exact qH aI (.inl<|I w)<|next lo r u w (Rn.le_refl r) h1 (C.skip L (by rw [E]; intro h; cases h)<|by rw [E]; intro h; cases h) az
     | l E V aM=>
       have aI:∀ c,op≠.defer c:=fun c e=>by subst e; simp [gL] at V
       have aD:=ys<|aA.1 E;have bh:gL P op q.xs (H lo)=some q.v:=by
        rcases de i lo with aJ | aU
        · rcases aH with h0 | ⟨j,A,h1,I,Z,ai⟩
          · omega
          · have am:=(aD j A I).1 Z;rw [b9] at am;have aW:¬j < i:=U;have bB:j≠i:=fun e=>by subst e; exact an ai
            rcases am.2 aW with hb | hb
            · exact absurd ((nh ax hb).2 ai) an
            · obtain ⟨ar,ab⟩:=s.get' I;rw [(s.line j ar A ab I).ha,← h1] at hb;exact hb
        ·
         have aN:∀ (m:Nat),lo≤m→m≤i→(∀ j A,lo≤j→j < m→rs[j]? =some A→A.k≠.c)→H m=H lo:=by
          intro m
          induction m with
          | zero=>intro h _ _; have :lo=0:=U
                  subst this; rfl
          | succ m aL=>
            intro h1 I Z;rcases de m lo with aJ | hle
            · have :lo=m+1:=U;subst this; rfl
            · have hm:=aL hle U fun j A a b c=>Z j A a U c;have a1:ops[m]? =some (ops[m]'U):=bH _;obtain ⟨ak,aK⟩:=s.get a1;have aG:=s.line m _ ak a1 aK;have bj:=Z m ak hle (kr _) aK;have bi:ak.k≠.a:=fun ha=>by
               have :=(aD m ak aK).2 ha;omega
              have he:ak.ha=ak.hb:=by
               rcases aG.run with ⟨_,_,M⟩ | ⟨_,_,_,M⟩
               · cases M with
                 | p _ _ h=>exact h
                 | l _ _ h=>exact h
                 | a e l h _ _ _ _=>exact absurd h bi
                 | c h _=>exact absurd h bj
               · exact M
              rw [← aG.ha,he,aG.hb,hm]
         by_cases hex:∃ j A,lo≤j∧j < i∧rs[j]? =some A∧A.k= .c
         ·
          have first :∀ (m:Nat),lo≤m→m≤i→(∃ j A,lo≤j∧j < m∧rs[j]? =some A∧A.k= .c)→∃ j A,lo≤j∧j < i∧rs[j]? =some A∧A.k= .c∧∀ ad q',lo≤ad→ad < j→rs[ad]? =some q'→q'.k≠.c:=by
           intro m
           induction m with
           | zero=>rintro _ _ ⟨j,_,_,h,_⟩; omega
           | succ m aL=>
             intro h1 I ⟨j,A,aC,aO,ae,av⟩;by_cases hex:∃ j A,lo≤j∧j < m∧rs[j]? =some A∧A.k= .c
             · obtain ⟨ad,bz,a5,a6,a7,a8⟩:=hex;exact aL U U ⟨ad,bz,a5,a6,a7,a8⟩
             · refine ⟨j,A,aC,U,ae,av,fun ad q' a b c d=>hex ⟨ad,q',a,U,c,d⟩⟩
          obtain ⟨j,A,aC,aO,ae,av,ba⟩:=first i aU (aY _) hex
          have am:=(aD j A ae).1 av;rw [b9] at am;rcases am.1 aO with hb | hb
          · rcases (nh ay hb).2 (.inr rfl) with h | h
            · have :=(C.lc j A ae av).1 h; omega
            · omega
          · obtain ⟨ar,ab⟩:=s.get' ae;rw [(s.line j ar A ab ae).hb,aN j aC U ba] at hb;exact hb
         · have :=aN i aU (aY _) fun j A a b c d=>hex ⟨j,A,a,b,c,d⟩;rw [← this,← aj.hb]; exact V
       obtain ⟨u,h1,I⟩:=yx (N:=⟨n,Dl,[],rr⟩) (dst:=d) (ty:=ty) (pos :=pos) (af:=af) (g:=g) C.hr bh aB;exact qH aI (.inl I)<|next lo r u w (Rn.le_refl r) h1 (C.skip L (by rw [E]; intro h; cases h)<|by rw [E]; intro h; cases h) az
     | a e l E V aM bw bx=>
       subst V;obtain ⟨h1,us,bt,bo⟩:=BR aM;obtain ⟨hle,aE⟩:=C.early s hT L E an bw bt h1;refine qH (fun c e=>by cases e) (.inl<|bo ⟨n,Dl,[],rr⟩ σ d ty pos af g w)<|next lo _ _ _ hle ?_ aE az
       rw [bx];simp only [den,Rn.fj,b9]
     | c E V=>
       have bb:=yr<|aA.2 E;have aJ:lo≤i:=by
        rcases de i lo with h | h
        · exact absurd ((C.lc i q L E).2 h) an
        · exact h
       have aR:∀ j A,j < i→rs[j]? =some A→(A.k= .c∨A.k= .a)→Yl listed j:=fun j A aW al aF=>by
        have hb:=bb j A al aF U;rw [b9] at hb;rcases (nh ay hb).2 (.inr rfl) with h | h
        · exact h
        · omega
       have aS:=C.ug s i aJ (by rw [s.len]; omega) fun j A a b c=>⟨fun M=>by have :=(C.lc j A c M).1 (aR j A b c<|.inl M); omega,fun ha=>aR j A b c<|.inr ha⟩
       have bd:=aS.D0 s hT L E;obtain ⟨n1,s1⟩:=V;rw [aj.hb,aj.ha] at s1;refine s1 _ r w ⟨n,Dl,[],rr⟩ σ d ty pos af g _ Q (aY _) bd aB fun r' u w' hu a9=> ?_;exact next (i+1) r' u w' a9.le hu (aS.GQ s L E a9)<|.inr ⟨i,q,J,L,E,.inr J⟩
   · rw [if_neg (by rw [xy (N:=⟨n,Dl,[],rr⟩) (aT.trans hg) O]; simp)];refine ⟨fun f _=>j1 _ f,next lo r undef w (Rn.le_refl r) (by rw [bu]; exact fY r) (C.skip L (by rw [aX]; intro h; cases h)<|by rw [aX]; intro h; cases h) az⟩
theorem C9 {X:Xt} {ih:Tk→Rs} (ac:Good P G ih) (ad:fX P G X) (ab:eX P) (ae:∀ f args h v h',ih (.cl f args h)= .rv v h'→∃ fn c,P.funcs[f]? =some fn∧fn.body=some c) (hm:P.follows .mixedOrders=true):vf P G X ih:=by
 intro rd n id ops fr D h;show match o8 P G X ih n ops fr D h with
  | .cd e aa E h'=>cS P G rd n (fun rr Q a w=>(Aw id ⟨ops⟩ true).wpIn (fe rr) 0 P Q a w) fr D h e aa E h'
  | .no=>True
  | _=>False
 have ah:o8 P G X ih n ops fr D h=cond (mb ops (fI ops []) 0 ops) (match jy P G X ih n ops (fI ops []) 0 none ops fr h with
  | some (rs,fr,h)=>cond (jv P (fI ops []) rs 0 ops rs) (.cd .bM fr D h) .no
  | none=> .no) .no:=rfl
 rw [ah];cases hc1:mb ops (fI ops []) 0 ops
 · exact trivial
 · rw [cond_true];cases hrec:jy P G X ih n ops (fI ops []) 0 none ops fr h with
   | none=>exact trivial
   | some x=>
     obtain ⟨rs,ao,ap⟩:=x;simp only;cases hok:jv P (fI ops []) rs 0 ops rs
     · exact trivial
     · rw [cond_true];obtain ⟨F,H,I,L,M,O,V,Z⟩:=yL ac ad ab ae hrec;have s:Sq P G n ops rs F H:=⟨V,Z,fun i j am an hi A aJ=>by
        have :=(rR hc1 i am hi).2 j an A U;rwa [b9] at this,fun i o al=>by
        have :=wG (rR hc1 i o al).1;rwa [b9] at this⟩
       subst I; subst L; subst M; subst O;refine ⟨s.mono (jd _) (aY _),fun T r w σ Dl rr Q hT hr ai ag aq ak=> ?_⟩;refine wpIn_region_any hm ?_;have C:∀ j,¬Yl (Array.replicate ops.length false) j:=fun j A=>by
        unfold Yl at A;rw [Array.getElem?_replicate] at A;split at A <;> cases A
       refine Dc s hok hT (r0:=r) (w0:=w.drew) (fun r' w' σ' st aj=>ak r' w' σ' Dl st.drew aj<|kI st.le ag) _ _ 0 (F 0) σ r w.drew (by simp) ?_ (fun j o A=>absurd A<|C j) (fun t=> .inr ⟨fun j o A=>absurd A (C j),J⟩) (HD.start s hr.drew C) (.inl J) ai;unfold un;exact cH (List.length_filter_le _ _)<|by simp
end
end Go.Hb
namespace Go.Hb
section
variable {P:aq} {G:Nat} {X:Xt} {w:ah}
theorem HO {f:Nat} (E:∀ v w,(callFunc f #[v]).run P w= .ok (.value v) w) {xs:List AV} {h h':Hp} {v:AV} (he:ux xs h=some (v,h')):h.nx≤h'.nx∧∀ (T:Nat) (r:Rn) (w:ah) (us:List ag),h'.nx≤T→HR P G r T h w→aB r xs=some us→
 ∃ r' u w',den r' v=some u∧(callFunc f us.toArray).run P w= .ok (.value u) w'∧St P G T r h w r' h' w':=by
 unfold ux at he;split at he
 · cases he;refine ⟨aY _,fun T r w us hT hr C=> ?_⟩;obtain ⟨u,I,rfl,h1,A⟩:=dh C;obtain rfl :=iI A;exact ⟨r,u,w,h1,E u w,St.refl hr⟩
 · cases he
theorem xG {c:Nat} (C:c < 256):∀ (l:List UInt8) (i:Nat),nD c l i=if l.idxOf (dP c) < l.length then jb (i+l.idxOf (dP c)) else -1
 | [],i=>by simp [nD]
 | b::l,i=>by
   have E:(dP c).toNat=c:=by simp; omega
   simp only [nD,List.idxOf_cons];cases hb:aD b.toNat c
   · have I:(b==dP c)=false :=by
      cases A:(b==dP c)
      · rfl
      · have :=eq_of_beq A;subst this;rw [E] at hb; simp at hb
     rw [I];simp only [cond_false,cZ,xG C l (i+1)];by_cases h1:l.idxOf (dP c) < l.length
     · rw [if_pos h1,if_pos U];congr 1; omega
     · rw [if_neg h1,if_neg U]
   · have :=bA hb;have A:(b==dP c)=true :=by
      rw [← this]; simp
     rw [A];simp
theorem HP {f:Nat} (O:∀ l c w,(callFunc f #[str l,.int .u8 (Bw c)]).run P w= .ok (.value<|.int .i64<|jr c l) w) {xs:List AV} {h h':Hp} {v:AV} (he:uy xs h=some (v,h')):h.nx≤h'.nx∧∀ (T:Nat) (r:Rn) (w:ah) (us:List ag),h'.nx≤T→HR P G r T h w→aB r xs=some us→
 ∃ r' u w',den r' v=some u∧(callFunc f us.toArray).run P w= .ok (.value u) w'∧St P G T r h w r' h' w':=by
 unfold uy at he;split at he
 · rename_i l c;replace he:=aQ he; obtain ⟨A,he⟩:=he;have A:=bQ.1 A;split at he
   · rename_i aa hm;cases he;refine ⟨aY _,fun T r w us hT hr M=> ?_⟩;obtain ⟨u,V,rfl,h1,E⟩:=dh M;obtain ⟨U,Z,rfl,I,J⟩:=dh E;obtain rfl :=iI J;obtain rfl :=fi h1;obtain rfl :=cm I;have L:(dP c).toNat=c:=by simp; omega
     have C:=O l (dP c) w;rw [L] at C;refine ⟨r,_,w,?_,C,St.refl hr⟩;rw [xG A l 0] at hm;simp only [b9] at hm;have :jr (dP c) l=if l.idxOf (dP c) < l.length then jb (l.idxOf<|dP c) else -1:=rfl
     rw [← this] at hm;rw [ez] at hm;cases hm;simp only [den]
   · cases he
 · cases he
def x2 (a b:Nat):Xt:=fun f=>cond (aD f a) (some ux)<|cond (aD f b) (some uy) none
theorem HN {a b:Nat} (h1:∀ v w,(callFunc a #[v]).run P w= .ok (.value v) w) (C:∀ l c w,(callFunc b #[str l,.int .u8 (Bw c)]).run P w= .ok (.value<|.int .i64<|jr c l) w):fX P G (x2 a b):=by
 intro f e he xs h v h' A;unfold x2 at he;cases ha:aD f a
 · rw [ha] at he;simp only [cond_false] at he;cases hb:aD f b
   · rw [hb] at he; cases he
   · rw [hb] at he;cases he;have :=bA hb;subst this;exact HP C A
 · rw [ha] at he;cases he;have :=bA ha;subst this;exact HO h1 A
theorem CG (h:P.funcs.toList.all (fun fn=> !(fn.name== "runtime.NumGoroutine") || fn.body.isNone)=true):eX P:=by
 intro f fn c A hb;have hm:fn∈P.funcs.toList:=by
  rw [ef] at A;obtain ⟨aJ,rfl⟩:=A;simp
 have :=List.all_eq_true.1 h fn hm;rw [hb] at this;simp only [Option.isNone_some,Bool.or_false,iW] at this;exact rP A this<|by rw [hb]; rfl
def sH (G T:Nat) (E:Nat→Nat):List Nat→Tr AO
 | []=> .nil
 | g::l=>(sH G T E l).set g<|.cells [.ek T (.ptr (G+g) 0)] (E g) 0 .x
theorem nX {T:Nat} {E:Nat→Nat} :∀ {l:List Nat},(∀ g∈l,az g bI=true)→∀ {i:Nat} {o:AO},(sH G T E l).get i=some o→i∈l∧o= .cells [.ek T (.ptr (G+i) 0)] (E i) 0 .x
 | [],_,i,o,h=>by simp only [sH] at h; cases h
 | g::l,hl,i,o,h=>by
   simp only [sH] at h;rw [Tr.jo _ _ _ _ (hl g<|jP)] at h;split at h
   · rename_i e; subst e; cases h; exact ⟨jP,rfl⟩
   · obtain ⟨h1,A⟩:=nX (fun g hg=>hl g<|jO _ hg) h;exact ⟨jO _ h1,A⟩
def cz (T:Nat) (l:List Nat) (w:ah):Prop := ∀ g,g∈l→∃ (a:Addr) (e:Nat),a.spot=none∧w.heap[g]? =some (.cells #[.iface T (.pointer<|some a)] e (0,0))
theorem cz.mono {T:Nat} {l:List Nat} {w w':ah} {F:Nat→Prop} (h:cz T l w) (hm:Md F w w') (C:∀ g∈l,¬F g):cz T l w':=fun g hg=>by
 obtain ⟨a,e,h1,A⟩:=h g hg;exact ⟨a,e,h1,hm.ar A<|C g hg⟩
theorem HR.tI {T:Nat} {l:List Nat} (C:∀ g∈l,g < G) (ad:G≤1000) (h:cz T l w):∃ (E:Nat→Nat) (r:Rn),∀ M,HR P G r M ⟨sH G T E l,G+G⟩ w:=by
 classical
 let A:Nat→Addr:=fun g=>if hg:g∈l then (h g hg).choose else ⟨0,0,none⟩
 let E:Nat→Nat:=fun g=>if hg:g∈l then (h g hg).choose_spec.choose else 0
 have Z:∀ g,g∈l→(A g).spot=none∧w.heap[g]? =some (.cells #[.iface T (.pointer<|some<|A g)] (E g) (0,0)):=fun g hg=>by
  have :=(h g hg).choose_spec.choose_spec;simp only [A,E,dif_pos hg];exact this
 let r:Rn:=fun i=>if i < G then some ⟨i,0,0⟩ else if i < G+G then some ⟨(A<|i - G).block,(A<|i - G).off,0⟩ else none
 have I:∀ i,i < G→r i=some ⟨i,0,0⟩:=fun i hi=>if_pos hi;have ac:∀ g,g < G→r (G+g)=some ⟨(A g).block,(A g).off,0⟩:=fun g hg=>by
  show (if G+g < G then _ else _)=_;rw [if_neg U,if_pos U,show G+g - G=g from by omega]
 have L:∀ g∈l,az g bI=true :=fun g hg=>bQ.2 (by have :=C g hg; have :bI=1048574:=rfl; omega);refine ⟨E,r,fun M=>⟨fun i o hi=> ?_,fun i j o ae q q' hi aa h1 J he=> ?_,fun i h1 J=> ?_,fun g hg=>⟨0,I g hg⟩,Nat.le_add_right _ _⟩⟩
 · obtain ⟨hm,rfl⟩:=nX L hi;have aJ:=C i hm;obtain ⟨O,V⟩:=Z i hm;refine ⟨⟨i,0,0⟩,I i aJ,?_⟩;rw [V];refine tq (us:= [.iface T (.pointer<|some<|A i)]) ?_ rfl;have e:(⟨(A i).block,(A i).off,none⟩:Addr)=A i:=by
    have :A i=⟨(A i).block,(A i).off,(A i).spot⟩:=rfl;rw [this,O]
   simp only [aB,den,ac i aJ,iF,e]
 · obtain ⟨hm,rfl⟩:=nX L hi;obtain ⟨ab,rfl⟩:=nX L aa;rw [I i (C i hm)] at h1;rw [I j (C j ab)] at J;cases h1; cases J;exact he
 · show (if i < G then _ else _)=_;simp only at h1;rw [if_neg U,if_neg U]
theorem St.wk {T C:Nat} {E:Nat→Nat} {l:List Nat} {r r':Rn} {h':Hp} {w':ah} (A:∀ g∈l,g < G) (L:G≤1000) (st:St P G C r ⟨sH G T E l,G+G⟩ w r' h' w'):Wk w w':=by
 refine ⟨st.md.os,st.md.output,st.md.size,fun k J _=>st.md.ey k J fun ⟨i,o,q,h1,I,_⟩=> ?_⟩;obtain ⟨hm,_⟩:=nX (fun g hg=>bQ.2 (by have :=A g hg; have :bI=1048574:=rfl; omega)) I;have :=A i hm;omega
end
end Go.Hb
end
