/-
  Walks and plain laws that the law rests on, laid together. No conditions but those that each theorem names.
-/
import Derived.Test.YtiagknaekaknhaaGreatDoorMnJoinedOn2
set_option linter.unusedVariables false
open Array renaming all_eq_true_iff_forall_mem→Eu,foldl_toList→Ew,getD_eq_getD_getElem?→iZ,getElem?_eq_getElem→nU,getElem?_eq_some_iff→dq,getElem?_modify→Ez,getElem?_push→uj,getElem?_setIfInBounds→rB,getElem?_setIfInBounds_ne→yO,getElem?_setIfInBounds_self_of_lt→yP,getElem?_toList→pM,length_toList→lH,range→lI,toList_inj→rC,toList_map→ja,toList_modify→EC,toList_push→ED
open BitVec renaming ofInt→iB
open Bool renaming and_eq_true→a0,false_eq_true→lJ,noConfusion→cJ,not_eq_true'→jB,or_eq_true→nW,or_eq_true_iff→EI
open Go.Builtin renaming append_→ke,clear_→uq,delete_→yS,firstCells→ur,zeroCells→EK
open Go.Calls renaming mono→kE
open Go renaming Code→bH,Edge→bQ,Exit→bu,IntKind→bA,Oper→aC,Operand→aW,Program→ar,TypeId→av,Value→ag,World→ah
open Go.Code renaming region→EO
open Go.Deferred renaming ofValue→mF
open Go.Exit renaming inBlock→pP
open Go.Fence renaming wide→e7
open Go.FrameMode renaming noConfusion→EU
open Go.Instr renaming alloc→uu,buildSlice→rE,fill→jb,keyThatStays→rF,mapUpdate→yW
open Go.Lib renaming run_unsafeString_none→E3
open Go.Op renaming equal→mG,equalIn→iC
open Go.Oper renaming semAt_eq→rJ,uponIn→rK
open Go.Region renaming binds→dF,ready→dx,wanted→kf
open Go.Result renaming andThen_ok→hZ
open Go.Sem renaming run→lK,run_bind→iE,run_pure→kH
open Go.World renaming freeze→lL,putObj→Fa,putObj_heap_other→lM,putObj_heap_same→uy
open Int renaming natCast_nonneg→fV,natCast_pos→Fc,ofNat→kI,toNat_natCast→rN
open List.Sublist renaming map→NU
open List renaming append_assoc→gJ,eq_nil_of_length_eq_zero→jF,ext_getElem?→uA,filter_cons→Fl,flatten_cons→Fo,getD_eq_getElem?_getD→bY,getElem?_append_left→fF,getElem?_append_right→fW,getElem?_cons_succ→jd,getElem?_cons_zero→je,getElem?_drop→iF,getElem?_eq_getElem→bC,getElem?_eq_none→jG,getElem?_eq_some_iff→cD,getElem?_map→gu,getElem?_take→jg,getElem?_toArray→lO,length→lP,length_append→bG,length_cons→dC,length_drop→iG,length_eq_one_iff→rO,length_nil→ib,length_take→cO,mapM_cons→Fz,map_append→gK,map_cons→dG,map_map→rP,mem_append→dH,mem_cons→ef,mem_cons_of_mem→ic,mem_cons_self→ie,mem_filter→mI,mem_map→jH,mem_of_getElem?→kK,mem_of_mem_drop→uI,mem_of_mem_take→uJ,mem_range→gL,nodup_cons→uL,range→fX,range'→eL,replicate→dr,replicate_succ→FC,size_toArray→eM
open List.cons renaming injEq→lN
open Nat renaming add_assoc→iI,add_comm→qa,add_mul→mJ,add_zero→lQ,beq→aP,ble→bf,ble_eq→rS,ble_eq_true_of_le→zj,blt→aE,eq_of_beq_eq_true→bM,le_of_ble_eq_true→bN,le_refl→aQ,le_succ→lS,le_trans→cn,lt_of_lt_of_le→mK,lt_or_ge→dD,lt_succ_iff_lt_or_eq→FK,lt_succ_self→mL,lt_trichotomy→rT,mul_le_mul_right→om,not_lt_zero→uQ,pos_of_ne_zero→FN,pow_succ→uR,succ_le_iff→rV,succ_pos→FP,testBit→rW,zero_add→cz,zero_le→fw,zero_mul→uS
open Option renaming getD_none→qg,getD_some→jh,map_eq_some_iff→gM,map_some→fG
open Option.some renaming inj→fH,injEq→bK
open Prod renaming fst→gN,snd→uT
open Prod.mk renaming injEq→ig
open UInt8 renaming lt_iff_toNat_lt→FR,ofNat→e9,toNat→FT,toNat_inj→oo
open Go.Proofs.Tryz
open Go.RowKit

section
namespace Go.Hb
inductive Tr (α:Type) | nil | nd (l:Tr α) (v:Option α) (r:Tr α)
def Tr.get {α:Type} :Tr α→Nat→Option α
 | .nil,_=>none
 | .nd _ v _,0=>v
 | .nd l _ r,n+1=>cond (aP (n % 2) 0) (l.get<|n / 2)<|r.get<|n / 2
def Tr.put {α:Type} (v:Option α):Nat→Tr α→Nat→Tr α
 | 0,t,_=>t
 | _+1,.nil,0=> .nd .nil v .nil
 | _+1,.nd l _ r,0=> .nd l v r
 | k+1,.nil,n+1=>cond (aP (n % 2) 0) (.nd (Tr.put v k .nil<|n / 2) none .nil)<|.nd .nil none<|Tr.put v k .nil<|n / 2
 | k+1,.nd l u r,n+1=>cond (aP (n % 2) 0) (.nd (Tr.put v k l<|n / 2) u r)<|.nd l u<|Tr.put v k r<|n / 2
theorem Tr.get_nil {α:Type} (n:Nat):(Tr.nil:Tr α).get n=none:=by unfold Tr.get; rfl
theorem DT {n:Nat} {b:Bool} (h:aP (n % 2) 0=b):n % 2=cond b 0 1:=by
 cases b
 · have :n % 2≠0:=fun e=>by rw [e] at h; cases h
   simp only [cond_false]; omega
 · exact bM h
theorem tY {n m:Nat} {b:Bool} (hn:aP (n % 2) 0=b) (hm:aP (m % 2) 0=b) (e:m / 2=n / 2):m+1=n+1:=by
 have :=DT hn;have :=DT hm;omega
theorem Tr.o8 {α:Type} (v:Option α):∀ (k:Nat) (t:Tr α) (n m:Nat),m≠n→(Tr.put v k t n).get m=t.get m
 | 0,t,n,m,_=>by simp [Tr.put]
 | k+1,.nil,0,m,h=>by
   obtain ⟨m,rfl⟩:∃ j,m=j+1:=⟨m - 1,ab⟩
   simp [Tr.put,Tr.get]
 | k+1,.nd l u r,0,m,h=>by
   obtain ⟨m,rfl⟩:∃ j,m=j+1:=⟨m - 1,ab⟩
   simp [Tr.put,Tr.get]
 | k+1,.nil,n+1,0,h=>by
   simp only [Tr.put];cases aP (n % 2) 0 <;> rfl
 | k+1,.nd l u r,n+1,0,h=>by
   simp only [Tr.put];cases aP (n % 2) 0 <;> rfl
 | k+1,.nil,n+1,m+1,h=>by
   simp only [Tr.put];cases hn:aP (n % 2) 0 <;> cases hm:aP (m % 2) 0 <;> simp only [cond_true,cond_false,Tr.get,hm]
   · rw [Tr.o8 v k .nil _ _ (fun e=>h<|tY hn hm e)]; rfl
   · rw [Tr.o8 v k .nil _ _ (fun e=>h<|tY hn hm e)]; rfl
 | k+1,.nd l u r,n+1,m+1,h=>by
   simp only [Tr.put];cases hn:aP (n % 2) 0 <;> cases hm:aP (m % 2) 0 <;> simp only [cond_true,cond_false,Tr.get,hm]
   · rw [Tr.o8 v k r _ _ (fun e=>h<|tY hn hm e)]
   · rw [Tr.o8 v k l _ _ (fun e=>h<|tY hn hm e)]
theorem Tr.put_eq {α:Type} (v:Option α):∀ (k:Nat) (t:Tr α) (n:Nat),n+1 < 2 ^ k→(Tr.put v k t n).get n=v
 | 0,t,n,h=>ab
 | k+1,.nil,0,_=>by simp [Tr.put,Tr.get]
 | k+1,.nd l u r,0,_=>by simp [Tr.put,Tr.get]
 | k+1,.nil,n+1,h=>by
   have A:n / 2 +1 < 2 ^ k:=by rw [uR] at h; omega
   simp only [Tr.put];cases hn:aP (n % 2) 0 <;> simp only [cond_true,cond_false,Tr.get,hn] <;> exact Tr.put_eq v k _ _ A
 | k+1,.nd l u r,n+1,h=>by
   have A:n / 2 +1 < 2 ^ k:=by rw [uR] at h; omega
   simp only [Tr.put];cases hn:aP (n % 2) 0 <;> simp only [cond_true,cond_false,Tr.get,hn] <;> exact Tr.put_eq v k _ _ A
def cj:Nat:=1048574
def Tr.set {α:Type} (t:Tr α) (n:Nat) (v:α):Tr α:=Tr.put (some v) 20 t n
def Tr.del {α:Type} (t:Tr α) (n:Nat):Tr α:=Tr.put none 20 t n
theorem Tr.kY {α:Type} (t:Tr α) (n m:Nat) (v:α) (h:aE n cj=true):(t.set n v).get m=if m=n then some v else t.get m:=by
 have h':n < 1048574:=by simpa [cj,aE,rS,rV] using h
 unfold Tr.set;split
 · rename_i e; subst e; exact Tr.put_eq _ _ _ _ ab
 · rename_i e; exact Tr.o8 _ _ _ _ _ e
theorem Tr.oR {α:Type} (t:Tr α) (n m:Nat) (h:aE n cj=true):(t.del n).get m=if m=n then none else t.get m:=by
 have h':n < 1048574:=by simpa [cj,aE,rS,rV] using h
 unfold Tr.del;split
 · rename_i e; subst e; exact Tr.put_eq _ _ _ _ ab
 · rename_i e; exact Tr.o8 _ _ _ _ _ e
inductive AV
 | bool (b:Bool) | int (k:bA) (n:Int) | str (l:List UInt8)
 | ptr (b o:Nat) | gS
 | sl (b o n c:Nat) (x:Bool)
 | an
 | map (b:Nat) | kq
 | fn (f:Nat) (a c:List AV) | gH (l:Nat) | iS
 | fC (t:Nat) (v:AV) | cN
 | agg (l:List AV) | bT (l:List AV)
structure Loc where
 ak:Nat
 sh:Nat
 room:Nat
abbrev Rn:=Nat→Option Loc
def Rn.le (r s:Rn):Prop := ∀ i x,r i=some x→s i=some x
theorem Rn.le_refl (r:Rn):r.le r:=fun _ _ h=>h
theorem Rn.le_trans {r s t:Rn} (h:r.le s) (h':s.le t):r.le t:=fun i x A=>h' i x<|h i x A
mutual
def den (r:Rn):AV→Option ag
 | .bool b=>some<|.bool b
 | .int k n=>some<|.int k n
 | .str l=>some<|Hb.str l
 | .ptr b o=>match r b with
   | some q=>some<|.pointer<|some ⟨q.ak,q.sh+o,none⟩
   | none=>none
 | .gS=>some<|.pointer none
 | .sl b o n c x=>match r b with
   | some q=>cond x (cond (bf n c) (some<|.slice (some ⟨q.ak,q.sh+o,none⟩) n c) none)<|cond (bf (c+n) q.room) (some<|.slice (some ⟨q.ak,q.sh+o,none⟩) n<|q.room - c) none
   | none=>none
 | .an=>some<|.slice none 0 0
 | .map b=>match r b with
   | some q=>some<|.map<|some q.ak
   | none=>none
 | .kq=>some<|.map none
 | .fn f a c=>match aM r a,aM r c with
   | some a,some c=>some<|.func (.func f) a.toArray c.toArray
   | _,_=>none
 | .gH l=>match r l with
   | some q=>some<|.func (.yield q.ak) #[] #[]
   | none=>none
 | .iS=>some .nilFunc
 | .fC t v=>match den r v with
   | some v=>some<|.iface t v
   | none=>none
 | .cN=>some .nilIface
 | .agg l=>match aM r l with
   | some l=>some<|.agg l.toArray
   | none=>none
 | .bT l=>match aM r l with
   | some l=>some<|.tuple l.toArray
   | none=>none
def aM (r:Rn):List AV→Option (List ag)
 | []=>some []
 | v::l=>match den r v,aM r l with
   | some v,some l=>some (v::l)
   | _,_=>none
end
mutual
theorem kV {r s:Rn} (h:r.le s):∀ {v:AV} {u:ag},den r v=some u→den s v=some u
 | .bool _,_,hu | .int _ _,_,hu | .str _,_,hu | .gS,_,hu | .an,_,hu | .kq,_,hu | .iS,_,hu | .cN,_,hu=>by
   simp only [den] at hu ⊢; exact hu
 | .ptr b o,u,hu | .sl b o n c x,u,hu | .map b,u,hu | .gH b,u,hu=>by
   simp only [den] at hu ⊢;cases hb:r b with
   | none=>rw [hb] at hu; cases hu
   | some q=>rw [hb] at hu; rw [h b q hb]; exact hu
 | .fn f a c,u,hu=>by
   simp only [den] at hu ⊢;cases ha:aM r a with
   | none=>rw [ha] at hu; cases hu
   | some A=>
     cases hc:aM r c with
     | none=>rw [ha,hc] at hu; cases hu
     | some c'=>rw [ha,hc] at hu; rw [iq h ha,iq h hc]; exact hu
 | .fC t v,u,hu=>by
   simp only [den] at hu ⊢;cases hv:den r v with
   | none=>rw [hv] at hu; cases hu
   | some E=>rw [hv] at hu; rw [kV h hv]; exact hu
 | .agg l,u,hu | .bT l,u,hu=>by
   simp only [den] at hu ⊢;cases hl:aM r l with
   | none=>rw [hl] at hu; cases hu
   | some C=>rw [hl] at hu; rw [iq h hl]; exact hu
theorem iq {r s:Rn} (h:r.le s):∀ {v:List AV} {u:List ag},aM r v=some u→aM s v=some u
 | [],_,hu=>by simp only [aM] at hu ⊢; exact hu
 | v::l,u,hu=>by
   simp only [aM] at hu ⊢;cases hv:den r v with
   | none=>rw [hv] at hu; cases hu
   | some C=>
     cases hl:aM r l with
     | none=>rw [hv,hl] at hu; cases hu
     | some A=>rw [hv,hl] at hu; rw [kV h hv,iq h hl]; exact hu
end
theorem dW {r:Rn} {v:AV} {l:List AV} {us:List ag} (h:aM r (v::l)=some us):∃ u A,us=u::A∧den r v=some u∧aM r l=some A:=by
 simp only [aM] at h;split at h
 · rename_i u A h1 C; exact ⟨u,A,(fH h).symm,h1,C⟩
 · cases h
theorem kh {r:Rn} {us:List ag} (h:aM r []=some us):us= []:=by simpa [aM] using h.symm
theorem dQ {r:Rn} {v:AV} {l:List AV} {u:ag} {us:List ag} (h1:den r v=some u) (A:aM r l=some us):aM r (v::l)=some (u::us):=by simp only [aM,h1,A]
theorem de {r:Rn} :∀ {l:List AV} {us:List ag},aM r l=some us→us.length=l.length
 | [],_,h=>by rw [kh h]; rfl
 | v::l,us,h=>by obtain ⟨u,C,rfl,_,A⟩:=dW h; simp [de A]
theorem oE {r:Rn} :∀ {l:List AV} {us:List ag} {i:Nat} {v:AV},aM r l=some us→l[i]? =some v→∃ u,us[i]? =some u∧den r v=some u
 | [],_,i,v,h,hv=>by simp at hv
 | a::l,us,0,v,h,hv=>by
   obtain ⟨u,J,rfl,h1,_⟩:=dW h;simp only [je,bK] at hv;subst hv; exact ⟨u,rfl,h1⟩
 | a::l,us,i+1,v,h,hv=>by
   obtain ⟨u,J,rfl,_,A⟩:=dW h;simp only [jd] at hv;obtain ⟨I,C,E⟩:=oE A hv;exact ⟨I,by simpa using C,E⟩
theorem fA {r:Rn} :∀ {l m:List AV} {us vs:List ag},aM r l=some us→aM r m=some vs→aM r (l++m)=some (us++vs)
 | [],m,us,vs,h,h'=>by rw [kh h]; exact h'
 | a::l,m,us,vs,h,h'=>by
   obtain ⟨u,C,rfl,h1,A⟩:=dW h;exact dQ h1<|fA A h'
theorem jl {r:Rn} :∀ {l:List AV} {us:List ag} (n:Nat),aM r l=some us→aM r (l.take n)=some (us.take n)
 | _,_,0,_=>by simp [aM]
 | [],us,n+1,h=>by rw [kh h]; simp [aM]
 | a::l,us,n+1,h=>by
   obtain ⟨u,C,rfl,h1,A⟩:=dW h;exact dQ h1<|jl n A
theorem jS {r:Rn} :∀ {l:List AV} {us:List ag} (n:Nat),aM r l=some us→aM r (l.drop n)=some (us.drop n)
 | _,_,0,h=>h
 | [],us,n+1,h=>by rw [kh h]; simp [aM]
 | a::l,us,n+1,h=>by
   obtain ⟨u,C,rfl,h1,A⟩:=dW h;exact jS n A
inductive Ck | a | z | x
inductive AO
 | cells (l:List AV) (e:Nat) (fz:Nat) (ex:Ck)
 | map (l:List (AV×AV))
 | loop (st:LoopState) (pe:Option bH) (n:Nat) (fr:Tr AV) (ps:List Nat) (aR body:bH) (D:Nat)
 | kW (b:Bool)
 | yr (l:List UInt8) (p:Nat)
structure Hp where
 t:Tr AO
 nx:Nat
def dh (fr:Tr AV) (i:Nat):AV:=match fr.get i with
 | some v=>v
 | none=> .bT []
def ei (r:Rn) (n:Nat) (fr:Tr AV) (s:Nat→ag):Prop := ∀ i,i < n→den r (dh fr i)=some (s i)
def gl (r:Rn):List (AV×AV)→List MapEntry→Prop
 | [],[]=>True
 | p::l,m::es=>den r p.1=some m.key∧den r p.2=some m.val∧gl r l es
 | _,_=>False
def OR (P:ar) (r:Rn) (q:Loc):AO→Option Obj→Prop
 | .cells l e fz ex,o=> ∃ c fr us,o=some (.cells c e fr)∧aM r l=some us∧q.sh+l.length≤c.size∧(∀ j u,us[j]? =some u→c[q.sh+j]? =some u)∧fr.2≤q.sh+fz∧
  (∀ u∈us,u.oneCell'=true)∧((ex= .x→q.sh=0∧c.size=l.length∧fr=(0,fz))∧(ex≠.a→q.sh=0))∧∀ s,cC P e=some s→q.sh+q.room*s≤c.size
 | .map l,o=> ∃ es c,o=some (.map es c)∧gl r l es.toList∧(es.toList.map fun e=>e.key).Nodup
 | .loop st E n fr ps aR body D,o=> ∃ fn A C,o=some (.loop {state:=st,pending:=E,fn:=fn,tmps:=A,params:=ps.toArray,assign:=aR,body:=body,defers:=C})∧(∃ x,r D=some x∧x.ak=C)∧A.size=n∧∀ i,i < n→den r (dh fr i)=A[i]?
 | .kW b,o=>o=some (.deferred<|cond b (some []) none)
 | .yr l p,o=>o=some (.stringIter ⟨⟨l⟩⟩ p)
end Go.Hb
namespace Go.Hb
def kr (f:ag→Option AV):List ag→Option (List AV)
 | []=>some []
 | v::l=>match f v with
   | some a=>match kr f l with
     | some b=>some (a::b)
     | none=>none
   | none=>none
def ju:Nat→ag→Option AV
 | 0,_=>none
 | d+1,v=>match v with
   | .bool b=>some<|.bool b
   | .int k n=>some<|.int k n
   | .string ⟨⟨l⟩⟩=>some<|.str l
   | .pointer none=>some .gS
   | .slice none 0 0=>some .an
   | .map none=>some .kq
   | .nilFunc=>some .iS
   | .nilIface=>some .cN
   | .agg ⟨l⟩=>match kr (ju d) l with
     | some l=>some<|.agg l
     | none=>none
   | .tuple ⟨l⟩=>match kr (ju d) l with
     | some l=>some<|.bT l
     | none=>none
   | _=>none
theorem oW {f:ag→Option AV} {r:Rn} (A:∀ v a,f v=some a→den r a=some v):∀ {l:List ag} {m:List AV},kr f l=some m→aM r m=some l
 | [],m,h=>by simp only [kr,bK] at h; subst h; simp [aM]
 | v::l,m,h=>by
   simp only [kr] at h;split at h
   · rename_i a ha;split at h
     · rename_i b hb;cases h;exact dQ (A v a ha)<|oW A hb
     · cases h
   · cases h
theorem ml {r:Rn} :∀ (d:Nat) {v:ag} {a:AV},ju d v=some a→den r a=some v
 | 0,v,a,h=>by simp [ju] at h
 | d+1,v,a,h=>by
   simp only [ju] at h;split at h <;> first
    | (cases h; simp [den,str]; done)
    | (split at h
       · rename_i C A;cases h;simp only [den,oW (fun v a=>ml d) A]
       · cases h)
    | cases h
def ku (G n:Nat) (fr:Tr AV):aW→Option AV
 | .tmp t=>cond (aE t n) (some<|dh fr t) none
 | .const v=>ju 4 v
 | .func f=>some<|.fn f [] []
 | .global g=>cond (aE g G) (some<|.ptr g 0) none
def kv (G n:Nat) (fr:Tr AV):List aW→Option (List AV)
 | []=>some []
 | x::l=>match ku G n fr x with
   | some a=>match kv G n fr l with
     | some b=>some (a::b)
     | none=>none
   | none=>none
def ox (G:Nat) (r:Rn):Prop := ∀ g,g < G→∃ m,r g=some ⟨g,0,m⟩
section
variable {G:Nat} {fr:Tr AV} {r:Rn} {N:Fm} {σ:Nat→ag}
theorem qY (C:ox G r) (A:ei r N.n fr σ) {x:aW} {a:AV} (h:ku G N.n fr x=some a):den r a=some (ev N σ x):=by
 cases x with
 | tmp t=>
   simp only [ku] at h;cases hb:aE t N.n
   · rw [hb] at h; cases h
   · rw [hb] at h;simp only [cond_true,bK] at h;subst h;simp only [ev,hb,cond_true];exact A t<|by simpa [aE,rS,rV] using hb
 | const v=>exact ml 4 h
 | func f=>simp only [ku,bK] at h; subst h; simp [den,aM,ev]
 | global g=>
   simp only [ku] at h;cases hb:aE g G
   · rw [hb] at h; cases h
   · rw [hb] at h;simp only [cond_true,bK] at h;subst h;obtain ⟨m,hm⟩:=C g<|by simpa [aE,rS,rV] using hb
     simp only [den,hm,ev,lQ]
theorem tl (C:ox G r) (A:ei r N.n fr σ):∀ {l:List aW} {m:List AV},kv G N.n fr l=some m→aM r m=some (l.map<|ev N σ)
 | [],m,h=>by simp only [kv,bK] at h; subst h; simp [aM]
 | x::l,m,h=>by
   simp only [kv] at h;split at h
   · rename_i a ha;split at h
     · rename_i b hb;cases h;exact dQ (qY C A ha)<|tl C A hb
     · cases h
   · cases h
end
def gp:Op→List aW
 | .move x | .assign x | .box _ x | .load _ x | .nilCheck x | .unOp _ _ x | .convert _ _ x | .makeInterface _ x | .fieldAddr _ x _ | .field _ x _ | .range _ x | .next x _ | .typeAssert x _ _ _ | .extract x _=> [x]
 | .pick c a b=> [c,a,b]
 | .build _ ⟨ps⟩=>ps.map (·.2)
 | .buildSlice _ _ ⟨ps⟩=>ps.map (·.2)
 | .store _ a v | .binOp _ _ a v _ | .makeSlice _ a v | .indexAddr _ a v | .index _ a v | .lookup _ a v _=> [a,v]
 | .makeFunc _ ⟨a⟩ ⟨c⟩=>a++c
 | .slice _ x l h m=>x::(l.toList++(h.toList++m.toList))
 | .mapUpdate _ m k v | .insert _ m k v=> [m,k,v]
 | .call ⟨.value f,⟨l⟩,_⟩ | .defer ⟨.value f,⟨l⟩,_⟩=>f::l
 | .call ⟨.builtin _,⟨l⟩,_⟩=>l
 | _=> []
theorem eQ {r:Rn} {a:AV} {u:ag} (h:aM r [a]=some [u]):den r a=some u:=by
 obtain ⟨A,us,he,h1,_⟩:=dW h;cases he; exact h1
theorem im {r:Rn} {a b:AV} {u v:ag} (h:aM r [a,b]=some [u,v]):den r a=some u∧den r b=some v:=by
 obtain ⟨C,us,he,h1,A⟩:=dW h;cases he; exact ⟨h1,eQ A⟩
theorem l4 {r:Rn} {a b c:AV} {u v t:ag} (h:aM r [a,b,c]=some [u,v,t]):den r a=some u∧den r b=some v∧den r c=some t:=by
 obtain ⟨C,us,he,h1,A⟩:=dW h;cases he; exact ⟨h1,im A⟩
section
variable {r:Rn} {u:ag}
theorem cQ {k:bA} {n:Int} (h:den r (.int k n)=some u):u= .int k n:=by simpa [den] using h.symm
theorem jm {b:Bool} (h:den r (.bool b)=some u):u= .bool b:=by simpa [den] using h.symm
theorem gP {l:List UInt8} (h:den r (.str l)=some u):u=str l:=by simpa [den] using h.symm
theorem oH (h:den r .gS=some u):u= .pointer none:=by simpa [den] using h.symm
theorem iu (h:den r .an=some u):u= .slice none 0 0:=by simpa [den] using h.symm
theorem Aw (h:den r .kq=some u):u= .map none:=by simpa [den] using h.symm
theorem qx (h:den r .iS=some u):u= .nilFunc:=by simpa [den] using h.symm
theorem oG (h:den r .cN=some u):u= .nilIface:=by simpa [den] using h.symm
theorem iM {b o:Nat} (h:den r (.ptr b o)=some u):∃ q,r b=some q∧u= .pointer (some ⟨q.ak,q.sh+o,none⟩):=by
 simp only [den] at h;split at h
 · rename_i q A; exact ⟨q,A,(fH h).symm⟩
 · cases h
theorem mW {b:Nat} (h:den r (.map b)=some u):∃ q,r b=some q∧u= .map (some q.ak):=by
 simp only [den] at h;split at h
 · rename_i q A; exact ⟨q,A,(fH h).symm⟩
 · cases h
theorem vB {b:Nat} (h:den r (.gH b)=some u):∃ q,r b=some q∧u= .func (.yield q.ak) #[] #[]:=by
 simp only [den] at h;split at h
 · rename_i q A; exact ⟨q,A,(fH h).symm⟩
 · cases h
theorem Ax {b o n c:Nat} (h:den r (.sl b o n c true)=some u):∃ q,r b=some q∧n≤c∧u= .slice (some ⟨q.ak,q.sh+o,none⟩) n c:=by
 simp only [den] at h;split at h
 · rename_i q A;cases hb:bf n c
   · rw [hb] at h; cases h
   · rw [hb] at h;exact ⟨q,A,bN hb,(fH h).symm⟩
 · cases h
theorem sy {b o n c:Nat} (h:den r (.sl b o n c false)=some u):∃ q,r b=some q∧c+n≤q.room∧u= .slice (some ⟨q.ak,q.sh+o,none⟩) n (q.room - c):=by
 simp only [den] at h;split at h
 · rename_i q A;cases hb:bf (c+n) q.room
   · rw [hb] at h; cases h
   · rw [hb] at h;exact ⟨q,A,bN hb,(fH h).symm⟩
 · cases h
theorem iN {b o n c:Nat} {x:Bool} (h:den r (.sl b o n c x)=some u):∃ q cap,r b=some q∧n≤cap∧u= .slice (some ⟨q.ak,q.sh+o,none⟩) n cap∧(x=true→cap=c)∧(x=false→cap=q.room - c∧c+n≤q.room):=by
 cases x
 · obtain ⟨q,C,A,he⟩:=sy h;exact ⟨q,q.room - c,C,ab,he,(fun e=>by cases e),fun _=>⟨U,A⟩⟩
 · obtain ⟨q,C,A,he⟩:=Ax h;exact ⟨q,c,C,A,he,fun _=>rfl,fun e=>by cases e⟩
theorem l6 {f:Nat} {a c:List AV} (h:den r (.fn f a c)=some u):∃ A c',aM r a=some A∧aM r c=some c'∧u= .func (.func f) A.toArray c'.toArray:=by
 simp only [den] at h;split at h
 · rename_i A c' ha C; exact ⟨A,c',ha,C,(fH h).symm⟩
 · cases h
theorem sx {t:Nat} {v:AV} (h:den r (.fC t v)=some u):∃ A,den r v=some A∧u= .iface t A:=by
 simp only [den] at h;split at h
 · rename_i A C; exact ⟨A,C,(fH h).symm⟩
 · cases h
theorem qw {l:List AV} (h:den r (.agg l)=some u):∃ us,aM r l=some us∧u= .agg us.toArray:=by
 simp only [den] at h;split at h
 · rename_i C A; exact ⟨C,A,(fH h).symm⟩
 · cases h
theorem Ay {l:List AV} (h:den r (.bT l)=some u):∃ us,aM r l=some us∧u= .tuple us.toArray:=by
 simp only [den] at h;split at h
 · rename_i C A; exact ⟨C,A,(fH h).symm⟩
 · cases h
end
def wN (k:bA):Int→Bool
 | .ofNat m=>match k with
   | .i64=>aE m 9223372036854775808
   | .u8=>aE m 256
   | .u64=>aE m 18446744073709551616
   | .i32=>aE m 2147483648
   | .u32=>aE m 4294967296
   | .u16=>aE m 65536
   | _=>false
 | .negSucc m=>match k with
   | .i64=>aE m 9223372036854775808
   | .i32=>aE m 2147483648
   | _=>false
def nS (k:bA) (n:Int):Int:=cond (wN k n) n<|k.wrap n
theorem cB {a b:Nat} :aE a b=true↔a < b:=by simp [aE,rS,rV]
theorem u16_in (n:Int) (h:0≤n∧n≤65535):IntKind.u16.wrap n=n:=by
 unfold IntKind.wrap;simp only [IntKind.bits,IntKind.signed];simp;omega
theorem I4 {k:bA} {n:Int} (h:wN k n=true):k.wrap n=n:=by
 cases n with
 | ofNat m=>
   show k.wrap (m:Int)=(m:Int)
   cases k with
   | i64=>have :=cB.1 (show aE m 9223372036854775808=true from h); exact hJ ⟨ab,ab⟩
   | u8=>have :=cB.1 (show aE m 256=true from h); exact yK ⟨ab,ab⟩
   | u64=>have :=cB.1 (show aE m 18446744073709551616=true from h); exact gG ⟨ab,ab⟩
   | i32=>have :=cB.1 (show aE m 2147483648=true from h); exact yG ⟨ab,ab⟩
   | u32=>have :=cB.1 (show aE m 4294967296=true from h); exact Em ⟨ab,ab⟩
   | u16=>have :=cB.1 (show aE m 65536=true from h); exact u16_in _ ⟨ab,ab⟩
   | i8=>exact cJ (show false =true from h)
   | i16=>exact cJ (show false =true from h)
 | negSucc m=>
   rw [Int.negSucc_eq];cases k with
   | i64=>have :=cB.1 (show aE m 9223372036854775808=true from h); exact hJ ⟨ab,ab⟩
   | i32=>have :=cB.1 (show aE m 2147483648=true from h); exact yG ⟨ab,ab⟩
   | _=>exact cJ (show false =true from h)
theorem rz (k:bA) (n:Int):nS k n=k.wrap n:=by
 unfold nS;cases h:wN k n
 · rfl
 · exact (I4 h).symm
def fk (k:bA):Int→Option AV
 | .ofNat 0=>some<|.int k 0
 | .ofNat (m+1)=>some<|.int k<|.ofNat<|m+1
 | .negSucc 0=>some<|.int k<|-1
 | .negSucc (m+1)=>some<|.int k<|.negSucc<|m+1
theorem fP (k:bA) (n:Int):fk k n=some (.int k n):=by
 unfold fk;split <;> rfl
def iw:List UInt8→List UInt8→Bool
 | [],[]=>true
 | a::l,b::m=>cond (aP a.toNat b.toNat) (iw l m) false
 | _,_=>false
theorem oL:∀ l m:List UInt8,iw l m=decide (l=m)
 | [],[]=>by simp [iw]
 | [],_::_=>by simp [iw]
 | _::_,[]=>by simp [iw]
 | a::l,b::m=>by
   have ih:=oL l m;simp only [iw];cases h:aP a.toNat b.toNat
   · have :a≠b:=fun e=>by subst e; simp at h
     simp [this]
   · have :a=b:=oo.1<|bM h;simp [this,ih]
def nj:List UInt8→List UInt8→Bool
 | _,[]=>false
 | [],_::_=>true
 | a::l,b::m=>cond (aE a.toNat b.toNat) true<|cond (aP a.toNat b.toNat) (nj l m) false
theorem B5:∀ l m:List UInt8,nj l m=nu l m
 | [],[]=>rfl
 | _::_,[]=>rfl
 | [],_::_=>rfl
 | a::l,b::m=>by
   have ih:=B5 l m;rw [LM];simp only [nj];rcases rT a.toNat b.toNat with h | h | h
   · have A:a < b:=FR.2 h;simp [cB.2 h,A]
   · have e:a=b:=oo.1 h;subst e;have A:¬a < a:=UInt8.lt_irrefl a;have C:aE a.toNat a.toNat=false :=by cases hb:aE a.toNat a.toNat; rfl; exact absurd (cB.1 hb)<|Nat.lt_irrefl _
     simp [C,A,ih]
   · have A:¬a < b:=fun h'=>by have :=FR.1 h'; omega
     have C:aE a.toNat b.toNat=false :=by cases hb:aE a.toNat b.toNat; rfl; exact absurd (cB.1 hb) ab
     have E:aP a.toNat b.toNat=false :=by cases hb:aP a.toNat b.toNat; rfl; exact absurd (bM hb) ab
     have I:a≠b:=fun e=>by subst e; omega
     simp [C,E,A,I]
end Go.Hb
namespace Go.Hb
def sP (op:BinOp) (k:bA) (a b:Int):Option AV:=match op with
 | .add=>fk k<|nS k<|Int.add a b
 | .sub=>fk k<|nS k<|Int.sub a b
 | .mul=>fk k<|nS k<|Int.mul a b
 | .lss=>some<|.bool<|decide (a < b)
 | .leq=>some<|.bool<|decide (a≤b)
 | .gtr=>some<|.bool<|decide (b < a)
 | .geq=>some<|.bool<|decide (b≤a)
 | .eql=>some<|.bool<|decide (a=b)
 | .neq=>some<|.bool<|decide (a≠b)
 | .quo=>match a,b with
   | .ofNat a,.ofNat (b+1)=>fk k<|nS k<|.ofNat<|a / (b+1)
   | _,_=>none
 | .rem=>match a,b with
   | .ofNat a,.ofNat (b+1)=>fk k<|.ofNat<|a % (b+1)
   | _,_=>none
 | .or =>fk k<|k.wrap (iB k.bits a ||| iB k.bits b).toNat
 | .and =>fk k<|k.wrap (iB k.bits a &&& iB k.bits b).toNat
 | _=>none
def yb (op:BinOp) (k:bA) (a:Int) (b:Nat):Option AV:=match op with
 | .shr=>fk k<|a.fdiv<|2 ^ min b k.bits
 | .shl=>fk k<|k.wrap<|a*2 ^ min b k.bits
 | _=>none
def yq (op:BinOp) (l m:List UInt8):Option AV:=match op with
 | .eql=>some<|.bool<|iw l m
 | .neq=>some<|.bool<|!iw l m
 | .lss=>some<|.bool<|nj l m
 | .gtr=>some<|.bool<|!(nj l m || iw l m)
 | .leq=>some<|.bool (nj l m || iw l m)
 | .geq=>some<|.bool<|!nj l m
 | .add=>cond (bf (l.length+m.length) 9223372036854775807) (some<|.str<|l++m) none
 | _=>none
def qM (P:ar) (t:av):Bool:=match P.underlying t with
 | some (.pointer e)=>(P.info? e).isSome
 | _=>false
def j4 (P:ar) (t:av):Bool:=match P.underlying t with
 | some (.slice _)=>true
 | _=>false
def sQ (P:ar) (t:av):Bool:=match P.underlying t with
 | some (.func _ _ _)=>true
 | _=>false
def wP (P:ar) (t:av):Bool:=match P.underlying t with
 | some .bool=>true
 | _=>false
def sR (P:ar) (t:av):Bool:=match P.underlying t with
 | some (.interface _)=>true
 | _=>false
def isStr (P:ar) (t:av):Bool:=match P.underlying t with
 | some .string=>true
 | _=>false
def sD (P:ar) (A:Bool) (t:av) (x y:AV):Option Bool:=match x,y with
 | .ptr _ _,.gS=>cond (qM P t) (some false) none
 | .gS,.gS=>cond (qM P t) (some true) none
 | .ptr b o,.ptr b' o'=>cond (qM P t && (aP b b' && aP o o')) (some true) none
 | .sl _ _ _ _ _,.an=>cond (j4 P t) (some false) none
 | .an,.an=>cond (j4 P t) (some true) none
 | .fn _ _ _,.iS=>cond (sQ P t) (some false) none
 | .iS,.iS=>cond (sQ P t) (some true) none
 | .bool a,.bool b=>cond (wP P t) (some<|a==b) none
 | .fC _ _,.cN=>cond (sR P t) (some false) none
 | .cN,.cN=>cond (sR P t && A) (some true) none
 | _,_=>none
def vb (P:ar) (A:Bool) (op:BinOp) (t:av) (x y:AV):Option AV:=match x,y with
 | .int k a,.int k' b=>match op with
   | .shl | .shr=>match b with
     | .ofNat b=>yb op k a b
     | _=>none
   | _=>cond (aP (dL k)<|dL k') (sP op k a b) none
 | .str l,.str m=>yq op l m
 | x,y=>match op with
   | .eql=>match sD P A t x y with
     | some b=>some<|.bool b
     | none=>none
   | .neq=>match sD P A t x y with
     | some b=>some<|.bool<|!b
     | none=>none
   | _=>none
section
variable {P:ar} {r:Rn} {N:Fm} {σ:Nat→ag} {dst:Option Nat} {ty:av} {pos :String} {af:Array bQ} {g:Option (Nat×Bool)} {x y z:aW}
def YP (P:ar) (r:Rn) (N:Fm) (σ:Nat→ag) (o:aC) (v:AV):Prop := ∃ u,den r v=some u∧∀ w,(execOp (ev N σ) o).run P w= .ok (.value u) w
theorem I8 {op:BinOp} {k:bA} {a b:Int} {t E:av} {v:AV} (h:sP op k a b=some v) (A:ev N σ x= .int k a) (C:ev N σ y= .int k b):YP P r N σ ⟨dst,.binOp op t x y E,ty,pos,af,g⟩ v:=by
 unfold sP at h;split at h
 · rw [fP,rz] at h; cases h; exact ⟨_,rfl,fun w=>u6 _ A C rfl⟩
 · rw [fP,rz] at h; cases h; exact ⟨_,rfl,fun w=>xX _ A C rfl⟩
 · rw [fP,rz] at h; cases h; exact ⟨_,rfl,fun w=>xw _ A C rfl⟩
 · cases h; exact ⟨_,rfl,fun w=>lt A C⟩
 · cases h; exact ⟨_,rfl,fun w=>le A C⟩
 · cases h; exact ⟨_,rfl,fun w=>gt A C⟩
 · cases h; exact ⟨_,rfl,fun w=>ge A C⟩
 · cases h; exact ⟨_,rfl,fun w=>A0 A C⟩
 · cases h; exact ⟨_,rfl,fun w=>Ch A C⟩
 · split at h
   · rename_i a b;rw [fP,rz] at h; cases h;exact ⟨_,U,fun w=>KO _ A C ⟨fV _,Fc.2<|FP _⟩ U⟩
   · cases h
 · split at h
   · rename_i a b;rw [fP] at h; cases h;exact ⟨_,U,fun w=>rm A C ⟨fV _,Fc.2<|FP _⟩⟩
   · cases h
 · rw [fP] at h; cases h; exact ⟨_,rfl,fun w=>zP A C rfl⟩
 · rw [fP] at h; cases h; exact ⟨_,rfl,fun w=>cV A C rfl⟩
 · cases h
theorem LC {op:BinOp} {k E:bA} {a:Int} {b:Nat} {t I:av} {v:AV} (h:yb op k a b=some v) (A:ev N σ x= .int k a) (C:ev N σ y= .int E (kI b)):YP P r N σ ⟨dst,.binOp op t x y I,ty,pos,af,g⟩ v:=by
 unfold yb at h;split at h
 · rw [fP] at h; cases h; exact ⟨_,rfl,fun w=>shr A C (fV _) rfl⟩
 · rw [fP] at h; cases h; exact ⟨_,rfl,fun w=>shl A C (fV _) rfl⟩
 · cases h
theorem Mn {op:BinOp} {l m:List UInt8} {t E:av} {v:AV} (h:yq op l m=some v) (A:ev N σ x=str l) (C:ev N σ y=str m):YP P r N σ ⟨dst,.binOp op t x y E,ty,pos,af,g⟩ v:=by
 unfold yq at h;simp only [oL,B5] at h;split at h
 · cases h; exact ⟨_,rfl,fun w=>A2 A C⟩
 · cases h; exact ⟨.bool (decide (l≠m)),by simp [den],fun w=>Cj A C⟩
 · cases h; exact ⟨_,rfl,fun w=>JS A C⟩
 · cases h; exact ⟨_,rfl,fun w=>IU A C⟩
 · cases h; exact ⟨_,rfl,fun w=>JD A C⟩
 · cases h; exact ⟨_,rfl,fun w=>IN A C⟩
 · cases hb:bf (l.length+m.length) 9223372036854775807
   · rw [hb] at h; cases h
   · rw [hb] at h; cases h; exact ⟨_,rfl,fun w=>cc A C<|bN hb⟩
 · cases h
def c9:aW→Bool
 | .const _=>true
 | _=>false
def uU (P:ar) (t:av) (x y:aW) (u v:ag) (q:Bool):Prop :=
 (∀ w,(binOp .eql t u v).run P w= .ok (.bool q) w)∧(∀ w,(binOp .neq t u v).run P w= .ok (.bool<|!q) w)∧∀ op w,(eqGuard op t x y u v).run P w= .ok () w
theorem uU.of {t:av} {u v:ag} {q:Bool} (h:∀ d w,(iC (d+1) t u v).run P w= .ok q w) (h1:∀ w,(binOp .eql t u v).run P w=((mG t u v).run P w).andThen fun q w=> .ok (.bool q) w)
 (A:∀ w,(binOp .neq t u v).run P w=((mG t u v).run P w).andThen fun q w=> .ok (.bool<|!q) w) (C:∀ op w,(eqGuard op t x y u v).run P w= .ok () w):uU P t x y u v q:=by
 have e:∀ w,(mG t u v).run P w= .ok q w:=h 9999;exact ⟨fun w=>by rw [h1,e]; rfl,fun w=>by rw [A,e]; rfl,C⟩
theorem AX {Z:Bool} {t:av} {a b:AV} {u v:ag} {q:Bool} (ac:Z=true→(c9 x || c9 y)=true) (h:sD P Z t a b=some q) (hu:den r a=some u) (E:den r b=some v):uU P t x y u v q:=by
 have J:qM P t=true→∃ e i,P.underlying t=some (.pointer e)∧P.info? e=some i:=by
  intro hp;unfold qM at hp;split at hp
  · rename_i e he;obtain ⟨i,hi⟩:=Option.isSome_iff_exists.1 hp;exact ⟨e,i,he,hi⟩
  · cases hp
 have O:j4 P t=true→∃ e,P.underlying t=some (.slice e):=by
  intro hp; unfold j4 at hp; split at hp
  · exact ⟨_,by assumption⟩
  · cases hp
 have L:sQ P t=true→∃ a b c,P.underlying t=some (.func a b c):=by
  intro hp; unfold sQ at hp; split at hp
  · exact ⟨_,_,_,by assumption⟩
  · cases hp
 have M:sR P t=true→∃ m,P.underlying t=some (.interface m):=by
  intro hp; unfold sR at hp; split at hp
  · exact ⟨_,by assumption⟩
  · cases hp
 have B1:wP P t=true→P.underlying t=some .bool:=by
  intro hp; unfold wP at hp; split at hp
  · assumption
  · cases hp
 have I:∀ {c:Bool} {p:Option Bool} {q:Bool},cond c p none=some q→c=true∧p=some q:=by
  intro c p q h; cases c
  · cases h
  · exact ⟨U,h⟩
 unfold sD at h;split at h
 · obtain ⟨y,V,rfl⟩:=iM hu;obtain rfl :=oH E;obtain ⟨A,C⟩:=I h;cases C;obtain ⟨e,i,he,hi⟩:=J A;exact .of (fun d w=>vO d he) (fun w=>by simp [binOp]) (fun w=>by simp [binOp]) fun op w=>by simp [eqGuard]
 · obtain rfl :=oH hu;obtain rfl :=oH E;obtain ⟨A,C⟩:=I h;cases C;obtain ⟨e,i,he,hi⟩:=J A;exact .of (fun d w=>vO d he) (fun w=>by simp [binOp]) (fun w=>by simp [binOp]) fun op w=>by simp [eqGuard]
 · rename_i b o ah aj;obtain ⟨A,C⟩:=I h;cases C;simp only [a0] at A;obtain ⟨hp,h1,ab⟩:=A;obtain rfl :=bM h1;obtain rfl :=bM ab;rw [hu] at E; cases E;obtain ⟨y,V,rfl⟩:=iM hu;obtain ⟨e,i,he,hi⟩:=J hp;exact .of (fun d w=>by simp [iC,bB he,sizeOf,dj hi,sameAddr]) (fun w=>by simp [binOp]) (fun w=>by simp [binOp]) fun op w=>by simp [eqGuard]
 · obtain ⟨y,cap,V,_,rfl,_⟩:=iN hu;obtain rfl :=iu E;obtain ⟨A,C⟩:=I h;cases C;obtain ⟨e,he⟩:=O A;exact .of (fun d w=>vP d he) (fun w=>by simp [binOp]) (fun w=>by simp [binOp]) fun op w=>by simp [eqGuard]
 · obtain rfl :=iu hu;obtain rfl :=iu E;obtain ⟨A,C⟩:=I h;cases C;obtain ⟨e,he⟩:=O A;exact .of (fun d w=>vP d he) (fun w=>by simp [binOp]) (fun w=>by simp [binOp]) fun op w=>by simp [eqGuard]
 · obtain ⟨ae,c',ha,_,rfl⟩:=l6 hu;obtain rfl :=qx E;obtain ⟨A,C⟩:=I h;cases C;obtain ⟨_,_,_,he⟩:=L A;exact .of (fun d w=>by simp [iC,bB he]) (fun w=>by simp [binOp]) (fun w=>by simp [binOp]) fun op w=>by simp [eqGuard]
 · obtain rfl :=qx hu;obtain rfl :=qx E;obtain ⟨A,C⟩:=I h;cases C;obtain ⟨_,_,_,he⟩:=L A;exact .of (fun d w=>by simp [iC,bB he]) (fun w=>by simp [binOp]) (fun w=>by simp [binOp]) fun op w=>by simp [eqGuard]
 · obtain rfl :=jm hu;obtain rfl :=jm E;obtain ⟨A,C⟩:=I h;cases C;exact .of (fun d w=>AZ d<|B1 A) (fun w=>by simp [binOp]) (fun w=>by simp [binOp]) fun op w=>by simp [eqGuard]
 · obtain ⟨ak,ai,rfl⟩:=sx hu;obtain rfl :=oG E;obtain ⟨A,C⟩:=I h;cases C;obtain ⟨_,he⟩:=M A;exact .of (fun d w=>by simp [iC,bB he]) (fun w=>by simp [binOp]) (fun w=>by simp [binOp]) fun op w=>by simp [eqGuard]
 · obtain rfl :=oG hu;obtain rfl :=oG E;obtain ⟨A,C⟩:=I h;cases C;simp only [a0] at A;obtain ⟨_,he⟩:=M A.1;have ad:=ac A.2;exact .of (fun d w=>by simp [iC,bB he]) (fun w=>by simp [binOp]) (fun w=>by simp [binOp]) (fun op w=>by
    cases x <;> cases y <;> first | (cases ad; done) | simp [eqGuard])
 · cases h
theorem Gs {V:Bool} {op:BinOp} {t Z:av} {a b v:AV} (A:V=true→(c9 x || c9 y)=true) (h:vb P V op t a b=some v) (E:den r a=some (ev N σ x)) (I:den r b=some (ev N σ y)):YP P r N σ ⟨dst,.binOp op t x y Z,ty,pos,af,g⟩ v:=by
 unfold vb at h;split at h
 · rename_i k a O b;have h1:=cQ E;have M:=cQ I;have key:(cond (aP (dL k)<|dL O) (sP op k a b) none)=some v→YP P r N σ ⟨dst,.binOp op t x y Z,ty,pos,af,g⟩ v:=by
    intro C;cases A:aP (dL k) (dL O)
    · rw [A] at C; cases C
    · rw [A] at C;obtain rfl :=nb A;exact I8 C h1 M
   cases op <;> first
    | exact key h
    | (dsimp only at h
       split at h
       · exact LC h h1 M
       · cases h)
 · exact Mn h (gP E)<|gP I
 · split at h
   · split at h
     · rename_i q L;cases h;obtain ⟨h1,_,J⟩:=AX A L E I;exact ⟨_,U,fun w=>by simp [execOp,h1,J]⟩
     · cases h
   · split at h
     · rename_i q L;cases h;obtain ⟨_,h1,J⟩:=AX A L E I;exact ⟨_,U,fun w=>by simp [execOp,h1,J]⟩
     · cases h
   · cases h
end
def yd (e b o n c:Nat) (x:Bool) (i j:Nat):Option AV:=
 cond (bf i j) (cond x (cond (bf j c) (cond (aP c i) (some<|.sl b o (j - i) (c - i) true)<|some<|.sl b (o+i*e) (j - i) (c - i) true) none)
  (cond (bf j n && (aP i 0 || aE i n)) (some<|.sl b (o+i*e) (j - i) (c+i) false) none)) none
def pw (P:ar) (t:av) (x:AV) (lo hi:Option Nat):Option AV:=match x with
 | .str l=>cond (isStr P t && (bf (lo.getD 0) (hi.getD l.length) && bf (hi.getD l.length) l.length)) (some<|.str<|(l.take<|hi.getD l.length).drop<|lo.getD 0) none
 | .sl b o n c q=>match cY P t with
   | some e=>yd e b o n c q (lo.getD 0)<|hi.getD n
   | none=>none
 | .an=>match cY P t with
   | some _=>cond (aP (lo.getD 0) 0 && aP (hi.getD 0) 0) (some .an) none
   | none=>none
 | _=>none
def yc (P:ar) (t:av) (lo hi mx:Option aW) (xs:List AV):Option AV:=match lo,hi,mx with
 | none,some _,none=>match xs with
   | [x,.int _ (.ofNat j)]=>pw P t x none<|some j
   | _=>none
 | some _,none,none=>match xs with
   | [x,.int _ (.ofNat i)]=>pw P t x (some i) none
   | _=>none
 | some _,some _,none=>match xs with
   | [x,.int _ (.ofNat i),.int _ (.ofNat j)]=>pw P t x (some i)<|some j
   | _=>none
 | none,some _,some _=>match xs with
   | [.sl b o n c q,.int _ (.ofNat j),.int _ (.ofNat m)]=>match cY P t with
     | some e=>cond (aP j m && bf m n) (some<|.sl b o j j true) none
     | none=>none
   | _=>none
 | some _,some _,some _=>match xs with
   | [.sl b o n c q,.int _ (.ofNat i),.int _ (.ofNat j),.int _ (.ofNat m)]=>match cY P t with
     | some e=>cond (bf i j && (bf j m && bf m n)) (cond (aP m i) (some<|.sl b o (j - i) (m - i) true)<|some<|.sl b (o+i*e) (j - i) (m - i) true) none
     | none=>none
   | _=>none
 | _,_,_=>none
section
variable {P:ar} {r:Rn} {N:Fm} {σ:Nat→ag} {dst:Option Nat} {ty:av} {pos :String} {af:Array bQ} {g:Option (Nat×Bool)} {x y z:aW}
theorem aY {α:Type} {c:Bool} {p:Option α} {q:α} (h:cond c p none=some q):c=true∧p=some q:=by
 cases c
 · cases h
 · exact ⟨U,h⟩
theorem l5 {b o n c:Nat} {q:Loc} (A:r b=some q) (h:n≤c):den r (.sl b o n c true)=some (.slice (some ⟨q.ak,q.sh+o,none⟩) n c):=by
 simp only [den,A,cond_true,zj h]
theorem oF {b o n c:Nat} {q:Loc} (A:r b=some q) (h:c+n≤q.room):den r (.sl b o n c false)=some (.slice (some ⟨q.ak,q.sh+o,none⟩) n<|q.room - c):=by
 simp only [den,A,cond_true,cond_false,zj h]
theorem ye {e b o n c i j:Nat} {q:Bool} {v:AV} {u:ag} (h:yd e b o n c q i j=some v) (hu:den r (.sl b o n c q)=some u):
 ∃ a cap,u= .slice a n cap∧n≤cap∧i≤j∧j≤cap∧den r v=some (.slice (ez a cap i e) (j - i)<|cap - i):=by
 unfold yd at h;replace h:=aY h; obtain ⟨h1,h⟩:=h;have h1:=bN h1;cases q
 · simp only [cond_false] at h;replace h:=aY h; obtain ⟨A,h⟩:=h;simp only [a0,nW] at A;obtain ⟨q,C,E,rfl⟩:=sy hu;have L:=bN A.1;cases h;refine ⟨_,_,U,ab,h1,ab,?_⟩;have J:ez (some ⟨q.ak,q.sh+o,none⟩) (q.room - c) i e=some ⟨q.ak,q.sh+(o+i*e),none⟩:=by
    unfold ez;rcases A.2 with A | A
    · obtain rfl :=bM A;split
      · simp
      · simp [gd]
    · have :=cB.1 A;rw [if_neg ab];simp [gd,iI]
   rw [J,oF C ab,show q.room - (c+i)=q.room - c - i from by omega]
 · simp only [cond_true] at h;replace h:=aY h; obtain ⟨A,h⟩:=h;have A:=bN A;obtain ⟨q,C,E,rfl⟩:=Ax hu;refine ⟨_,_,U,E,h1,A,?_⟩;cases hb:aP c i
   · rw [hb] at h; cases h;have I:c≠i:=fun e=>by subst e; simp at hb
     rw [l5 C ab];simp only [ez,if_neg I,fG,gd,iI]
   · rw [hb] at h; cases h;obtain rfl :=bM hb;rw [l5 C ab];simp only [ez,if_true]
theorem l9 {t:av} (h:isStr P t=true):P.underlying t=some .string:=by
 unfold isStr at h; split at h
 · assumption
 · cases h
theorem Dp (c i e:Nat):ez none c i e=none:=by unfold ez; split <;> rfl
theorem LG (a:Option Addr) (c e:Nat):ez a c 0 e=a:=by
 unfold ez; split
 · rfl
 · cases a <;> simp [Addr.add]
theorem LL {t:av} {lo hi mx:Option aW} {xs:List AV} {v:AV} (h:yc P t lo hi mx xs=some v) (O:aM r xs=some ((x::(lo.toList++(hi.toList++mx.toList))).map<|ev N σ)):
 YP P r N σ ⟨dst,.slice t x lo hi mx,ty,pos,af,g⟩ v:=by
 unfold yc at h;split at h
 · rename_i z;split at h
   · rename_i a k j;obtain ⟨h1,E⟩:=im (u:=ev N σ x) (v:=ev N σ z) O;have C:=cQ E;unfold pw at h;split at h
     · replace h:=aY h; obtain ⟨A,h⟩:=h;simp only [a0,qg,jh] at A;cases h;refine ⟨_,U,fun w=>(ym (l9 A.1) (gP h1) C ⟨fV _,?_⟩).trans ?_⟩
       · have :=bN A.2.2; simp; omega
       · simp
     · split at h
       · rename_i e he;obtain ⟨a,cap,hu,Z,I,J,L⟩:=ye h h1;simp only [qg,jh] at I J L;refine ⟨_,L,fun w=>(yi he hu C ⟨fV _,by simp; omega⟩).trans ?_⟩;simp [LG]
       · cases h
     · split at h
       · rename_i e he;replace h:=aY h; obtain ⟨A,h⟩:=h;simp only [a0,qg,jh] at A;obtain rfl :=bM A.2;cases h;exact ⟨_,U,fun w=>yi he (iu h1) C ⟨fV _,by simp⟩⟩
       · cases h
     · cases h
   · cases h
 · rename_i z;split at h
   · rename_i a k j;obtain ⟨h1,E⟩:=im (u:=ev N σ x) (v:=ev N σ z) O;have C:=cQ E;unfold pw at h;split at h
     · replace h:=aY h; obtain ⟨A,h⟩:=h;simp only [a0,qg,jh] at A;cases h;refine ⟨_,U,fun w=>(Du (l9 A.1) (gP h1) C ⟨fV _,?_⟩).trans ?_⟩
       · have :=bN A.2.1; simp; omega
       · simp
     · split at h
       · rename_i e he;obtain ⟨a,cap,hu,Z,I,J,L⟩:=ye h h1;simp only [qg,jh] at I J L;exact ⟨_,L,fun w=>yj he hu C ⟨fV _,by simp; omega⟩⟩
       · cases h
     · split at h
       · rename_i e he;replace h:=aY h; obtain ⟨A,h⟩:=h;simp only [a0,qg,jh] at A;obtain rfl :=bM A.1;cases h;exact ⟨_,U,fun w=>(yj he (iu h1) C ⟨fV _,by simp⟩).trans<|by simp [Dp]⟩
       · cases h
     · cases h
   · cases h
 · rename_i y z;split at h
   · rename_i a k i ag j;obtain ⟨h1,E,I⟩:=l4 (u:=ev N σ x) (v:=ev N σ y) (t:=ev N σ z) O;have M:=cQ E;have C:=cQ I;unfold pw at h;split at h
     · replace h:=aY h; obtain ⟨A,h⟩:=h;simp only [a0,jh] at A;cases h;have :=bN A.2.1;have :=bN A.2.2;exact ⟨_,U,fun w=>my (l9 A.1) (gP h1) M C ⟨fV _,by simp; omega,by simp; omega⟩⟩
     · split at h
       · rename_i e he;obtain ⟨a,cap,hu,Z,J,L,ad⟩:=ye h h1;simp only [jh] at J L ad;exact ⟨_,ad,fun w=>yg he hu M C ⟨fV _,by simp; omega,by simp; omega⟩⟩
       · cases h
     · split at h
       · rename_i e he;replace h:=aY h; obtain ⟨A,h⟩:=h;simp only [a0,jh] at A;obtain rfl :=bM A.1;obtain rfl :=bM A.2;cases h;exact ⟨_,U,fun w=>(yg he (iu h1) M C ⟨fV _,by simp,by simp⟩).trans<|by simp [Dp]⟩
       · cases h
     · cases h
   · cases h
 · rename_i y z;split at h
   · rename_i b o n c q k j ag m;obtain ⟨h1,E,I⟩:=l4 (u:=ev N σ x) (v:=ev N σ y) (t:=ev N σ z) O;have M:=cQ E;have C:=cQ I;split at h
     · rename_i e he;replace h:=aY h; obtain ⟨A,h⟩:=h;simp only [a0] at A;obtain rfl :=bM A.1;have :=bN A.2;cases h;obtain ⟨q,cap,ac,Z,hu,_⟩:=iN h1;exact ⟨_,l5 ac (aQ _),fun w=>G7 he hu M C ab⟩
     · cases h
   · cases h
 · rename_i y z u;split at h
   · rename_i b o n c q k i ag j al m;obtain ⟨_,_,V,h1,J⟩:=dW O;obtain ⟨E,I,J⟩:=l4 (u:=ev N σ y) (v:=ev N σ z) (t:=ev N σ u)<|by simp at V; rw [J,← V.2]
     have M:=cQ E;have C:=cQ I;have hu:=cQ J;simp at V;rw [← V.1] at h1;split at h
     · rename_i e he;replace h:=aY h; obtain ⟨A,h⟩:=h;simp only [a0] at A;have aj:=bN A.1;have ak:=bN A.2.1;have am:=bN A.2.2;obtain ⟨q,cap,ac,Z,ai,_⟩:=iN h1;have ae:=fun w=>LK (dst:=dst) (ty:=ty) (pos :=pos) (af:=af) (g:=g) (w:=w) he ai M C hu ⟨aj,ak,ab⟩;cases hb:aP m i
       · rw [hb] at h; cases h;have ah:m≠i:=fun e=>by subst e; simp at hb
         refine ⟨_,l5 ac ab,fun w=>(ae w).trans ?_⟩;simp only [ez,if_neg ah,fG,gd,iI]
       · rw [hb] at h; cases h;obtain rfl :=bM hb;refine ⟨_,l5 ac ab,fun w=>(ae w).trans ?_⟩;simp only [ez,if_true]
     · cases h
   · cases h
 · cases h
end
end Go.Hb
namespace Go.Hb
def kR:AV→List AV
 | .agg l=>l
 | v=> [v]
theorem vj {r:Rn} {v:AV} {u:ag} (h:den r v=some u):aM r (kR v)=some u.cells.toList:=by
 cases v with
 | agg l=>
   obtain ⟨us,C,rfl⟩:=qw h;simpa [kR,Value.cells] using C
 | bool b=>have :=jm h; subst this; exact dQ h<|by simp [aM]
 | int k n=>have :=cQ h; subst this; exact dQ h<|by simp [aM]
 | str l=>have :=gP h; subst this; exact dQ h<|by simp [aM]
 | ptr b o=>obtain ⟨q,A,rfl⟩:=iM h; exact dQ h<|by simp [aM]
 | gS=>have :=oH h; subst this; exact dQ h<|by simp [aM]
 | sl b o n c x=>obtain ⟨q,cap,A,_,rfl,_⟩:=iN h; exact dQ h<|by simp [aM]
 | an=>have :=iu h; subst this; exact dQ h<|by simp [aM]
 | map b=>obtain ⟨q,A,rfl⟩:=mW h; exact dQ h<|by simp [aM]
 | kq=>have :=Aw h; subst this; exact dQ h<|by simp [aM]
 | fn f a c=>obtain ⟨_,_,_,_,rfl⟩:=l6 h; exact dQ h<|by simp [aM]
 | gH l=>obtain ⟨q,A,rfl⟩:=vB h; exact dQ h<|by simp [aM]
 | iS=>have :=qx h; subst this; exact dQ h<|by simp [aM]
 | fC t v=>obtain ⟨_,_,rfl⟩:=sx h; exact dQ h<|by simp [aM]
 | cN=>have :=oG h; subst this; exact dQ h<|by simp [aM]
 | bT l=>obtain ⟨_,_,rfl⟩:=Ay h; exact dQ h<|by simp [aM]
def tk:AV→Bool
 | .agg _ | .bT _=>false
 | _=>true
theorem Kw {r:Rn} {v:AV} {u:ag} (h:den r v=some u) (h1:tk v=true):u.oneCell'=true :=by
 cases v with
 | agg l=>cases h1
 | bool b=>have :=jm h; subst this; rfl
 | int k n=>have :=cQ h; subst this; rfl
 | str l=>have :=gP h; subst this; rfl
 | ptr b o=>obtain ⟨q,A,rfl⟩:=iM h; rfl
 | gS=>have :=oH h; subst this; rfl
 | sl b o n c x=>obtain ⟨q,cap,A,_,rfl,_⟩:=iN h; rfl
 | an=>have :=iu h; subst this; rfl
 | map b=>obtain ⟨q,A,rfl⟩:=mW h; rfl
 | kq=>have :=Aw h; subst this; rfl
 | fn f a c=>obtain ⟨_,_,_,_,rfl⟩:=l6 h; rfl
 | gH l=>obtain ⟨q,A,rfl⟩:=vB h; rfl
 | iS=>have :=qx h; subst this; rfl
 | fC t v=>obtain ⟨_,_,rfl⟩:=sx h; rfl
 | cN=>have :=oG h; subst this; rfl
 | bT l=>cases h1
def dZ:List AV→Bool
 | []=>true
 | v::l=>cond (tk v) (dZ l) false
theorem oY {r:Rn} :∀ {l:List AV} {us:List ag},aM r l=some us→dZ l=true→∀ u∈us,u.oneCell'=true
 | [],us,h,_,u,hu=>by rw [kh h] at hu; cases hu
 | v::l,us,h,h1,u,hu=>by
   obtain ⟨E,I,rfl,A,C⟩:=dW h;simp only [dZ] at h1;cases hv:tk v
   · rw [hv] at h1; cases h1
   · rw [hv] at h1;rcases ef.1 hu with rfl | hu
     · exact Kw A hv
     · exact oY C h1 u hu
def m7 (pl:Nat→Option (Nat×Nat)):List AV→List (Nat×AV)→Option (List AV)
 | A,[]=>some A
 | A,(i,v)::ps=>match pl i with
   | some (off,s)=>cond (aP (kR v).length s && bf (off+s) A.length) (m7 pl (A.take off++(kR v++A.drop (off+s))) ps) none
   | none=>none
theorem A8:∀ (l:List ag) (m off :Nat) (cs:Array ag),off+m+l.length≤cs.size→
 (l.zipIdx m).foldl (fun (cs:Array ag) (c,j)=>cs.setIfInBounds (off+j) c) cs=(cs.toList.take (off+m)++(l++cs.toList.drop (off+m+l.length))).toArray
 | [],m,off,cs,h=>by simp
 | c::l,m,off,cs,h=>by
   simp only [List.zipIdx_cons,List.foldl_cons,dC] at h ⊢;rw [A8 l (m+1) off _ (by simp; omega)];apply rC.1;have A:off+m < cs.toList.length:=by rw [lH]; omega
   simp only [Array.toList_setIfInBounds];rw [show off+(m+1)=off+m+1 from by omega,Ly A,Lx ab,show off+m+1 +l.length=off+m+(l.length+1) from by omega];simp
theorem vW {r:Rn} {pl:Nat→Option (Nat×Nat)} :∀ {ps:List (Nat×AV)} {E L:List AV} {Z:List ag} {vs:List (Nat×ag)},m7 pl E ps=some L→aM r E=some Z→
 vs.map gN=ps.map gN→aM r (ps.map uT)=some (vs.map uT)→∃ C,aM r L=some C∧jb pl Z.toArray vs=some C.toArray
 | [],E,L,Z,vs,h,hz,h1,A=>by
   simp only [m7,bK] at h;subst h;obtain rfl :vs= []:=by simpa using h1
   exact ⟨Z,hz,U⟩
 | (i,v)::ps,E,L,Z,vs,h,hz,h1,A=>by
   cases vs with
   | nil=>simp at h1
   | cons p vs=>
     obtain ⟨j,u⟩:=p;simp only [dG,lN] at h1;obtain ⟨rfl,h1⟩:=h1;simp only [dG] at A;obtain ⟨al,am,he,ah,A⟩:=dW A;simp only [lN] at he;obtain ⟨rfl,rfl⟩:=he;simp only [m7] at h;split at h
     · rename_i off s ae;replace h:=aY h; obtain ⟨I,h⟩:=h;simp only [a0] at I;have O:=bM I.1;have aj:=bN I.2;have J:=vj ah;have ad:=de J;have ak:=de hz;have ai:=fA (jl off hz)<|fA J<|jS (off+s) hz;obtain ⟨C,V,ab⟩:=vW h ai h1 A;refine ⟨C,V,?_⟩;have M:u.cells.size=s:=by rw [← lH,ad,O]
       simp only [jb,ae,M];rw [if_neg (by simp; omega),← ab];congr 1;have ac:=A8 u.cells.toList 0 off Z.toArray<|by simp; omega
       rw [show u.cells.zipIdx.foldl (fun (cs:Array ag) (c,j)=>cs.setIfInBounds (off+j) c) Z.toArray=((u.cells.toList.zipIdx 0).foldl (fun (cs:Array ag) (c,j)=>cs.setIfInBounds (off+j) c) Z.toArray) from by
        rw [← Ew]; simp [Array.toList_zipIdx],ac]
       simp [M]
     · cases h
def lG:List (Nat×aW)→List AV→List (Nat×AV)
 | p::ps,v::vs=>(p.1,v)::lG ps vs
 | _,_=> []
theorem yN {r:Rn} {f:aW→ag} :∀ {ps:List (Nat×aW)} {xs:List AV},aM r xs=some ((ps.map (·.2)).map f)→
 (ps.map fun p=>(p.1,f p.2)).map gN=(lG ps xs).map gN∧aM r ((lG ps xs).map uT)=some ((ps.map fun p=>(p.1,f p.2)).map uT)
 | [],xs,h=>by
   have :=de h;obtain rfl :xs= []:=jF<|by simpa using this.symm
   simp [lG,aM]
 | p::ps,[],h=>by have :=de h; simp at this
 | p::ps,v::xs,h=>by
   simp only [dG] at h;obtain ⟨u,us,he,h1,A⟩:=dW h;simp only [lN] at he;obtain ⟨rfl,rfl⟩:=he;obtain ⟨C,E⟩:=yN (f:=f) A;refine ⟨?_,?_⟩
   · simp only [dG,lG,lN,true_and]; exact C
   · simp only [dG,lG]; exact dQ h1 E
def z5 (P:ar) (t u:av) (n:Int):Option AV:=match P.underlying u with
 | some (.int k)=>cond (P.underlying t).isSome (fk k<|nS k n) none
 | _=>none
def vd (P:ar) (b:Builtin) (A:Array av) (xs:List AV):Option AV:=match b with
 | .len=>match xs,A with
   | [.str l],⟨[t]⟩=>cond (isStr P t) (fk .i64 l.length) none
   | [.sl _ _ n _ _],⟨[t]⟩=>cond (j4 P t) (fk .i64 n) none
   | [.an],⟨[t]⟩=>cond (j4 P t) (fk .i64 0) none
   | _,_=>none
 | .min =>match xs with
   | [.int k a,.int k' b]=>cond (aP (dL k)<|dL k') (fk k<|min a b) none
   | _=>none
 | .max =>match xs with
   | [.int k a,.int k' b]=>cond (aP (dL k)<|dL k') (fk k<|max a b) none
   | _=>none
 | _=>none
def zJ (P:ar) (t:av):Option (Nat×Nat):=match P.underlying t with
 | some (.array n e)=>match P.info? e with
   | some i=>match dd P e with
     | some none=>some (n,i.size)
     | _=>none
   | none=>none
 | _=>none
def np (P:ar) (o:Op) (xs:List AV):Option AV:=match o with
 | .move _=>match xs with
   | [x]=>some x
   | _=>none
 | .assign _=>match xs with
   | [x]=>some x
   | _=>none
 | .pick _ _ _=>match xs with
   | [.bool true,a,_]=>some a
   | [.bool false,_,b]=>some b
   | _=>none
 | .nilCheck _=>match xs with
   | [.ptr b o]=>some<|.ptr b o
   | _=>none
 | .extract _ i=>match xs with
   | [.bT l]=>l[i]?
   | _=>none
 | .fieldAddr s _ f=>match xs with
   | [.ptr b o]=>match m6 P s f with
     | some n=>some<|.ptr b<|o+n
     | none=>none
   | _=>none
 | .field s _ f=>match xs with
   | [.agg l]=>match vU P s f with
     | some n=>l[n]?
     | none=>match vV P s f with
       | some (C,off)=>match dd P C with
         | some (some n)=>some<|.agg<|(l.drop off).take n
         | _=>none
       | none=>none
   | _=>none
 | .indexAddr s _ _=>match xs with
   | [.sl b o n _ _,.int _ (.ofNat i)]=>match cY P s with
     | some e=>cond (aE i n) (some<|.ptr b<|o+i*e) none
     | none=>none
   | [.ptr b o,.int _ (.ofNat i)]=>match kP P s with
     | some (n,e)=>cond (aE i n) (some<|.ptr b<|o+i*e) none
     | none=>none
   | _=>none
 | .index t _ _=>match xs with
   | [.str l,.int _ (.ofNat i)]=>cond (isStr P t) (match l[i]? with
     | some c=>fk .u8 c.toNat
     | none=>none) none
   | [.agg l,.int _ (.ofNat i)]=>match zJ P t with
     | some (n,s)=>cond (aE i n) l[i*s]? none
     | none=>none
   | _=>none
 | .binOp op t x y _=>match xs with
   | [a,b]=>vb P (c9 x || c9 y) op t a b
   | _=>none
 | .unOp .not _ _=>match xs with
   | [.bool b]=>some<|.bool<|!b
   | _=>none
 | .convert t u _=>match xs with
   | [.int _ n]=>z5 P t u n
   | _=>none
 | .slice t _ lo hi mx=>yc P t lo hi mx xs
 | .makeInterface t _=>match xs with
   | [x]=>cond (ko P t) (some<|.fC t x) none
   | _=>none
 | .typeAssert _ _ a true =>match xs with
   | [.cN]=>cond (ko P a) (match zeroV P a with
     | some z=>match ju 4 z with
       | some z=>some<|.bT [z,.bool false]
       | none=>none
     | none=>none) none
   | [.fC t v]=>cond (ko P a && aP t a) (some<|.bT [v,.bool true]) none
   | _=>none
 | .makeFunc (.func f) ⟨a⟩ _=>some<|.fn f (xs.take a.length)<|xs.drop a.length
 | .build t ⟨ps⟩=>match eA P t with
   | some (pl,A)=>match kr (ju 4) A with
     | some A=>match m7 (fun i=>pl.toArray[i]?) A (lG ps xs) with
       | some l=>some<|.agg l
       | none=>none
     | none=>none
   | none=>none
 | .call ⟨.builtin b,_,ts⟩=>vd P b ts xs
 | _=>none
section
variable {P:ar} {r:Rn} {N:Fm} {σ:Nat→ag} {dst:Option Nat} {ty:av} {pos :String} {af:Array bQ} {g:Option (Nat×Bool)} {x y z:aW}
theorem qN {t:av} (h:j4 P t=true):∃ e,P.underlying t=some (.slice e):=by
 unfold j4 at h; split at h
 · exact ⟨_,by assumption⟩
 · cases h
theorem Gv {b:Builtin} {l:List aW} {J:Array av} {xs:List AV} {v:AV} (h:vd P b J xs=some v) (E:aM r xs=some (l.map<|ev N σ)):YP P r N σ ⟨dst,.call ⟨.builtin b,⟨l⟩,J⟩,ty,pos,af,g⟩ v:=by
 unfold vd at h;have one:∀ {a:AV},aM r [a]=some (l.map<|ev N σ)→∃ x,l= [x]∧den r a=some (ev N σ x):=by
  intro a h;have :=de h;simp at this;obtain ⟨x,rfl⟩:=rO.1 this;exact ⟨x,U,eQ h⟩
 have two:∀ {a b:AV},aM r [a,b]=some (l.map<|ev N σ)→∃ x y,l= [x,y]∧den r a=some (ev N σ x)∧den r b=some (ev N σ y):=by
  intro a b h;have :=de h;simp at this;obtain ⟨x,y,rfl⟩:∃ x y,l= [x,y]:=by
   match l,this with
   | [x,y],_=>exact ⟨x,y,rfl⟩
  exact ⟨x,y,U,im h⟩
 split at h
 · split at h
   · obtain ⟨x,rfl,C⟩:=one E;replace h:=aY h; obtain ⟨A,h⟩:=h;rw [fP] at h; cases h;exact ⟨_,U,fun w=>BY (l9 A) U<|gP C⟩
   · obtain ⟨x,rfl,C⟩:=one E;replace h:=aY h; obtain ⟨A,h⟩:=h;rw [fP] at h; cases h;obtain ⟨e,he⟩:=qN A;obtain ⟨q,cap,M,_,hu,_⟩:=iN C;exact ⟨_,U,fun w=>xg he U hu⟩
   · obtain ⟨x,rfl,C⟩:=one E;replace h:=aY h; obtain ⟨A,h⟩:=h;rw [fP] at h; cases h;obtain ⟨e,he⟩:=qN A;exact ⟨_,U,fun w=>xg he U<|iu C⟩
   · cases h
 · split at h
   · rename_i k a L b;obtain ⟨x,y,rfl,C,I⟩:=two E;replace h:=aY h; obtain ⟨A,h⟩:=h;obtain rfl :=nb A;rw [fP] at h; cases h;exact ⟨_,U,fun w=>mn (cQ C)<|cQ I⟩
   · cases h
 · split at h
   · rename_i k a L b;obtain ⟨x,y,rfl,C,I⟩:=two E;replace h:=aY h; obtain ⟨A,h⟩:=h;obtain rfl :=nb A;rw [fP] at h; cases h;exact ⟨_,U,fun w=>mx (cQ C)<|cQ I⟩
   · cases h
 · cases h
theorem Gt {t:av} {parts:Array (Nat×aW)} {pl:List (Nat×Nat)} {C L:List ag} (h:eA P t=some (pl,C)) (A:jb (pl.toArray[·]?) C.toArray (parts.toList.map fun p=>(p.1,ev N σ p.2))=some L.toArray) (w:ah):
 (execOp (ev N σ) ⟨dst,.build t parts,ty,pos,af,g⟩).run P w= .ok (.value<|.agg L.toArray) w:=by
 unfold eA at h;split at h
 · rename_i it fields hi hu;split at h
   · rename_i z I E hm;simp only [bK,ig] at h;obtain ⟨rfl,rfl⟩:=h;have hb:P.built t (parts.map fun p=>(p.1,ev N σ p.2)).toList=some L.toArray:=by
      simp only [Array.toArray_toList] at A;simp only [Program.built,hi,hu,E,hm,ja]; exact A
     simp [execOp,run_build w t _ _ hb]
   · cases h
 · cases h
theorem Cz {o:Op} {xs:List AV} {v:AV} (h:np P o xs=some v) (A:aM r xs=some ((gp o).map<|ev N σ)):YP P r N σ ⟨dst,o,ty,pos,af,g⟩ v:=by
 unfold np at h;split at h
 · split at h
   · cases h; exact ⟨_,eQ A,fun w=>mv⟩
   · cases h
 · split at h
   · cases h; exact ⟨_,eQ A,fun w=>aR⟩
   · cases h
 · split at h
   · cases h;obtain ⟨h1,E,Z⟩:=l4 A;exact ⟨_,E,fun w=>nq<|jm h1⟩
   · cases h;obtain ⟨h1,E,Z⟩:=l4 A;exact ⟨_,Z,fun w=>o6<|jm h1⟩
   · cases h
 · split at h
   · cases h;have h1:=eQ A;obtain ⟨q,M,hu⟩:=iM h1;exact ⟨_,h1.trans (by rw [hu]),fun w=>nc hu⟩
   · cases h
 · split at h
   · obtain ⟨us,J,hu⟩:=Ay<|eQ A;obtain ⟨u,O,V⟩:=oE J h;exact ⟨u,V,fun w=>xt hu<|by simpa using O⟩
   · cases h
 · split at h
   · split at h
     · rename_i n hn;cases h;obtain ⟨q,M,hu⟩:=iM<|eQ A;exact ⟨_,by simp only [den,M]; rfl,fun w=>(fa hn hu).trans<|by rw [iI]⟩
     · cases h
   · cases h
 · split at h
   · split at h
     · rename_i n hn;obtain ⟨us,J,hu⟩:=qw<|eQ A;obtain ⟨u,O,V⟩:=oE J h;exact ⟨u,V,fun w=>Iv hn hu<|by simpa using O⟩
     · split at h
       · rename_i ap off aj;split at h
         · rename_i n ha;cases h;obtain ⟨us,J,hu⟩:=qw<|eQ A;have h1:=jl n<|jS off J;exact ⟨_,by simp only [den,h1],fun w=>ID aj ha hu U⟩
         · cases h
       · cases h
   · cases h
 · split at h
   · split at h
     · rename_i e he;replace h:=aY h; obtain ⟨I,h⟩:=h;cases h;obtain ⟨h1,E⟩:=im A;obtain ⟨q,cap,M,J,hu,_⟩:=iN h1;have :=cB.1 I;refine ⟨_,by simp only [den,M]; rfl,fun w=>(ia he hu (cQ E) ⟨fV _,by simp; omega⟩).trans ?_⟩;simp [iI]
     · cases h
   · split at h
     · rename_i n e he;replace h:=aY h; obtain ⟨I,h⟩:=h;cases h;obtain ⟨h1,E⟩:=im A;obtain ⟨q,M,hu⟩:=iM h1;have :=cB.1 I;refine ⟨_,by simp only [den,M]; rfl,fun w=>(jr he hu (cQ E) ⟨fV _,by simp; omega⟩).trans ?_⟩;simp [iI]
     · cases h
   · cases h
 · split at h
   · rename_i t _ _ l k i;replace h:=aY h; obtain ⟨I,h⟩:=h;obtain ⟨h1,E⟩:=im A;split at h
     · rename_i c J;rw [fP] at h; cases h;obtain ⟨am,ae⟩:=cD.1 J;refine ⟨_,U,fun w=>(fN (l9 I) (gP h1) (cQ E) am).trans ?_⟩;simp [bY,J]
     · cases h
   · rename_i l k i;split at h
     · rename_i n s L;replace h:=aY h; obtain ⟨I,h⟩:=h;have I:=cB.1 I;obtain ⟨h1,E⟩:=im A;obtain ⟨us,J,hu⟩:=qw h1;obtain ⟨u,O,V⟩:=oE J h;have ao:=cQ E;unfold zJ at L;split at L
       · rename_i aq e hn;split at L
         · rename_i j ak;split at L
           · rename_i ha;cases L;refine ⟨u,V,fun w=> ?_⟩;have ae:us.toArray[i*j.size]? =some u:=by simpa using O
             have h0:(0:Int)≤kI i∧kI i < (n:Int):=⟨fV _,by simp; omega⟩
             simp only [execOp,Instr.index,hu,ao,asIntOf,iE,kH,hZ,bB hn,Sem.run_ite,h0,and_self,if_true,sizeOf,dj ak,part,C3 ha];simp [ae]
           · cases L
         · cases L
       · cases L
     · cases h
   · cases h
 · split at h
   · obtain ⟨h1,E⟩:=im A;exact Gs (fun h=>h) h h1 E
   · cases h
 · split at h
   · cases h; exact ⟨_,rfl,fun w=>no<|jm<|eQ A⟩
   · cases h
 · split at h
   · unfold z5 at h;split at h
     · rename_i k al;replace h:=aY h; obtain ⟨I,h⟩:=h;rw [fP,rz] at h; cases h;exact ⟨_,U,fun w=>Hw al I (cQ<|eQ A) U⟩
     · cases h
   · cases h
 · exact LL h A
 · split at h
   · replace h:=aY h; obtain ⟨I,h⟩:=h;cases h;have h1:=eQ A;exact ⟨_,by simp only [den,h1],fun w=>xu I U⟩
   · cases h
 · split at h
   · replace h:=aY h; obtain ⟨I,h⟩:=h;split at h
     · rename_i z ab;split at h
       · rename_i av ac;cases h;have Z:=ml (r:=r) 4 ac;exact ⟨_,by simp [den,aM,Z],fun w=>DL I ab<|oG<|eQ A⟩
       · cases h
     · cases h
   · replace h:=aY h; obtain ⟨I,h⟩:=h;simp only [a0] at I;obtain rfl :=bM I.2;cases h;obtain ⟨au,h1,E⟩:=sx<|eQ A;exact ⟨_,by simp [den,aM,h1],fun w=>DK I.1 E⟩
   · cases h
 · rename_i f a c;cases h;simp only [gp,gK] at A;obtain ⟨c⟩:=c;simp only at A;have h1:=jl a.length A;have E:=jS a.length A;rw [List.take_left' (by simp)] at h1;rw [List.drop_left' (by simp)] at E;exact ⟨_,by simp only [den,h1,E],fun w=>xr⟩
 · rename_i t ps;split at h
   · rename_i pl aw L;split at h
     · rename_i ax ab;split at h
       · rename_i l ah;cases h;have ac:=oW (r:=r) (fun v a=>ml 4) ab;obtain ⟨h1,E⟩:=yN (f:=ev N σ) A;obtain ⟨C,ag,ai⟩:=vW ah ac h1 E;exact ⟨.agg C.toArray,by simp only [den,ag],fun w=>Gt L ai w⟩
       · cases h
     · cases h
   · cases h
 · rename_i b ad ar;obtain ⟨ad⟩:=ad;exact Gv h A
 · cases h
end
end Go.Hb
namespace Go.Hb
theorem B8 {r s:Rn} (h:r.le s):∀ {l:List (AV×AV)} {es:List MapEntry},gl r l es→gl s l es
 | [],[],_=>trivial
 | p::l,m::es,hm=>⟨kV h hm.1,kV h hm.2.1,B8 h hm.2.2⟩
 | [],_::_,hm=>hm.elim
 | _::_,[],hm=>hm.elim
theorem OR.le {P:ar} {r s:Rn} (h:r.le s) {q:Loc} {o:AO} {ob:Option Obj} (E:OR P r q o ob):OR P s q o ob:=by
 cases o with
 | cells l e fz ex=>obtain ⟨c,fr,us,h1,A,C⟩:=E; exact ⟨c,fr,us,h1,iq h A,C⟩
 | map l=>obtain ⟨es,c,h1,A,C⟩:=E; exact ⟨es,c,h1,B8 h A,C⟩
 | loop st O n fr ps aR body D=>
   obtain ⟨fn,J,M,h1,⟨x,A,C⟩,h4,h5⟩:=E;refine ⟨fn,J,M,h1,⟨x,h _ _ A,C⟩,h4,fun i hi=> ?_⟩;have I:=h5 i hi;have L:i < J.size:=ab;rw [nU L] at I ⊢;exact kV h I
 | kW b=>exact E
 | yr l p=>exact E
structure HR (P:ar) (G:Nat) (r:Rn) (T:Nat) (h:Hp) (w:ah):Prop where
 live:∀ i o,h.t.get i=some o→∃ q,r i=some q∧OR P r q o w.heap[q.ak]?
 inj:∀ i j o o' q q',h.t.get i=some o→h.t.get j=some o'→r i=some q→r j=some q'→q.ak=q'.ak→i=j
 new:∀ i,h.nx≤i→i < T→r i=none
 fi:ox G r
 base:G≤h.nx
def Fr (G:Nat) (r:Rn) (h:Hp) (k:Nat):Prop := ∃ i o q,G≤i∧h.t.get i=some o∧r i=some q∧q.ak=k
structure St (P:ar) (G T:Nat) (r:Rn) (h:Hp) (w:ah) (r':Rn) (h':Hp) (w':ah):Prop where
 le:r.le r'
 hr:HR P G r' T h' w'
 nx:h.nx≤h'.nx
 md:Md (Fr G r h) w w'
 dY:∀ g,g≤G→∀ k,k < w.heap.size→Fr g r' h' k→Fr g r h k
 out:∀ i,h'.nx≤i→r' i=r i
theorem St.trans {P:ar} {G T:Nat} {r r' J:Rn} {h h' E:Hp} {w w' w'':ah} (a:St P G T r h w r' h' w') (b:St P G T r' h' w' J E w''):St P G T r h w J E w'':=
 ⟨Rn.le_trans a.le b.le,b.hr,cn a.nx b.nx,Md.trans' a.md b.md (fun k A C=>a.dY G (aQ _) k A C),fun g I k A C=>a.dY g I k A (b.dY g I k (mK A a.md.size) C),fun i hi=>(b.out i hi).trans<|a.out i<|cn b.nx hi⟩
theorem St.refl {P:ar} {G T:Nat} {r:Rn} {h:Hp} {w:ah} (hr:HR P G r T h w):St P G T r h w r h w:=⟨Rn.le_refl r,hr,aQ _,Md.refl _ _,fun _ _ _ _ h=>h,fun _ _=>rfl⟩
theorem St.drew {P:ar} {G T:Nat} {r r':Rn} {h h':Hp} {w w':ah} (a:St P G T r h w.drew r' h' w'):St P G T r h w r' h' w':=⟨a.le,a.hr,a.nx,⟨a.md.os,a.md.output,a.md.size,a.md.dM⟩,a.dY,a.out⟩
section
variable {P:ar} {G:Nat} {r:Rn} {T:Nat} {h:Hp} {w:ah}
theorem HR.drew (hr:HR P G r T h w):HR P G r T h w.drew:=⟨hr.live,hr.inj,hr.new,hr.fi,hr.base⟩
theorem HR.cells (hr:HR P G r T h w) {b:Nat} {l:List AV} {e fz:Nat} {ex:Ck} (hb:h.t.get b=some (.cells l e fz ex)):
 ∃ q us,r b=some q∧aM r l=some us∧(∀ j u,us[j]? =some u→ax w.heap q.ak (q.sh+j)=some u)∧∃ c fr,w.heap[q.ak]? =some (.cells c e fr):=by
 obtain ⟨q,I,c,fr,us,h1,A,J,C,_⟩:=hr.live b _ hb;exact ⟨q,us,I,A,fun j u E=>by rw [bt h1]; exact C j u E,c,fr,h1⟩
def YL (P:ar) (r:Rn) (N:Fm) (σ:Nat→ag) (o:aC) (w:ah) (v:AV):Prop := ∃ u,den r v=some u∧(execOp (ev N σ) o).run P w= .ok (.value u) w
end
def ny:List AV→Option (List UInt8)
 | []=>some []
 | .int .u8 (.ofNat n)::l=>match ny l with
   | some m=>cond (aE n 256) (some (e9 n::m)) none
   | none=>none
 | _=>none
theorem yx {r:Rn} :∀ {l:List AV} {m:List UInt8} {us:List ag},ny l=some m→aM r l=some us→us=U8 m
 | [],m,us,h,hd=>by simp only [ny,bK] at h; subst h; rw [kh hd]; rfl
 | a::l,m,us,h,hd=>by
   unfold ny at h;split at h
   · rename_i h0; cases h0
   · rename_i n E h0;cases h0;split at h
     · rename_i I hm;replace h:=aY h; obtain ⟨C,h⟩:=h;cases h;obtain ⟨u,J,rfl,h1,A⟩:=dW hd;obtain rfl :=cQ h1;obtain rfl :=yx hm A;have :=cB.1 C;simp only [U8,dG,lN,and_true];congr 1;exact (MB n this).symm
     · cases h
   · cases h
inductive KK | s | i (k:bA) | bs
def nh (P:ar) (k:av) (a:AV):Option KK:=match a with
 | .str _=>cond (isStr P k) (some .s) none
 | .int q _=>match P.underlying k with
   | some (.int _)=>some<|.i q
   | _=>none
 | .agg _=>cond (mR P k) (some .bs) none
 | _=>none
def dE (A:KK) (a:AV):Bool:=match A,a with
 | .s,.str _=>true
 | .i k,.int k' _=>aP (dL k)<|dL k'
 | .bs,.agg [.bool _,.str _]=>true
 | _,_=>false
def fj (A:KK):List (AV×AV)→Bool
 | []=>true
 | p::l=>cond (dE A p.1) (fj A l) false
def oT:KK→ag→Prop
 | .s=>Jb
 | .i k=>BA k
 | .bs=>wQ
where Jb (v:ag):Prop := ∃ s:List UInt8,v=str s
def gj (a b:AV):Bool:=match a,b with
 | .str l,.str m=>iw l m
 | .int _ a,.int _ b=>decide (a=b)
 | .agg [.bool a,.str l],.agg [.bool b,.str m]=>cond (a==b) (iw l m) false
 | _,_=>false
def mc (x:AV):List (AV×AV)→Option AV
 | []=>none
 | p::l=>cond (gj p.1 x) (some p.2)<|mc x l
section
variable {P:ar} {r:Rn}
theorem sW {C:KK} {a:AV} {u:ag} (h:dE C a=true) (A:den r a=some u):oT C u:=by
 unfold dE at h;split at h
 · exact ⟨_,gP A⟩
 · rename_i k M n;obtain rfl :=nb h;exact ⟨_,cQ A⟩
 · obtain ⟨us,h1,rfl⟩:=qw A;obtain ⟨O,Z,rfl,E,I⟩:=dW h1;obtain ⟨V,ab,rfl,J,L⟩:=dW I;obtain rfl :=kh L;obtain rfl :=jm E;obtain rfl :=gP J;exact ⟨_,_,U⟩
 · cases h
theorem BN {a:AV} (h:dE .s a=true):∃ l,a= .str l:=by
 cases a with
 | str l=>exact ⟨l,rfl⟩
 | _=>exact cJ (show false =true from h)
theorem BM {k:bA} {a:AV} (h:dE (.i k) a=true):∃ n,a= .int k n:=by
 cases a with
 | int A n=>exact ⟨n,by rw [nb (show aP (dL k) (dL A)=true from h)]⟩
 | _=>exact cJ (show false =true from h)
theorem BL {a:AV} (h:dE .bs a=true):∃ f l,a= .agg [.bool f,.str l]:=by
 unfold dE at h;split at h <;> first
  | exact ⟨_,_,rfl⟩
  | contradiction
  | (exfalso; cases h; done)
  | (rename_i A; cases A; done)
  | (rename_i A _; cases A; done)
theorem Av {f:Bool} {l:List UInt8} {u:ag} (h:den r (.agg [.bool f,.str l])=some u):u= .agg #[.bool f,str l]:=by simpa [den,aM] using h.symm
theorem str_inj {l m:List UInt8} (h:str l=str m):l=m:=by unfold str at h; cases h; rfl
theorem lh {E:KK} {a b:AV} {u v:ag} (h1:dE E a=true) (A:dE E b=true) (hu:den r a=some u) (C:den r b=some v):gj a b=true↔u=v:=by
 cases E with
 | s=>
   obtain ⟨l,rfl⟩:=BN h1;obtain ⟨m,rfl⟩:=BN A;rw [gP hu,gP C];simp only [gj,oL,decide_eq_true_iff];exact ⟨fun h=>by rw [h],str_inj⟩
 | i k=>
   obtain ⟨l,rfl⟩:=BM h1;obtain ⟨m,rfl⟩:=BM A;rw [cQ hu,cQ C];simp only [gj,decide_eq_true_iff];exact ⟨fun h=>by rw [h],fun h=>by cases h; rfl⟩
 | bs=>
   obtain ⟨f,l,rfl⟩:=BL h1;obtain ⟨g,m,rfl⟩:=BL A;rw [Av hu,Av C];simp only [gj,oL];cases hab:(f==g)
   · have :f≠g:=by simpa using hab
     exact ⟨fun h=>cJ h,fun h=>by simp at h; exact absurd h.1 this⟩
   · obtain rfl :f=g:=by simpa using hab
     simp only [cond_true,decide_eq_true_iff];exact ⟨fun h=>by rw [h],fun h=>by simp at h; exact str_inj h⟩
theorem wY {k:av} {a:AV} {C:KK} (h:nh P k a=some C):oy P k (oT C):=by
 unfold nh at h;split at h
 · replace h:=aY h; obtain ⟨A,h⟩:=h;cases h;exact (BJ<|l9 A).key
 · split at h
   · cases h; exact (BI<|by assumption).key
   · cases h
 · replace h:=aY h; obtain ⟨A,h⟩:=h;cases h;exact Jr A
 · cases h
theorem td {A:KK} :∀ {l:List (AV×AV)} {es:List MapEntry},gl r l es→fj A l=true→∀ p∈es.map (fun e=>(e.key,e.val)),oT A p.1
 | [],[],_,_,p,hp=>by simp at hp
 | q::l,m::es,hm,hk,p,hp=>by
   simp only [fj] at hk;cases h1:dE A q.1
   · rw [h1] at hk; cases hk
   · rw [h1] at hk;rcases ef.1 hp with rfl | hp
     · exact sW h1 hm.1
     · exact td hm.2.2 hk p hp
 | [],_::_,hm,_,_,_=>hm.elim
 | _::_,[],hm,_,_,_=>hm.elim
theorem BH {E:KK} {x v:AV} {kx:ag} (C:dE E x=true) (A:den r x=some kx):∀ {l:List (AV×AV)} {es:List MapEntry},gl r l es→fj E l=true→mc x l=some v→∃ u,den r v=some u∧(kx,u)∈es.map (fun e=>(e.key,e.val))
 | [],_,_,_,h=>by cases h
 | q::l,[],hm,_,_=>hm.elim
 | q::l,m::es,hm,hk,h=>by
   simp only [fj] at hk;cases h1:dE E q.1
   · rw [h1] at hk; cases hk
   · rw [h1] at hk;simp only [mc] at h;cases he:gj q.1 x
     case true =>
      have he:=(lh h1 C hm.1 A).1 he;rw [(lh h1 C hm.1 A).2 he] at h;cases h;exact ⟨m.val,hm.2.1,by rw [← he]; exact ie⟩
     case false =>
      rw [he] at h;obtain ⟨u,I,J⟩:=BH C A hm.2.2 hk h;exact ⟨u,I,ic _ J⟩
theorem wX {C:KK} {x:AV} {kx:ag} (I:dE C x=true) (E:den r x=some kx):∀ {l:List (AV×AV)} {es:List MapEntry},gl r l es→fj C l=true→mc x l=none→∀ v,(kx,v)∉es.map (fun e=>(e.key,e.val))
 | [],[],_,_,_,v=>by simp
 | [],_::_,hm,_,_,_=>hm.elim
 | q::l,[],hm,_,_,_=>hm.elim
 | q::l,m::es,hm,hk,h,v=>by
   simp only [fj] at hk;cases h1:dE C q.1
   · rw [h1] at hk; cases hk
   · rw [h1] at hk;simp only [mc] at h;cases he:gj q.1 x
     case true =>rw [he] at h; cases h
     case false =>
      rw [he] at h;intro J;rcases ef.1 J with A | A
      · cases A; have :=(lh h1 I hm.1 E).2 rfl; rw [he] at this; cases this
      · exact wX I E hm.2.2 hk h v A
end
end Go.Hb
namespace Go.Hb
def z6 (P:ar) (t u:av) (x:AV) (h:Hp):Option AV:=match x with
 | .sl _ _ 0 _ _=>match P.underlying t with
   | some (.slice e)=>cond (mT P t e u) (some<|.str []) none
   | _=>none
 | .sl b o n _ _=>match h.t.get b with
   | some (.cells l e _ _)=>cond (mT P t e u && bf (o+n) l.length) (match ny ((l.drop o).take n) with
     | some m=>some<|.str m
     | none=>none) none
   | _=>none
 | .an=>match P.underlying t with
   | some (.slice e)=>cond (mT P t e u) (some<|.str []) none
   | _=>none
 | .ptr b 0=>match h.t.get b with
   | some (.cells l e 0 .x)=>cond (nz P t u e l.length || nz P u t e l.length) (some<|.ptr b 0) none
   | _=>none
 | _=>none
def sX (P:ar) (t:av) (x:AV) (h:Hp):Option AV:=match x with
 | .ptr b o=>match h.t.get b with
   | some (.cells l _ _ _)=>match dd P t with
     | some none=>l[o]?
     | some (some n)=>cond (bf (o+n) l.length) (some<|.agg<|(l.drop o).take n) none
     | none=>none
   | _=>none
 | _=>none
def jv (P:ar) (o:Op) (xs:List AV) (h:Hp):Option AV:=match o with
 | .load t _=>match xs with
   | [x]=>sX P t x h
   | _=>none
 | .lookup t _ _ ok=>match xs with
   | [.map b,k]=>match h.t.get b with
     | some (.map l)=>match P.underlying t with
       | some (.map C e)=>match nh P C k with
         | some A=>cond (dE A k && fj A l) (match mc k l with
           | some v=>some<|cond ok (.bT [v,.bool true]) v
           | none=>match zeroV P e with
             | some z=>match ju 4 z with
               | some z=>some<|cond ok (.bT [z,.bool false]) z
               | none=>none
             | none=>none) none
         | none=>none
       | _=>none
     | _=>none
   | _=>none
 | .convert t u _=>match xs with
   | [x]=>z6 P t u x h
   | _=>none
 | .slice t _ none none none=>match xs with
   | [.ptr b 0]=>match h.t.get b with
     | some (.cells _ _ _ .x)=>match kP P t with
       | some (n,_)=>some<|.sl b 0 n n true
       | none=>none
     | _=>none
   | _=>none
 | .call ⟨.builtin .len,_,⟨[t]⟩⟩=>match xs with
   | [.map b]=>match h.t.get b with
     | some (.map l)=>match P.underlying t with
       | some (.map _ _)=>fk .i64 l.length
       | _=>none
     | _=>none
   | _=>none
 | _=>none
section
variable {P:ar} {G:Nat} {r:Rn} {T:Nat} {h:Hp} {w:ah} {N:Fm} {σ:Nat→ag} {dst:Option Nat} {ty:av} {pos :String} {af:Array bQ} {g:Option (Nat×Bool)} {x y z:aW}
theorem B9:∀ {l:List (AV×AV)} {es:List MapEntry},gl r l es→es.length=l.length
 | [],[],_=>rfl
 | p::l,m::es,hm=>by simp [B9 hm.2.2]
 | [],_::_,hm=>hm.elim
 | _::_,[],hm=>hm.elim
theorem HR.map (hr:HR P G r T h w) {b:Nat} {l:List (AV×AV)} (hb:h.t.get b=some (.map l)):∃ q es c,r b=some q∧w.heap[q.ak]? =some (.map es c)∧gl r l es.toList∧(es.toList.map fun e=>e.key).Nodup:=by
 obtain ⟨q,E,es,c,h1,A,C⟩:=hr.live b _ hb;exact ⟨q,es,c,E,h1,A,C⟩
theorem BS (hr:HR P G r T h w) {t:av} {a v:AV} {v0:ag} (A:sX P t a h=some v) (O:den r a=some v0):∃ b off u,v0= .pointer (some ⟨b,off,none⟩)∧den r v=some u∧
 ((dd P t=some none∧ax w.heap b off =some u)∨∃ (n:Nat) (cs:List ag),dd P t=some (some n)∧u= .agg cs.toArray∧cs.length=n∧∀ j,j < n→ax w.heap b (off+j)=cs[j]?):=by
 unfold sX at A;split at A
 · rename_i b o;split at A
   · rename_i l _ _ _ hb;obtain ⟨q,us,Z,C,E,_⟩:=hr.cells hb;obtain ⟨q',J,rfl⟩:=iM O;rw [Z] at J; cases J;split at A
     · rename_i ha;obtain ⟨u,h1,L⟩:=oE C A;exact ⟨_,_,u,U,L,.inl ⟨ha,E _ _ h1⟩⟩
     · rename_i n ha;replace A:=aY A; obtain ⟨M,A⟩:=A;have hle:=bN M;cases A;have h1:=jl n<|jS o C;have hlen:=de C;refine ⟨_,_,.agg ((us.drop o).take n).toArray,U,by simp only [den,h1],.inr ⟨n,_,ha,U,by simp; omega,fun j V=> ?_⟩⟩;rw [jg,if_pos V,iF];have I:o+j < us.length:=ab;rw [iI,bC I];exact E _ _<|bC I
     · cases A
   · cases A
 · cases A
theorem Cy (hr:HR P G r T h w) {o:Op} {xs:List AV} {v:AV} (A:jv P o xs h=some v) (V:aM r xs=some ((gp o).map<|ev N σ)):YL P r N σ ⟨dst,o,ty,pos,af,g⟩ w v:=by
 unfold jv at A;split at A
 · split at A
   · obtain ⟨b,off,u,M,hu,h1⟩:=BS hr A<|eQ V;rcases h1 with ⟨ha,E⟩ | ⟨n,cs,ha,rfl,Z,E⟩
     · exact ⟨u,hu,ld ha M E⟩
     · exact ⟨_,hu,eU ha M Z E⟩
   · cases A
 · rename_i t a b ok;split at A
   · rename_i b k;split at A
     · rename_i l hb;obtain ⟨q,es,c,J,hw,hm,hn⟩:=hr.map hb;obtain ⟨h1,L⟩:=im V;obtain ⟨q',C,hu⟩:=mW h1;rw [J] at C; cases C;split at A
       · rename_i aB e ae;split at A
         · rename_i aA av;replace A:=aY A; obtain ⟨E,A⟩:=A;simp only [a0] at E;have aj:=wY av;have am:uW w.heap q.ak (es.toList.map fun e=>(e.key,e.val)):=⟨es,c,hw,rfl⟩
           have al:=td hm E.2;have hi:=sW E.1 L;split at A
           · rename_i aC ai;cases A;obtain ⟨u,O,ab⟩:=BH E.1 L hm E.2 ai;refine ⟨if ok then .tuple #[u,.bool true] else u,?_,JK ae aj am al hu U hi (by rw [rP]; exact hn) ab⟩;cases ok
             · exact O
             · simp [den,aM,O]
           · rename_i ai;have ab:=wX E.1 L hm E.2 ai;split at A
             · rename_i z ay;split at A
               · rename_i aD az;cases A;have O:=ml (r:=r) 4 az;refine ⟨if ok then .tuple #[z,.bool false] else z,?_,JL ae ay aj am al hu U hi ab⟩;cases ok
                 · exact O
                 · simp [den,aM,O]
               · cases A
             · cases A
         · cases A
       · cases A
     · cases A
   · cases A
 · rename_i t u a;split at A
   · rename_i x;have M:=eQ V;unfold z6 at A;split at A
     · split at A
       · rename_i e he;replace A:=aY A; obtain ⟨I,A⟩:=A;cases A;obtain ⟨q',cap,C,hn,hu,_⟩:=iN M;exact ⟨_,U,qt I hu (a9.nil _ _) U⟩
       · cases A
     · rename_i b o n c q _;split at A
       · rename_i l e _ _ hb;obtain ⟨q,us,J,Z,E,_⟩:=hr.cells hb;obtain ⟨q',cap,C,hn,hu,_⟩:=iN M;rw [J] at C; cases C;replace A:=aY A; obtain ⟨I,A⟩:=A;simp only [a0] at I;have hle:=bN I.2;split at A
         · rename_i m hm;cases A;have h1:=jl n<|jS o Z;have L:=yx hm h1;have hlen:=de Z;have aw:m.length=n:=by
            have :=congrArg lP L;simp [oB] at this;omega
           refine ⟨_,U,qt I.1 hu ⟨fun _=>rfl,fun j u ac=> ?_⟩ aw⟩;rw [← L,jg] at ac;split at ac
           · rw [iF] at ac;show ax w.heap q.ak (q.sh+o+j)=some u;rw [iI]; exact E _ _ ac
           · cases ac
         · cases A
       · cases A
     · split at A
       · rename_i e he;replace A:=aY A; obtain ⟨I,A⟩:=A;cases A;exact ⟨_,U,qt I (iu M) (a9.nil _ _) U⟩
       · cases A
     · rename_i b;split at A
       · rename_i l e hb;replace A:=aY A; obtain ⟨I,A⟩:=A;cases A;obtain ⟨q,J,c,fr,us,h1,L,O,ab,ap,aq,ah,ar⟩:=hr.live b _ hb;obtain ⟨ad,ao,rfl⟩:=ah.1 rfl;obtain ⟨q',C,hu⟩:=iM M;rw [J] at C; cases C;rw [ad] at hu;have au:c=c.toList.toArray:=by simp
         rw [au] at h1;refine ⟨_,M.trans (congrArg some hu),?_⟩;rcases EI.1 I with I | I
         · exact DS I hu h1<|by simpa using ao
         · exact Bo I hu h1<|by simpa using ao
       · cases A
     · cases A
   · cases A
 · split at A
   · rename_i b;split at A
     · rename_i hb;split at A
       · rename_i n _ hn;cases A;obtain ⟨q,J,c,fr,us,h1,L,O,ab,ap,aq,ah,ar⟩:=hr.live b _ hb;obtain ⟨ad,_,_⟩:=ah.1 rfl;obtain ⟨q',C,hu⟩:=iM<|eQ V;rw [J] at C; cases C;rw [ad] at hu;exact ⟨_,by rw [l5 J (aQ _),ad],Gp hn hu⟩
       · cases A
     · cases A
   · cases A
 · rename_i ag t;split at A
   · rename_i b;split at A
     · rename_i l hb;obtain ⟨q,es,c,J,hw,hm,hn⟩:=hr.map hb;split at A
       · rename_i ae;rw [fP] at A; cases A;obtain ⟨ag⟩:=ag;have Z:=de V;obtain ⟨x,rfl⟩:∃ x,ag= [x]:=rO.1<|by simpa [gp] using Z
         obtain ⟨q',C,hu⟩:=mW<|eQ V;rw [J] at C; cases C;refine ⟨_,U,?_⟩;have :=JN (dst:=dst) (ty:=ty) (pos :=pos) (af:=af) (g:=g) (P:=P) ae rfl hu hw;rw [this];have :=B9 hm;rw [lH] at this;rw [this]
       · cases A
     · cases A
   · cases A
 · cases A
end
end Go.Hb
namespace Go.Hb
def Rn.ext (r:Rn) (i:Nat) (q:Loc):Rn:=fun k=>if k=i then some q else r k
theorem Rn.gQ (r:Rn) (i:Nat) (q:Loc):r.ext i q i=some q:=if_pos rfl
theorem Rn.jZ (r:Rn) {i k:Nat} (q:Loc) (h:k≠i):r.ext i q k=r k:=if_neg h
theorem Rn.qQ {r:Rn} {i:Nat} (q:Loc) (h:r i=none):r.le (r.ext i q):=fun k x A=>by
 by_cases e:k=i
 · subst e; rw [h] at A; cases A
 · rw [Rn.jZ r q e]; exact A
theorem OR.obj {P:ar} {r:Rn} {q:Loc} {o:AO} {ob:Option Obj} (h:OR P r q o ob):∃ b,ob=some b:=by
 cases o with
 | cells l e fz ex=>obtain ⟨c,fr,us,h1,_⟩:=h; exact ⟨_,h1⟩
 | map l=>obtain ⟨es,c,h1,_⟩:=h; exact ⟨_,h1⟩
 | loop st A n fr ps aR body D=>obtain ⟨_,_,_,h1,_⟩:=h; exact ⟨_,h1⟩
 | kW b=>exact ⟨_,h⟩
 | yr l p=>exact ⟨_,h⟩
section
variable {P:ar} {G:Nat} {r:Rn} {T:Nat} {h:Hp} {w:ah}
theorem ox.le {r s:Rn} (A:ox G r) (h:r.le s):ox G s:=fun g C=>let ⟨m,hm⟩:=A g C; ⟨m,h _ _ hm⟩
theorem HR.lt (hr:HR P G r T h w) {i:Nat} {o:AO} {q:Loc} (hi:h.t.get i=some o) (E:r i=some q):q.ak < w.heap.size:=by
 obtain ⟨q',A,C⟩:=hr.live i o hi;rw [E] at A; cases A;obtain ⟨b,hb⟩:=C.obj;exact (dq.1 hb).1
theorem HR.put (hr:HR P G r T h w) {i V:Nat} {o:AO} {q:Loc} {r':Rn} {w':ah} (hle:r.le r') (hi:aE i cj=true) (U:r' i=some q) (ad:OR P r' q o w'.heap[q.ak]?)
 (hw:∀ k,k≠q.ak→k < w.heap.size→w'.heap[k]? =w.heap[k]?) (O:∀ j J q',j≠i→h.t.get j=some J→r j=some q'→q'.ak≠q.ak)
 (ac:h.nx≤V) (ab:∀ k,V≤k→k < T→r' k=none):HR P G r' T ⟨h.t.set i o,V⟩ w':=by
 refine ⟨fun j J A=> ?_,fun j k L M ag ai A E h1 I he=> ?_,ab,hr.fi.le hle,cn hr.base ac⟩
 · rw [Tr.kY _ _ _ _ hi] at A;split at A
   · rename_i e; subst e; cases A; exact ⟨q,U,ad⟩
   · rename_i e;obtain ⟨q',h1,C⟩:=hr.live j J A;refine ⟨q',hle _ _ h1,?_⟩;rw [hw _ (O j J q' e A h1) (hr.lt A h1)];exact C.le hle
 · simp only [Tr.kY _ _ _ _ hi] at A E;split at A
   · rename_i e;split at E
     · rename_i e'; rw [e,e']
     · rename_i e';exfalso;subst e;rw [U] at h1; cases h1;obtain ⟨q',C,_⟩:=hr.live k M E;rw [hle _ _ C] at I; cases I;exact O k M _ e' E C he.symm
   · rename_i e;split at E
     · rename_i e';exfalso;subst e';rw [U] at I; cases I;obtain ⟨q',C,_⟩:=hr.live j L A;rw [hle _ _ C] at h1; cases h1;exact O j L _ e A C he
     · obtain ⟨q',C,_⟩:=hr.live j L A;obtain ⟨ae,Z,_⟩:=hr.live k M E;rw [hle _ _ C] at h1; cases h1;rw [hle _ _ Z] at I; cases I;exact hr.inj j k L M _ _ A E C Z he
theorem HR.del (hr:HR P G r T h w) {i:Nat} (hi:aE i cj=true):HR P G r T ⟨h.t.del i,h.nx⟩ w:=by
 refine ⟨fun j o A=> ?_,fun j k E I J L A C=> ?_,hr.new,hr.fi,hr.base⟩
 · rw [Tr.oR _ _ _ hi] at A;split at A
   · cases A
   · exact hr.live j o A
 · simp only [Tr.oR _ _ _ hi] at A C;split at A
   · cases A
   · split at C
     · cases C
     · exact hr.inj j k E I J L A C
theorem Fr.set {g:Nat} {r':Rn} {i O:Nat} {o:AO} {q:Loc} (hi:aE i cj=true) (M:r' i=some q) (hle:r.le r') (hr:HR P G r T h w) {k:Nat} (L:Fr g r' ⟨h.t.set i o,O⟩ k):k=q.ak∨Fr g r h k:=by
 obtain ⟨j,I,q',J,A,C,rfl⟩:=L;rw [Tr.kY _ _ _ _ hi] at A;split at A
 · rename_i e; subst e; rw [M] at C; cases C; exact .inl rfl
 · obtain ⟨V,E,_⟩:=hr.live j I A;have :=hle _ _ E;rw [C] at this; cases this;exact .inr ⟨j,I,_,J,A,E,U⟩
def YM (P:ar) (G:Nat) (r:Rn) (T:Nat) (N:Fm) (σ:Nat→ag) (o:aC) (h:Hp) (w:ah) (v:AV) (h':Hp):Prop :=
 ∃ r' u w',den r' v=some u∧((execOp (ev N σ) o).run P w= .ok (.value u) w'∨(execOp (ev N σ) o).run P w= .ok .skip w'∧u=undef)∧St P G T r h w r' h' w'
def cW (h:Hp) (o:AO):Option Hp:=cond (aE h.nx cj) (some ⟨h.t.set h.nx o,h.nx+1⟩) none
theorem J4 (w:ah) (ob:Obj) (F:Nat→Prop):Md F w {w with heap:=w.heap.push ob} :=
 ⟨rfl,rfl,by simp,fun k A _=>by simp only [uj]; rw [if_neg ab]⟩
theorem HR.cW (hr:HR P G r T h w) {o:AO} {h':Hp} (hn:cW h o=some h') (hT:h'.nx≤T) (room:Nat) {w':ah} {ob:Obj} (C:w'.heap=w.heap.push ob) (V:w'.os=w.os) (Z:w'.output=w.output) (U:∀ r',r.le r'→r' h.nx=some ⟨w.heap.size,0,room⟩→OR P r' ⟨w.heap.size,0,room⟩ o (some ob)):
 ∃ r',r' h.nx=some ⟨w.heap.size,0,room⟩∧St P G T r h w r' h' w':=by
 unfold Hb.cW at hn;replace hn:=aY hn; obtain ⟨E,hn⟩:=hn;cases hn;simp only at hT;have hle:=Rn.qQ (i:=h.nx) ⟨w.heap.size,0,room⟩<|hr.new h.nx (aQ _) ab;have I:∀ k,k < w.heap.size→w'.heap[k]? =w.heap[k]? :=fun k A=>by rw [C,uj,if_neg ab]
 refine ⟨r.ext h.nx ⟨w.heap.size,0,room⟩,Rn.gQ _ _ _,hle,hr.put hle E (Rn.gQ _ _ _) ?_ (fun k _ O=>I k O) (fun j ae q' ad L ac=> ?_) (lS _) (fun k A M=> ?_),lS _,⟨V,Z,by rw [C]; simp,fun k A _=>I k A⟩,fun g _ k A J=> ?_,fun k A=>Rn.jZ _ _<|by simp only at A; omega⟩
 · rw [C]; simp only [uj,if_true]; exact U _ hle<|Rn.gQ _ _ _
 · have :=hr.lt L ac; simp only; omega
 · rw [Rn.jZ _ _ ab]; exact hr.new k ab M
 · rcases Fr.set E (Rn.gQ _ _ _) hle hr J with h1 | h1
   · simp only at h1; omega
   · exact h1
theorem xG {r':Rn} {l:List AV} {us:List ag} {e b:Nat} (A:aM r' l=some us) (h1:dZ l=true):OR P r' ⟨b,0,0⟩ (.cells l e 0 .x) (some<|.cells us.toArray e (0,0)):=
 ⟨us.toArray,(0,0),us,rfl,A,by simp [de A],fun j u C=>by simpa using C,aQ _,oY A h1,⟨fun _=>⟨rfl,by simp [de A],rfl⟩,fun _=>rfl⟩,fun s _=>by simp⟩
variable {N:Fm} {σ:Nat→ag} {dst:Option Nat} {ty:av} {pos :String} {af:Array bQ} {g:Option (Nat×Bool)} {x y z:aW}
theorem YM.new (hr:HR P G r T h w) {o:aC} {l:List AV} {us:List ag} {e:Nat} {h':Hp} {v:AV} {f:Nat→ag} (hn:Hb.cW h (.cells l e 0 .x)=some h') (hT:h'.nx≤T) (A:aM r l=some us) (h1:dZ l=true)
 (I:(execOp (ev N σ) o).run P w= .ok (.value<|f w.heap.size) {w with heap:=w.heap.push<|.cells us.toArray e (0,0)}) (J:∀ r':Rn,r' h.nx=some ⟨w.heap.size,0,0⟩→den r' v=some (f w.heap.size)):YM P G r T N σ o h w v h':=by
 obtain ⟨r',C,E⟩:=hr.cW hn hT 0 (w':= {w with heap:=w.heap.push<|.cells us.toArray e (0,0)}) rfl rfl rfl fun r' hle _=>xG (iq hle A) h1;exact ⟨r',_,_,J r' C,.inl I,E⟩
theorem HR.lr (hr:HR P G r T h w) {i:Nat} {o J:AO} {q:Loc} {w':ah} (hi:h.t.get i=some J) (hb:aE i cj=true) (C:r i=some q) (L:G≤i) (V:OR P r q o w'.heap[q.ak]?) (hm:Md (fun k=>k=q.ak) w w'):
 St P G T r h w r ⟨h.t.set i o,h.nx⟩ w':=by
 have I:∀ g,g≤G→Fr g r h q.ak:=fun g A=>⟨i,J,q,cn A L,hi,C,rfl⟩
 refine ⟨Rn.le_refl r,hr.put (Rn.le_refl r) hb C V (fun k E U=>hm.dM k U E) (fun j Z ab O A h1 he=>O<|hr.inj j i _ _ _ _ A hi h1 C he) (aQ _) hr.new,aQ _,hm.mono fun k _ E=>by rw [E]; exact I G (aQ _),fun g A k _ M=> ?_,fun _ _=>rfl⟩;rcases Fr.set hb C (Rn.le_refl r) hr M with h1 | h1
 · rw [h1]; exact I g A
 · exact h1
end
end Go.Hb
namespace Go.Hb
def ng (x v:AV):List (AV×AV)→List (AV×AV)
 | []=> [(x,v)]
 | p::l=>cond (gj p.1 x) ((p.1,v)::l) (p::ng x v l)
def BO:KK→Bool
 | .bs=>false
 | _=>true
def o7 (P:ar) (t:av) (b:Nat) (k v:AV) (h:Hp):Option Hp:=match h.t.get b with
 | some (.map l)=>match P.underlying t with
   | some (.map C e)=>match nh P C k with
     | some A=>cond (aE b cj && (bf h.nx b==false) && (dE A k && fj A l) && (BO A || (mc k l).isNone)) (some ⟨h.t.set b (.map<|ng k v l),h.nx⟩) none
     | none=>none
   | _=>none
 | _=>none
section
variable {P:ar} {G:Nat} {r:Rn} {T:Nat} {h:Hp} {w:ah}
theorem Ca {x v:AV} {kx u:ag} {C:KK} (J:dE C x=true) (A:den r x=some kx) (I:den r v=some u) {m:MapEntry} (na:m.key=kx) (E:m.val=u):∀ {l:List (AV×AV)} {es:List MapEntry},gl r l es→fj C l=true→(∀ e∈es,e.key≠kx)→gl r (ng x v l) (es++ [m])
 | [],[],_,_,_=>⟨by rw [na]; exact A,by rw [E]; exact I,trivial⟩
 | [],_::_,hm,_,_=>hm.elim
 | _::_,[],hm,_,_=>hm.elim
 | q::l,e::es,hm,hk,hn=>by
   simp only [fj] at hk;cases h1:dE C q.1
   · rw [h1] at hk; cases hk
   · rw [h1] at hk;have he:gj q.1 x=false :=by
      cases hq:gj q.1 x
      · rfl
      · exact absurd ((lh h1 J hm.1 A).1 hq)<|hn e ie
     simp only [ng,he,cond_false];exact ⟨hm.1,hm.2.1,Ca J A I na E hm.2.2 hk fun e he=>hn e<|ic _ he⟩
theorem Cb {x v:AV} {kx u:ag} {A:KK} (E:dE A x=true) (C:den r x=some kx) (J:den r v=some u) {f:MapEntry→MapEntry} (I:∀ e,e.key=kx→(f e).key=kx∧(f e).val=u):∀ {l:List (AV×AV)} {es:List MapEntry} {j:Nat} {e':MapEntry},gl r l es→fj A l=true→
 es[j]? =some e'→e'.key=kx→(es.map fun e=>e.key).Nodup→gl r (ng x v l) (es.modify j f)
 | [],[],j,e',_,_,hj,_,_=>by simp at hj
 | [],_::_,_,_,hm,_,_,_,_=>hm.elim
 | _::_,[],_,_,hm,_,_,_,_=>hm.elim
 | q::l,e::es,0,e',hm,hk,hj,hk',_=>by
   simp only [fj] at hk;cases h1:dE A q.1
   · rw [h1] at hk; cases hk
   · simp only [je,bK] at hj;subst hj;simp only [ng,(lh h1 E hm.1 C).2 hk',cond_true];obtain ⟨L,M⟩:=I e hk';exact ⟨by show den r q.1=some (f e).key; rw [hm.1,L,hk'],by show den r v=some (f e).val; rw [M]; exact J,hm.2.2⟩
 | q::l,e::es,j+1,e',hm,hk,hj,hk',hn=>by
   simp only [fj] at hk;cases h1:dE A q.1
   · rw [h1] at hk; cases hk
   · rw [h1] at hk;simp only [jd] at hj;simp only [dG,uL] at hn;have he:gj q.1 x=false :=by
      cases hq:gj q.1 x
      · rfl
      · have :=(lh h1 E hm.1 C).1 hq;exact absurd (jH.2 ⟨e',kK hj,hk'.trans this.symm⟩) hn.1
     simp only [ng,he,cond_false];exact ⟨hm.1,hm.2.1,Cb E C J I hm.2.2 hk hj hk' hn.2⟩
theorem Js {k:av} {a:AV} {A:KK} (h:nh P k a=some A) (E:BO A=true):∀ w v,oT A v→(rF v v).run P w= .ok v w:=by
 unfold nh at h;split at h
 · replace h:=aY h; obtain ⟨C,h⟩:=h;cases h;exact (BJ<|l9 C).stays
 · split at h
   · cases h; exact (BI<|by assumption).stays
   · cases h
 · replace h:=aY h; obtain ⟨C,h⟩:=h;cases h;cases E
 · cases h
theorem CL (hr:HR P G r T h w) {t:av} {b:Nat} {k v:AV} {h':Hp} {q:Loc} {kx u:ag} (O:G≤b) (hp:o7 P t b k v h=some h') (M:r b=some q) (E:den r k=some kx) (al:den r v=some u):
 ∃ w',(yW t (.map<|some q.ak) kx u).run P w= .ok () w'∧St P G T r h w r h' w':=by
 unfold o7 at hp;split at hp
 · rename_i l hb;split at hp
   · rename_i ax e aj;split at hp
     · rename_i au ad;replace hp:=aY hp; obtain ⟨ab,hp⟩:=hp;simp only [a0] at ab;obtain ⟨⟨⟨Z,_⟩,hka,hkl⟩,hstay⟩:=ab;cases hp;obtain ⟨q',es,c,ai,hw,hm,hn⟩:=hr.map hb;rw [M] at ai; cases ai;have J:=wY ad;have hi:=sW hka E;have ao:∀ e∈es.toList,oT au e.key:=sG rfl (td hm hkl);have ae:=(dq.1 hw).1;rcases J.find w kx es.toList hi ao with ⟨h1,ah⟩ | ⟨j,e',h1,C,A⟩
       · refine ⟨{w with heap:=w.heap.setIfInBounds q.ak<|.map (es.push {key:=kx,val:=u,born:=c})<|c+1},by simp [yW,bB aj,run_getObj_map hw,J.check _ w kx hi,h1,setObj,lK,hw],?_⟩;refine hr.lr hb Z M O ?_ ⟨U,U,by simp,fun i _ L=>by simp only; rw [yO (fun e=>L e.symm)]⟩;refine ⟨_,_,by simp only; rw [yP ae],?_,?_⟩
         · simp only [ED];exact Ca hka E al U U hm hkl ah
         · simp only [ED,gK,dG,List.map_nil];rw [List.nodup_append];refine ⟨hn,by simp,?_⟩;intro a ha aw V am;simp at V;subst am V;obtain ⟨p,hp,ar⟩:=jH.1 ha;exact ah p hp ar
       · have aq:(rF kx kx).run P w= .ok kx w:=by
          rcases EI.1 hstay with I | I
          · exact Js ad I w kx hi
          · exfalso;cases hg:mc k l with
            | none=>exact wX hka E hm hkl hg e'.val<|by rw [← A]; exact jH.2 ⟨e',kK C,rfl⟩
            | some v=>rw [hg] at I; cases I
         have ap:es[j]? =some e':=by simpa using C
         refine ⟨{w with heap:=w.heap.setIfInBounds q.ak<|.map (es.modify j fun e=> {e with key:=kx,val:=u}) c},?_,?_⟩
         · simp [yW,bB aj,run_getObj_map hw,J.check _ w kx hi,h1,ap,A,aq,setObj,lK,hw]
         · refine hr.lr hb Z M O ?_ ⟨U,U,by simp,fun i _ L=>by simp only; rw [yO (fun e=>L e.symm)]⟩;refine ⟨_,_,by simp only; rw [yP ae],?_,?_⟩
           · rw [EC];exact Cb hka E al (fun e _=>⟨U,U⟩) hm hkl C A hn
           · rw [EC];have :(es.toList.modify j fun e=> {e with key:=kx,val:=u}).map (fun e=>e.key)=es.toList.map fun e=>e.key:=by
              apply uA;intro i;simp only [gu,List.getElem?_modify];by_cases ac:j=i
              · subst ac; rw [C]; simp [A]
              · simp [ac]
             rw [this]; exact hn
     · cases hp
   · cases hp
 · cases hp
end
def ky (A:List AV):Nat→List AV
 | 0=> []
 | n+1=>A++ky A n
def rj (P:ar) (G:Nat) (t:av) (b o:Nat) (v:AV) (h:Hp):Option Hp:=match h.t.get b with
 | some (.cells l e fz ex)=>match cC P t with
   | some n=>cond ((aP (kR v).length n && bf (o+n) l.length) && (bf fz o && (dZ (kR v) && (bf G b && aE b cj)))) (some ⟨h.t.set b (.cells (l.take o++(kR v++l.drop (o+n))) e fz ex),h.nx⟩) none
   | none=>none
 | _=>none
def pB (P:ar) (t:av):Option (Nat×Nat×Nat×List AV):=match P.underlying t with
 | some (.slice e)=>match P.info? e with
   | some i=>match i.zero with
     | some z=>match kr (ju 4) z.cells.toList with
       | some A=>cond (aP A.length i.size && (aE 0 i.size && dZ A)) (some (e,i.size,i.bytes,A)) none
       | none=>none
     | none=>none
   | none=>none
 | _=>none
def o0 (P:ar) (G:Nat) (o:Op) (xs:List AV) (h:Hp):Option (AV×Hp):=match o with
 | .alloc e=>match zeroOf P e with
   | some (some A)=>match kr (ju 4) A with
     | some l=>cond (dZ l) (match cW h (.cells l e 0 .x) with
       | some h'=>some (.ptr h.nx 0,h')
       | none=>none) none
     | none=>none
   | _=>none
 | .box e _=>match xs with
   | [x]=>cond (dZ<|kR x) (match cW h (.cells (kR x) e 0 .x) with
     | some h'=>some (.ptr h.nx 0,h')
     | none=>none) none
   | _=>none
 | .makeMap _ none=>match cW h (.map []) with
   | some h'=>some (.map h.nx,h')
   | none=>none
 | .buildSlice t n ⟨ps⟩=>match pB P t with
   | some (e,s,_,A)=>cond (bf (n*s) 16777216) (match m7 (fun i=>some (i*s,s)) (ky A n) (lG ps xs) with
     | some l=>cond (dZ l) (match cW h (.cells l e 0 .x) with
       | some h'=>some (.sl h.nx 0 n n true,h')
       | none=>none) none
     | none=>none) none
   | none=>none
 | .makeSlice t _ _=>match xs with
   | [.int .i64 (.ofNat n),.int .i64 (.ofNat c)]=>match pB P t with
     | some (e,s,by_,A)=>cond (bf n c && (bf (by_*c) 281474976710656 && aE c 9223372036854775808)) (match cW h (.cells (ky A c) e 0 .x) with
       | some h'=>some (.sl h.nx 0 n c true,h')
       | none=>none) none
     | none=>none
   | _=>none
 | .store t _ _=>match xs with
   | [.ptr b o,v]=>match rj P G t b o v h with
     | some h'=>some (.bT [],h')
     | none=>none
   | _=>none
 | .mapUpdate t _ _ _=>match xs with
   | [.map b,k,v]=>cond (bf G b) (match o7 P t b k v h with
     | some h'=>some (.bT [],h')
     | none=>none) none
   | _=>none
 | .insert t _ _ _=>match xs with
   | [.map b,k,v]=>cond (bf G b) (match o7 P t b k v h with
     | some h'=>some (.bT [],h')
     | none=>none) none
   | _=>none
 | _=>none
section
variable {P:ar} {G:Nat} {r:Rn} {T:Nat} {h:Hp} {w:ah} {N:Fm} {σ:Nat→ag} {dst:Option Nat} {ty:av} {pos :String} {af:Array bQ} {g:Option (Nat×Bool)} {x y z:aW}
theorem iL (r:Rn):den r (.bT [])=some undef:=by simp [den,aM]; rfl
theorem tB {r:Rn} {A:List AV} {Z:List ag} (h:aM r A=some Z):∀ n,aM r (ky A n)=some ((dr n Z).flatten)
 | 0=>by simp [ky,aM]
 | n+1=>by simp only [ky,FC,Fo]; exact fA h<|tB h n
theorem Cw:∀ {l m:List AV},dZ l=true→dZ m=true→dZ (l++m)=true
 | [],m,_,h=>h
 | a::l,m,h,h'=>by
   simp only [dZ,List.cons_append] at h ⊢;cases ha:tk a
   · rw [ha] at h; cases h
   · rw [ha] at h; exact Cw h h'
theorem xN {A:List AV} (h:dZ A=true):∀ n,dZ (ky A n)=true
 | 0=>rfl
 | n+1=>Cw h<|xN h n
theorem xK (Z:Array ag) (A:0 < Z.size):∀ n,(lI<|n*Z.size).map (Z[· % Z.size]!)=((dr n Z.toList).flatten).toArray:=by
 intro n;apply rC.1;simp only [ja,Array.toList_range]
 induction n with
 | zero=>simp
 | succ n ih=>
   rw [Nat.succ_mul,qa,List.range_add,gK,FC,Fo,rP];congr 1
   · apply uA;intro i;simp only [gu];by_cases hi:i < Z.size
     · rw [List.getElem?_range hi,fG,Nat.mod_eq_of_lt hi];rw [getElem!_pos Z i hi];simp [hi]
     · rw [jG (by simp; omega),jG (by simp; omega)]; rfl
   · rw [← ih];apply List.map_congr_left;intro i _;simp
theorem tS {r:Rn} {t e s E:Nat} {C:List AV} (h:pB P t=some (e,s,E,C)):∃ i z,P.underlying t=some (.slice e)∧P.info? e=some i∧i.zero=some z∧i.size=s∧i.bytes=E∧z.cells.size=s∧0 < s∧aM r C=some z.cells.toList∧dZ C=true∧C.length=s:=by
 unfold pB at h;split at h
 · rename_i e' hu;split at h
   · rename_i i hi;split at h
     · rename_i z L;split at h
       · rename_i O M;replace h:=aY h; obtain ⟨A,h⟩:=h;simp only [a0] at A;cases h;have I:=oW (r:=r) (fun v a=>ml 4) M;have J:=bM A.1;have :=de I;exact ⟨i,z,hu,hi,L,U,U,by rw [← lH]; omega,cB.1 A.2.1,I,A.2.2,J⟩
       · cases h
     · cases h
   · cases h
 · cases h
theorem Mb (hr:HR P G r T h w) {t b o:Nat} {v:AV} {h':Hp} {u:ag} (A:rj P G t b o v h=some h') (ay:den r v=some u) (az:den r (.ptr b o)=some (ev N σ x)) (aA:ev N σ y=u):YM P G r T N σ ⟨dst,.store t x y,ty,pos,af,g⟩ h w (.bT []) h':=by
 unfold rj at A;split at A
 · rename_i l e fz ex hb;split at A
   · rename_i n hn;replace A:=aY A; obtain ⟨ah,A⟩:=A;simp only [a0] at ah;obtain ⟨⟨I,c2⟩,c3,c4,J,c6⟩:=ah;have I:=bM I;have c2:=bN c2;have c3:=bN c3;have J:=bN J;cases A;obtain ⟨q,aj,c,fr,us,h1,M,aC,ac,aq,ad,ae,ar⟩:=hr.live b _ hb;obtain ⟨q',al,hu⟩:=iM az;rw [aj] at al; cases al;have V:=vj ay;have aw:=de V;have aE:=de M;have ai:=oY V c4;have hlen:u.cells.toList.length=n:=by rw [aw,I]
     have bo:=run_storeCells_atF P q.ak (q.sh+o) e fr u.cells.toList 0 c w h1 ab ab ai;unfold cC at hn;simp only [gM] at hn;obtain ⟨i,hi,A⟩:=hn;have ax:u.cells.size=n:=by rw [← lH,hlen]
     obtain ⟨L,O⟩:∃ L,c.toList.take (q.sh+o+0)++u.cells.toList++c.toList.drop (q.sh+o+0 +u.cells.toList.length)=L:=⟨_,rfl⟩
     rw [O] at bo;have aD:L.length=c.size:=by rw [← O]; simp; omega
     have au:∀ k,L[k]? =if k < q.sh+o then c[k]? else if k < q.sh+o+n then u.cells.toList[k - (q.sh+o)]? else c[k]? :=by
      intro k;rw [← O,lQ];by_cases E:k < q.sh+o
      · rw [if_pos E,gJ,fF (by simp; omega),jg,if_pos E]; simp
      · rw [if_neg E];by_cases Z:k < q.sh+o+n
        · rw [if_pos Z,fF (by simp; omega),fW (by simp; omega)];congr 1; simp; omega
        · rw [if_neg Z,fW (by simp; omega),iF];simp only [bG,cO,lH,pM];congr 1; omega
     refine ⟨r,undef,w.setRow q.ak L.toArray,iL r,.inr ⟨?_,U⟩,?_⟩
     · simp [execOp,Instr.storeAt,hu,aA,Instr.sureAddr,storeVar,sizeOf,dj hi,A,ax,bo]
     · refine hr.lr hb c6 aj J ?_ ⟨U,U,by simp,fun k _ av=>setRow_other w q.ak k _ av⟩;rw [setRow_heap w q.ak _ _ e _ h1];refine ⟨L.toArray,fr,us.take o++(u.cells.toList++us.drop (o+n)),U,fA (jl o M) (fA V<|jS (o+n) M),?_,fun j a C=> ?_,aq,?_,⟨fun hex=> ?_,ae.2⟩,fun s A=> ?_⟩
       · simp only [bG,cO,iG,eM]; omega
       · rw [lO,au];by_cases E:j < o
         · rw [fF (by simp; omega),jg,if_pos E] at C;rw [if_pos ab]; exact ac _ _ C
         · rw [fW (by simp; omega)] at C;rw [if_neg ab];have am:(us.take o).length=o:=by simp; omega
           rw [am] at C;by_cases Z:j < o+n
           · rw [fF ab] at C;rw [if_pos ab,show q.sh+j - (q.sh+o)=j - o from by omega]; exact C
           · rw [fW ab,iF,hlen] at C;rw [if_neg ab];refine ac j a ?_;rw [← C]; congr 1; omega
       · intro a ha;rcases dH.1 ha with ha | ha
         · exact ad a<|uJ ha
         · rcases dH.1 ha with ha | ha
           · exact ai a ha
           · exact ad a<|uI ha
       · obtain ⟨ao,aB,ap⟩:=ae.1 hex;refine ⟨ao,?_,ap⟩;simp only [bG,cO,iG,eM]; omega
       · have :=ar s A;simp only [eM]; omega
   · cases A
 · cases A
end
end Go.Hb
namespace Go.Hb
section
variable {P:ar} {G:Nat} {r:Rn} {T:Nat} {h:Hp} {w:ah} {N:Fm} {σ:Nat→ag} {dst:Option Nat} {ty:av} {pos :String} {af:Array bQ} {g:Option (Nat×Bool)} {x y z:aW}
theorem As {r':Rn} {i b room n c:Nat} (hi:r' i=some ⟨b,0,room⟩) (hn:n≤c):den r' (.sl i 0 n c true)=some (.slice (some ⟨b,0,none⟩) n c):=by
 rw [l5 hi hn]
theorem Iz {t e s n:Nat} {A L:List AV} {Z:ag} {ps:List (Nat×aW)} {xs:List AV} (ac:0 < s) (V:Z.cells.size=s) (U:aM r A=some Z.cells.toList) (M:m7 (fun i=>some (i*s,s)) (ky A n) (lG ps xs)=some L) (J:aM r xs=some ((ps.map (·.2)).map<|ev N σ)):
 ∃ C,aM r L=some C∧jb (fun i=>some (i*s,s)) ((lI<|n*s).map (Z.cells[· % Z.cells.size]!)) (ps.map fun p=>(p.1,ev N σ p.2))=some C.toArray:=by
 obtain ⟨h1,E⟩:=yN (f:=ev N σ) J;obtain ⟨C,I,O⟩:=vW M (tB U n) h1 E;refine ⟨C,I,?_⟩;rw [← O];congr 1;have :=xK Z.cells ab n;rw [V] at this ⊢;exact this
theorem Kz (hr:HR P G r T h w) {o:Op} {xs:List AV} {v:AV} {h':Hp} (A:o0 P G o xs h=some (v,h')) (hT:h'.nx≤T) (O:aM r xs=some ((gp o).map<|ev N σ)):YM P G r T N σ ⟨dst,o,ty,pos,af,g⟩ h w v h':=by
 unfold o0 at A;split at A
 · rename_i e;split at A
   · rename_i ap M;split at A
     · rename_i l ay;replace A:=aY A; obtain ⟨E,A⟩:=A;split at A
       · rename_i J hn;cases A;have aw:=oW (r:=r) (fun v a=>ml 4) ay;unfold zeroOf at M;simp only [gM] at M;obtain ⟨i,hi,zv,aF,rfl⟩:=M;refine YM.new hr (f:=fun b=> .pointer<|some ⟨b,0,none⟩) hn hT aw E ?_ fun r' I=>by simp only [den,I]
         simp [execOp,uu,zeroValue,dj hi,aF,newVar,newRow]
       · cases A
     · cases A
   · cases A
 · rename_i e _;split at A
   · rename_i x;replace A:=aY A; obtain ⟨E,A⟩:=A;split at A
     · rename_i J hn;cases A;have h1:=eQ O;refine YM.new hr (f:=fun b=> .pointer<|some ⟨b,0,none⟩) hn hT (vj h1) E ?_ fun r' I=>by simp only [den,I]
       simp [execOp,Instr.box,newVar,newRow]
     · cases A
   · cases A
 · split at A
   · rename_i J hn;cases A;obtain ⟨r',aA,I⟩:=hr.cW hn hT 0 (w':= {w with heap:=w.heap.push<|.map #[] 0}) rfl rfl rfl fun r' hle _=>⟨#[],0,rfl,trivial,by simp⟩
     refine ⟨r',.map (some w.heap.size),_,by simp only [den,aA],.inl ?_,I⟩;simp [execOp,Instr.makeMap]
   · cases A
 · rename_i t n ps;split at A
   · rename_i e s aq ap M;replace A:=aY A; obtain ⟨E,A⟩:=A;have E:=bN E;split at A
     · rename_i l ax;replace A:=aY A; obtain ⟨h1,A⟩:=A;split at A
       · rename_i J hn;cases A;obtain ⟨i,zv,hu,hi,ah,rfl,rfl,V,al,ai,ao,aE⟩:=tS (r:=r) M;obtain ⟨C,av,ac⟩:=Iz (N:=N) (σ:=σ) (t:=t) (e:=e) al V ai ax O;refine YM.new hr (f:=fun b=> .slice (some ⟨b,0,none⟩) n n) hn hT av h1 ?_ fun r' I=>As I<|aQ _;have aG:(ps.toArray.map fun p=>(p.1,ev N σ p.2)).toList=ps.map fun p=>(p.1,ev N σ p.2):=by simp
         by_cases ak:n*i.size=0
         · have az:n=0:=by rcases Nat.mul_eq_zero.1 ak with h | h; exact h; omega
           subst az;have aj:∀ f:Nat→ag,Array.map f (lI 0)= #[]:=fun f=>Array.eq_empty_of_size_eq_zero<|by simp
           rw [uS,aj] at ac;simp [execOp,rE,bB hu,sizeOf,dj hi,aj,ac,newRow]
         · simp only [execOp,rE,iE,bB hu,hZ,sizeOf,dj hi,kH,Sem.run_ite,zeroValue,ah,ja,ac];rw [if_neg (by rw [show (2:Nat) ^ 24=16777216 from rfl]; omega),if_neg ak];simp [newRow]
       · cases A
     · cases A
   · cases A
 · rename_i t _ _;split at A
   · rename_i n c;split at A
     · rename_i e s aq ap M;replace A:=aY A; obtain ⟨E,A⟩:=A;simp only [a0] at E;have ar:=bN E.1;have c2:=bN E.2.1;have c3:=cB.1 E.2.2;split at A
       · rename_i J hn;cases A;obtain ⟨i,zv,hu,hi,ah,rfl,rfl,V,al,ai,ao,aE⟩:=tS (r:=r) M;have am:=run_make (P:=P) w t e i zv hu hi ah .i64 .i64 n c ab ab (by rw [← Int.natCast_mul]; omega) ab;have au:madeCells zv.cells (c*i.size)=((dr c zv.cells.toList).flatten).toArray:=by
          have :=xK zv.cells ab c;rw [V] at this;rw [← this]; unfold madeCells; rw [V]
         rw [rN,rN,au] at am;refine YM.new hr (f:=fun b=> .slice (some ⟨b,0,none⟩) n c) hn hT (tB ai c) (xN ao c) ?_ fun r' I=>As I ar;obtain ⟨h1,L⟩:=im O;have aC:=cQ h1;have aD:=cQ L;simp [execOp,aC,aD,am]
       · cases A
     · cases A
   · cases A
 · split at A
   · split at A
     · rename_i J aB;cases A;obtain ⟨h1,L⟩:=im O;exact Mb hr aB L h1 U
     · cases A
   · cases A
 · split at A
   · replace A:=aY A; obtain ⟨E,A⟩:=A;split at A
     · rename_i J hp;cases A;obtain ⟨h1,L,Z⟩:=l4 O;obtain ⟨q,ad,hu⟩:=mW h1;obtain ⟨w',ae,I⟩:=CL hr (bN E) hp ad L Z;exact ⟨r,undef,w',iL r,.inr ⟨by simp [execOp,hu,ae],U⟩,I⟩
     · cases A
   · cases A
 · split at A
   · replace A:=aY A; obtain ⟨E,A⟩:=A;split at A
     · rename_i J hp;cases A;obtain ⟨h1,L,Z⟩:=l4 O;obtain ⟨q,ad,hu⟩:=mW h1;obtain ⟨w',ae,I⟩:=CL hr (bN E) hp ad L Z;exact ⟨r,undef,w',iL r,.inr ⟨by simp [execOp,hu,ae],U⟩,I⟩
     · cases A
   · cases A
 · cases A
end
end Go.Hb
namespace Go.Hb
def tZ:List UInt8→List AV
 | []=> []
 | c::l=> .int .u8 (kI c.toNat)::tZ l
def qs (o:Nat):Ck→Ck
 | .a=> .a
 | _=>match o with
   | 0=> .z
   | _=> .a
theorem z0 {o:Nat} {e:Ck} :qs o e≠.x:=by
 cases e <;> simp only [qs] <;> first | (intro h; cases h; done) | (split <;> intro h <;> cases h)
theorem G5 {o:Nat} {e:Ck} (h:qs o e≠.a):e≠.a∧o=0:=by
 cases e with
 | a=>exact absurd rfl h
 | _=>
   refine ⟨fun h=>(by cases h),?_⟩;simp only [qs] at h;split at h
   · rfl
   · exact absurd U h
def yn (P:ar) (s:Nat) (A:av) (x:AV) (h:Hp):Option (Nat×List AV):=match x with
 | .sl b o n _ _=>match h.t.get b with
   | some (.cells l _ _ _)=>cond (j4 P A && bf (o+n*s) l.length) (some (n,(l.drop o).take (n*s))) none
   | _=>none
 | .an=>cond (j4 P A) (some (0,[])) none
 | .str l=>cond (isStr P A && aP s 1) (some (l.length,tZ l)) none
 | _=>none
def va (P:ar) (G:Nat) (t C:av) (A E:AV) (h:Hp):Option (AV×Hp):=match pB P t with
 | some (e,s,by_,_)=>match yn P s C E h with
   | some (m,news)=>cond (dZ news) (match A with
     | .an=>match m with
       | 0=>some (.an,h)
       | _=>cond (bf (m*by_) 140737488355328 && bf m 1000000000) (match cW h (.cells news e 0 .z) with
         | some h'=>some (.sl h.nx 0 m 0 false,h')
         | none=>none) none
     | .sl b o n c x=>match m with
       | 0=>some (.sl b o n c x,h)
       | _=>match h.t.get b with
         | some (.cells l e' fz ex)=>cond ((aP e e' && (bf ((n+m)*by_) 140737488355328 && bf (n+m) 1000000000)) && (bf (o+n*s) l.length && (bf G b && aE b cj)))
           (cond x (cond (bf (n+m) c)
            (cond (bf (o+(n+m)*s) l.length && bf fz (o+n*s)) (some (.sl b o (n+m) c true,⟨h.t.set b (.cells (l.take (o+n*s)++(news++l.drop (o+(n+m)*s))) e fz ex),h.nx⟩)) none)
            (match cW h (.cells ((l.drop o).take (n*s)++news) e 0 .z) with
             | some h'=>some (.sl h.nx 0 (n+m) 0 false,h')
             | none=>none))
            (cond (aP o (c*s) && bf fz (o+n*s)) (match cW ⟨h.t.del b,h.nx⟩ (.cells ((l.drop o).take (n*s)++news) e (fz - o)<|qs o ex) with
             | some h'=>some (.sl h.nx 0 (n+m) 0 false,h')
             | none=>none) none)) none
         | _=>none
     | _=>none) none
   | none=>none
 | none=>none
section
variable {P:ar} {G:Nat} {r:Rn} {T:Nat} {h:Hp} {w:ah} {N:Fm} {σ:Nat→ag} {dst:Option Nat} {ty:av} {pos :String} {af:Array bQ} {g:Option (Nat×Bool)} {x y z:aW}
theorem DY:∀ l:List UInt8,aM r (tZ l)=some (U8 l)
 | []=>by simp [tZ,aM,U8]
 | c::l=>dQ rfl (DY l)
theorem LV (hr:HR P G r T h w) {s m:Nat} {M:av} {x:AV} {news:List AV} {u:ag} (he:yn P s M x h=some (m,news)) (h1:dZ news=true) (hu:den r x=some u):∃ N,aM r news=some N∧Src P s M u m N w:=by
 unfold yn at he;split at he
 · rename_i b o n V Z;split at he
   · rename_i l _ _ _ hb;replace he:=aY he; obtain ⟨A,he⟩:=he;simp only [a0] at A;cases he;obtain ⟨q,us,U,J,O,_⟩:=hr.cells hb;obtain ⟨q',cap,L,hn,rfl,_⟩:=iN hu;rw [U] at L; cases L;obtain ⟨e',E⟩:=qN A.1;have hle:=bN A.2;have hlen:=de J;have I:=jl (m*s)<|jS o J;refine ⟨_,I,Src.ofSlice w E _ _ _ _ (by simp; omega) (fun j u C=> ?_)<|oY I h1⟩;rw [gd,jR,iI];rw [jg] at C;split at C
     · rw [iF] at C; exact O _ _ C
     · cases C
   · cases he
 · replace he:=aY he; obtain ⟨A,he⟩:=he;cases he;obtain rfl :=iu hu;obtain ⟨e',E⟩:=qN A;exact ⟨[],by simp [aM],Src.ofNil w E 0⟩
 · replace he:=aY he; obtain ⟨A,he⟩:=he;simp only [a0] at A;cases he;obtain rfl :=gP hu;obtain rfl :=bM A.2;exact ⟨_,DY _,Src.ofString w (l9 A.1) ⟨⟨_⟩⟩⟩
 · cases he
theorem zG {t J ty e:av} {i:TypeInfo} (I:P.underlying t=some (.slice e)) (hi:P.info? e=some i) {x:ag} {news:List ag} (A:Src P i.size J x 0 news w) {base:Option Addr} {n c:Nat} (hn:n≤c):
 (ke #[t,J] ty #[.slice base n c,x]).run P w= .ok (.slice base n c) w:=by
 have L:news= []:=jF<|by rw [A.newsLen]; simp
 subst L;have E:=A.cells;cases base with
 | none=>rcases A.kind with ⟨e',C⟩ | C <;> simp [ke,run_underlying I,run_underlying C,sizeOf,typeInfo,hi,A.len,hn,E]
 | some a=>rcases A.kind with ⟨e',C⟩ | C <;> simp [ke,run_underlying I,run_underlying C,sizeOf,typeInfo,hi,A.len,hn,E,storeCells]
theorem zH {t E ty e:av} {i:TypeInfo} (I:P.underlying t=some (.slice e)) (hi:P.info? e=some i) {x:ag} {m:Nat} {news:List ag} (A:Src P i.size E x m news w) {b off n c:Nat} {cur:Array ag} {fz:Nat×Nat} (hn:n+m≤c)
 (hb:w.heap[b]? =some (.cells cur e fz)) (J:fz.2≤off+n*i.size) (L:off+n*i.size+news.length≤cur.size):
 (ke #[t,E] ty #[.slice (some ⟨b,off,none⟩) n c,x]).run P w= .ok (.slice (some ⟨b,off,none⟩) (n+m) c) (w.setRow b (cur.toList.take (off+n*i.size)++news++cur.toList.drop (off+n*i.size+news.length)).toArray):=by
 have bo:=run_storeCells_atF P b (off+n*i.size) e fz news 0 cur w hb ab ab A.one;simp only [lQ] at bo;rcases A.kind with ⟨e',C⟩ | C <;> simp [ke,run_underlying I,run_underlying C,sizeOf,typeInfo,hi,A.len,hn,A.cells,Addr.add_lit,bo]
theorem xY (L X:List ag) (a:Nat) (h:a+X.length≤L.length) (k:Nat):(L.take a++X++L.drop (a+X.length))[k]? =if k < a then L[k]? else if k < a+X.length then X[k - a]? else L[k]? :=by
 by_cases A:k < a
 · rw [if_pos A,gJ,fF (by simp; omega),jg,if_pos A]
 · rw [if_neg A];by_cases C:k < a+X.length
   · rw [if_pos C,fF (by simp; omega),fW (by simp; omega)];congr 1; simp; omega
   · rw [if_neg C,fW (by simp; omega),iF];simp only [bG,cO];congr 1; omega
theorem zF {t A ty e:av} {i:TypeInfo} {z:ag} (L:P.underlying t=some (.slice e)) (hi:P.info? e=some i) (M:i.zero=some z) (O:z.cells.size=i.size) (Z:0 < i.size) {x:ag} {m:Nat} {olds news:List ag} (I:Src P i.size A x m news w) {base:Option Addr} {n c:Nat}
 (J:olds.length=n*i.size) (hold:(ur i.size n<|.slice base n c).run P w.drew= .ok olds.toArray w.drew) (V:∀ u∈olds,u.oneCell'=true) (C:c < n+m) (U:n+m≤1000000000) (hb:(n+m)*i.bytes≤140737488355328):
 ∃ (cap:Nat) (cs:Array ag),n+m≤cap∧cap*i.size=cs.size∧(∀ (j:Nat) (u:ag),(olds++news)[j]? =some u→cs[j]? =some u)∧(ke #[t,A] ty #[.slice base n c,x]).run P w= .ok (.slice (some ⟨w.heap.size,0,none⟩) (n+m) cap) {w.drew with heap:=w.heap.push<|.cells cs e (0,0)} :=by
 have hr:=run_append_grow_src (P:=P) w t A ty e i z L hi M base n c olds hold x m news I C ab<|growslice_fits C hb;refine ⟨_,_,grownCap_ge w (n+m) c e,?_,?_,hr⟩
 · have :=grownCap_ge w (n+m) c e;simp only [Array.size_append,eM,size_zeroCells,O,bG,J,I.newsLen,← mJ];congr 1; omega
 · intro j u E;rw [Array.getElem?_append_left (by have :=(cD.1 E).1; simpa using this)];simpa using E
theorem IA (hr:HR P G r T h w) {b o n c s:Nat} {x:Bool} {l:List AV} {e fz:Nat} {ex:Ck} {us:List ag} {q:Loc} (hb:h.t.get b=some (.cells l e fz ex)) (L:r b=some q) (C:aM r l=some us) (hle:o+n*s≤l.length) (cap:Nat):
 (ur s n<|.slice (some ⟨q.ak,q.sh+o,none⟩) n cap).run P w.drew= .ok ((us.drop o).take<|n*s).toArray w.drew:=by
 obtain ⟨q',M,I,E,J,_⟩:=hr.cells hb;rw [L] at I; cases I;rw [C] at E; cases E;have hlen:=de C;refine run_firstCells_some (P:=P) w.drew s n _ n cap _ (by simp; omega) fun j u A=> ?_;rw [gd,jR,iI];rw [jg] at A;split at A
 · rw [iF] at A; exact J _ _ A
 · cases A
theorem Gm (hr:HR P G r T h w) {t ar:av} {a4 a6 v:AV} {h':Hp} (ha:va P G t ar a4 a6 h=some (v,h')) (hT:h'.nx≤T) (aB:den r a4=some (ev N σ x)) (bw:den r a6=some (ev N σ y)):YM P G r T N σ ⟨dst,.call ⟨.builtin .append,#[x,y],#[t,ar]⟩,ty,pos,af,g⟩ h w v h':=by
 have aj:∀ {u:ag} {w':ah},(ke #[t,ar] ty #[ev N σ x,ev N σ y]).run P w= .ok u w'→(execOp (ev N σ) ⟨dst,.call ⟨.builtin .append,#[x,y],#[t,ar]⟩,ty,pos,af,g⟩).run P w= .ok (.value u) w':=by
  intro u w' h;simp [execOp,resolve,invoke,builtin,h]
 unfold va at ha;split at ha
 · rename_i e s bB bP bx;obtain ⟨i,zv,hu,hi,a1,rfl,rfl,a2,aX,bJ,bL,bK⟩:=tS (r:=r) bx;split at ha
   · rename_i m news bu;replace ha:=aY ha; obtain ⟨aV,ha⟩:=ha;obtain ⟨Nw,ap,O⟩:=LV hr bu aV bw;have bg:=de ap;have aM:=oY ap aV;split at ha
     · have ac:=iu aB;split at ha
       · cases ha;exact ⟨r,_,w,aB,.inl (aj<|by rw [ac]; exact zG hu hi O<|aQ _),St.refl hr⟩
       · rename_i aK;replace ha:=aY ha; obtain ⟨C,ha⟩:=ha;simp only [a0] at C;have aC:=bN C.1;have c2:=bN C.2;have hm:0 < m:=FN fun e=>aK<|by rw [e]
         split at ha
         · rename_i V hn;cases ha;obtain ⟨cap,cs,ad,al,aw,ax⟩:=zF (w:=w) (ty:=ty) (base:=none) (n:=0) (c:=0) (olds:= []) hu hi a1 a2 aX O (by simp) (run_firstCells_none (P:=P) w.drew i.size 0 0 0) (by simp) ab ab<|by rw [cz]; exact aC
           rw [cz] at ad ax;rw [List.nil_append] at aw;obtain ⟨r',az,bo⟩:=hr.cW hn hT cap (w':= {w.drew with heap:=w.heap.push<|.cells cs e (0,0)}) rfl rfl rfl fun r' hle _=>by
            refine ⟨cs,(0,0),Nw,U,iq hle ap,?_,fun j u A=>by rw [cz]; exact aw j u A,by simp,aM,⟨(fun h=>by cases h),fun _=>rfl⟩,fun s E=> ?_⟩
            · rw [cz,← bg,O.newsLen,← al]; exact om _ ad
            · have :s=i.size:=by unfold cC at E; rw [hi] at E; simpa using E.symm
              rw [this,cz,al]; exact aQ _
           refine ⟨r',_,_,?_,.inl (aj<|by rw [ac]; exact ax),bo⟩;rw [oF az (by simpa using ad)]; simp
         · cases ha
     · rename_i b o n c a5;obtain ⟨q,cap,ae,bq,ac,bj,bi⟩:=iN aB;split at ha
       · cases ha;exact ⟨r,_,w,aB,.inl (aj<|by rw [ac]; exact zG hu hi O bq),St.refl hr⟩
       · rename_i aK;have hm:0 < m:=FN fun e=>aK<|by rw [e]
         split at ha
         · rename_i l e' fz ex hb;replace ha:=aY ha; obtain ⟨C,ha⟩:=ha;simp only [a0] at C;obtain ⟨⟨aC,c2,c3⟩,aD,au,c6⟩:=C;obtain rfl :=bM aC;have c2:=bN c2;have c3:=bN c3;have aD:=bN aD;have au:=bN au;obtain ⟨q',ai,cc,fr,us,h1,Z,bE,aE,bb,aF,aG,aP⟩:=hr.live b _ hb;rw [ae] at ai; cases ai;have bI:=de Z;have bm:=IA (s:=i.size) (x:=a5) (c:=c) hr hb ae Z aD;have holds:=jl (n*i.size)<|jS o Z;have aL:((us.drop o).take<|n*i.size).length=n*i.size:=by simp; omega
           have aW:∀ u∈(us.drop o).take (n*i.size),u.oneCell'=true :=fun u hu=>aF u<|uI<|uJ hu;have ay:=fA holds ap;have aS:∀ u∈(us.drop o).take (n*i.size)++Nw,u.oneCell'=true :=fun u hu=>(dH.1 hu).elim (aW u)<|aM u;have aT:∀ s,cC P e=some s→s=i.size:=fun s E=>by unfold cC at E; rw [hi] at E; simpa using E.symm
           have aU:((us.drop o).take (n*i.size)++Nw).length=(n+m)*i.size:=by rw [bG,aL,O.newsLen,mJ]
           have grow:∀ {h0 V:Hp} {aO:Nat} {ck:Ck},ck≠.x→HR P G r T h0 w→St P G T r h w r h0 w→h0.nx=h.nx→cap < n+m→Hb.cW h0 (.cells ((l.drop o).take (n*i.size)++news) e aO ck)=some V→V.nx≤T→
            YM P G r T N σ ⟨dst,.call ⟨.builtin .append,#[x,y],#[t,ar]⟩,ty,pos,af,g⟩ h w (.sl h.nx 0 (n+m) 0 false) V:=by
            intro h0 V aO ck bh bt bv br J hn hT;obtain ⟨a7,cs,ad,al,aw,ax⟩:=zF (w:=w) (ty:=ty) (base:=some ⟨q.ak,q.sh+o,none⟩) (n:=n) (c:=cap) hu hi a1 a2 aX O aL (bm cap) aW J c3 c2;obtain ⟨r',az,bo⟩:=bt.cW hn hT a7 (w':= {w.drew with heap:=w.heap.push<|.cells cs e (0,0)}) rfl rfl rfl fun r' hle _=>by
             refine ⟨cs,(0,0),_,U,iq hle ay,?_,fun j u A=>by rw [cz]; exact aw j u A,by simp,aS,⟨fun h=>absurd h bh,fun _=>rfl⟩,fun s E=> ?_⟩
             · rw [cz,← de ay,aU,← al]; exact om _ ad
             · rw [aT s E,cz,al]; exact aQ _
            rw [br] at az;refine ⟨r',_,_,?_,.inl (aj<|by rw [ac]; exact ax),St.trans bv bo⟩;rw [oF az (by simpa using ad)]; simp
           cases a5
           · obtain ⟨rfl,bH⟩:=bi rfl;simp only [cond_false] at ha;replace ha:=aY ha; obtain ⟨C,ha⟩:=ha;simp only [a0] at C;have d1:=bM C.1;have d2:=bN C.2;split at ha
             · rename_i V hn;cases ha;have aA:=hr.del c6;have aZ:St P G T r h w r ⟨h.t.del b,h.nx⟩ w:=⟨Rn.le_refl r,aA,aQ _,Md.refl _ _,fun g _ k _ aI=>by
                obtain ⟨j,a3,q',bc,A,ai,rfl⟩:=aI;rw [Tr.oR _ _ _ c6] at A;split at A
                · cases A
                · exact ⟨j,a3,q',bc,A,ai,U⟩,fun _ _=>rfl⟩
               by_cases M:n+m≤q.room - c
               ·
                have bF:=aP i.size<|by unfold cC; rw [hi]; rfl
                have bC:q.sh+o+(n+m)*i.size≤cc.size:=by
                 have :(c+(n+m))*i.size≤q.room*i.size:=om _ ab;rw [mJ] at this;omega
                have a8:Nw.length=m*i.size:=O.newsLen;have a9:(n+m)*i.size=n*i.size+m*i.size:=mJ _ _ _;have aq:=zH (w:=w) (ty:=ty) (off :=q.sh+o) hu hi O M h1 ab ab;unfold Hb.cW at hn;replace hn:=aY hn; obtain ⟨aH,hn⟩:=hn;cases hn;simp only at hT aH;have hle:=Rn.qQ (i:=h.nx) ⟨q.ak,q.sh+o,q.room - c⟩<|hr.new h.nx (aQ _) ab;obtain ⟨L,am⟩:∃ L,cc.toList.take (q.sh+o+n*i.size)++Nw++cc.toList.drop (q.sh+o+n*i.size+Nw.length)=L:=⟨_,rfl⟩
                have ao:=xY cc.toList Nw (q.sh+o+n*i.size)<|by simp; omega
                rw [am] at aq ao;have bd:L.length=cc.size:=by rw [← am]; simp; omega
                have aJ:=setRow_heap w q.ak _ L.toArray e _ h1;have aR:∀ g,g≤G→Fr g r h q.ak:=fun g J=>⟨b,_,q,cn J au,hb,ae,rfl⟩
                refine ⟨r.ext h.nx ⟨q.ak,q.sh+o,q.room - c⟩,_,w.setRow q.ak L.toArray,?_,.inl (aj<|by rw [ac]; exact aq),⟨hle,aA.put hle aH (Rn.gQ _ _ _) ?_ (fun k I _=>setRow_other w q.ak k _ I) ?_ (lS _) (fun k I bp=> ?_),lS _,⟨U,U,by simp,fun k _ I=>setRow_other w q.ak k _ fun e=>I<|by rw [e]; exact aR G<|aQ _⟩,fun g J k I aI=> ?_,fun k I=>Rn.jZ _ _<|by simp only at I; omega⟩⟩
                · rw [oF (Rn.gQ _ _ _) (by simpa using M)]; simp
                · rw [aJ];refine ⟨L.toArray,fr,_,U,iq hle ay,?_,fun j u A=> ?_,by simp only; omega,aS,⟨fun h=>absurd h z0,fun h=>by obtain ⟨h1,Z⟩:=G5 h; simp only; rw [aG.2 h1,Z]⟩,fun s E=> ?_⟩
                  · rw [← de ay,aU]; simp only [eM]; omega
                  · simp only [lO];rw [ao];by_cases aN:j < n*i.size
                    · rw [fF ab,jg,if_pos aN,iF] at A;rw [if_pos ab,pM,iI]; exact aE _ _ A
                    · rw [fW ab,aL] at A;have :=(cD.1 A).1;rw [if_neg ab,if_pos ab,show q.sh+o+j - (q.sh+o+n*i.size)=j - n*i.size from by omega]; exact A
                  · rw [aT s E];simp only [eM];have :(c+(q.room - c))*i.size=q.room*i.size:=by congr 1; omega
                    rw [mJ] at this;omega
                · intro j a3 q' A J ai he;rw [Tr.oR _ _ _ c6] at J;split at J
                  · cases J
                  · rename_i bn;exact bn<|hr.inj j b _ _ _ _ J hb ai ae he
                · rw [Rn.jZ _ _ (by simp only at I; omega)]; exact hr.new k (by simp only at I; omega) bp
                · rcases Fr.set aH (Rn.gQ _ _ _) hle aA aI with h1 | h1
                  · rw [h1]; exact aR g J
                  · exact aZ.dY g J k I h1
               · exact grow z0 aA aZ U ab hn hT
             · cases ha
           · obtain rfl :=bj rfl;simp only [cond_true] at ha;cases M:bf (n+m) cap
             · rw [M] at ha;simp only [cond_false] at ha;split at ha
               · rename_i V hn;cases ha;exact grow (fun h=>by cases h) hr (St.refl hr) U (by
                  rcases dD cap (n+m) with h | h
                  · exact h
                  · rw [zj h] at M; cases M) hn hT
               · cases ha
             · rw [M] at ha;simp only [cond_true] at ha;replace ha:=aY ha; obtain ⟨C,ha⟩:=ha;simp only [a0] at C;have d1:=bN C.1;have d2:=bN C.2;have M:=bN M;cases ha;have a8:Nw.length=m*i.size:=O.newsLen;have a9:(n+m)*i.size=n*i.size+m*i.size:=mJ _ _ _;have aq:=zH (w:=w) (ty:=ty) (off :=q.sh+o) hu hi O M h1 ab ab;obtain ⟨L,am⟩:∃ L,cc.toList.take (q.sh+o+n*i.size)++Nw++cc.toList.drop (q.sh+o+n*i.size+Nw.length)=L:=⟨_,rfl⟩
               have ao:=xY cc.toList Nw (q.sh+o+n*i.size)<|by simp; omega
               rw [am] at aq ao;have bd:L.length=cc.size:=by rw [← am]; simp; omega
               have aJ:=setRow_heap w q.ak _ L.toArray e _ h1;refine ⟨r,_,w.setRow q.ak L.toArray,l5 ae M,.inl (aj<|by rw [ac]; exact aq),hr.lr hb c6 ae au ?_ ⟨U,U,by simp,fun k _ I=>setRow_other w q.ak k _ I⟩⟩;rw [aJ];have bl:=fA (jl (o+n*i.size) Z)<|fA ap<|jS (o+(n+m)*i.size) Z;refine ⟨L.toArray,fr,_,U,bl,?_,fun j u A=> ?_,bb,?_,⟨fun hex=> ?_,aG.2⟩,fun s E=> ?_⟩
               · simp only [bG,cO,iG,eM]; omega
               · simp only [lO];rw [ao];by_cases aN:j < o+n*i.size
                 · rw [fF (by simp; omega),jg,if_pos aN] at A;rw [if_pos ab,pM]; exact aE _ _ A
                 · rw [fW (by simp; omega)] at A;have ba:(us.take<|o+n*i.size).length=o+n*i.size:=by simp; omega
                   rw [ba] at A;rw [if_neg ab];by_cases bO:j < o+(n+m)*i.size
                   · rw [fF ab] at A;rw [if_pos ab,show q.sh+j - (q.sh+o+n*i.size)=j - (o+n*i.size) from by omega]; exact A
                   · rw [fW ab,iF] at A;rw [if_neg ab,pM];refine aE j u ?_;rw [← A]; congr 1; omega
               · intro a ha;rcases dH.1 ha with ha | ha
                 · exact aF a<|uJ ha
                 · rcases dH.1 ha with ha | ha
                   · exact aM a ha
                   · exact aF a<|uI ha
               · obtain ⟨bz,x2,bA⟩:=aG.1 hex;refine ⟨bz,?_,bA⟩;simp only [bG,cO,iG,eM]; omega
               · have :=aP s E;simp only [eM]; omega
         · cases ha
     · cases ha
   · cases ha
 · cases ha
end
end Go.Hb
namespace Go.Hb
def yt (P:ar) (G:Nat) (t:av) (b o n c i:Nat) (h:Hp):Option (AV×Hp):=match cY P t with
 | some e=>cond (aP i n && (bf G b && aE b cj)) (match h.t.get b with
   | some (.cells l A fz ex)=>match cC P A with
     | some e'=>cond (aP e e' && (aP o (c*e) && bf (o+n*e) l.length)) (match cW ⟨h.t.del b,h.nx⟩ (.cells [] A fz .a) with
       | some h'=>some (.sl h.nx 0 0 0 false,h')
       | none=>none) none
     | none=>none
   | _=>none) none
 | none=>none
def xA (P:ar) (t:av) (n i j:Nat) (h:Hp):Option (AV×Hp):=match cY P t with
 | some _=>cond (aP i n && (aP j n && aE h.nx cj)) (some (.sl h.nx 0 0 0 false,⟨h.t,h.nx+1⟩)) none
 | none=>none
def vm (P:ar) (G:Nat) (t:av) (x:AV) (h:Hp):Option (AV×Hp):=match x with
 | .an=>cond (j4 P t) (some (.bT [],h)) none
 | .sl b o n c q=>match pB P t with
   | some (e,s,_,zs)=>match n with
     | 0=>some (.bT [],h)
     | _=>match h.t.get b with
       | some (.cells l e' fz ex)=>cond ((bf (o+n*s) l.length && bf fz o) && (bf G b && aE b cj)) (some (.bT [],⟨h.t.set b (.cells (l.take o++(ky zs n++l.drop (o+n*s))) e' fz ex),h.nx⟩)) none
       | _=>none
   | none=>none
 | _=>none
def k9 (x:AV):List (AV×AV)→List (AV×AV)
 | []=> []
 | p::l=>cond (gj p.1 x) l (p::k9 x l)
def vA (P:ar) (G:Nat) (t:av) (b:Nat) (k:AV) (h:Hp):Option (AV×Hp):=match h.t.get b with
 | some (.map l)=>match P.underlying t with
   | some (.map C e)=>match nh P C k with
     | some A=>cond ((bf G b && aE b cj) && (dE A k && fj A l)) (some (.bT [],⟨h.t.set b (.map<|k9 k l),h.nx⟩)) none
     | none=>none
   | _=>none
 | _=>none
def yB (P:ar) (G:Nat) (A:av) (x y:AV) (h:Hp):Option (AV×Hp):=match x,y with
 | .ptr _ _,.int .i64 0=>some (.str [],h)
 | .gS,.int .i64 0=>some (.str [],h)
 | .ptr b 0,.int .i64 (.ofNat n)=>match h.t.get b with
   | some (.cells l e fz ex)=>match ex with
     | .a=>none
     | _=>cond ((ptrTo P A e && (bf n l.length && (aE 0 n && aE n 1000000000))) && (bf G b && aE b cj)) (match ny (l.take n) with
       | some m=>some (.str m,⟨h.t.set b (.cells l e (max fz n) .z),h.nx⟩)
       | none=>none) none
   | _=>none
 | _,_=>none
def tt (P:ar) (G:Nat) (o:Op) (xs:List AV) (h:Hp):Option (AV×Hp):=match o with
 | .call ⟨.builtin .append,_,⟨[t,tx]⟩⟩=>match xs with
   | [s,x]=>va P G t tx s x h
   | _=>none
 | .call ⟨.builtin .clear,_,⟨[t]⟩⟩=>match xs with
   | [x]=>vm P G t x h
   | _=>none
 | .call ⟨.builtin .delete,_,⟨[t,_]⟩⟩=>match xs with
   | [.map b,k]=>vA P G t b k h
   | _=>none
 | .call ⟨.builtin .unsafeSliceData,_,_⟩=>match xs with
   | [.an]=>some (.gS,h)
   | [.sl b o n c x]=>cond (aE 0 n) (some (.ptr b o,h)) none
   | _=>none
 | .call ⟨.builtin .unsafeString,_,⟨[pt,_]⟩⟩=>match xs with
   | [x,y]=>yB P G pt x y h
   | _=>none
 | .slice t _ (some _) none none=>match xs with
   | [.sl b o n c false,.int _ (.ofNat i)]=>yt P G t b o n c i h
   | _=>none
 | .slice t _ (some _) (some _) none=>match xs with
   | [.sl b o n c false,.int _ (.ofNat i),.int _ (.ofNat j)]=>xA P t n i j h
   | _=>none
 | _=>none
inductive AD | mark (D:Nat) | fn (f:Nat) (args:List AV)
inductive EX | bD | ret | ext (id:Nat)
inductive Tk
 | cd (rd:Option Nat) (n:Nat) (c:bH) (fr:Tr AV) (D:List AD) (h:Hp)
 | lp (rd:Option Nat) (n:Nat) (c:bH) (fr:Tr AV) (D:List AD) (h:Hp)
 | cl (f:Nat) (args:List AV) (h:Hp)
 | yl (l:Nat) (args:List AV) (h:Hp)
 | df (f:Nat) (args:List AV) (h:Hp)
inductive Rs | no | cd (e:EX) (fr:Tr AV) (D:List AD) (h:Hp) | rv (v:AV) (h:Hp)
inductive Ro | no | v (x:AV) (h:Hp) | d (a:AD)
abbrev Xt:=Nat→Option (List AV→Hp→Option (AV×Hp))
def fS (n:Nat) (fr:Tr AV) (d:Option Nat) (v:AV):Option (Tr AV):=match d with
 | none=>some fr
 | some d=>cond (aE d n && aE d cj) (some<|fr.set d v) none
def sj (X:Xt) (ih:Tk→Rs) (f:AV) (args:List AV) (h:Hp):Ro:=match f with
 | .fn f a c=>match X f with
   | some e=>match e (a++(args++c)) h with
     | some (v,h)=> .v v h
     | none=> .no
   | none=>match ih (.cl f (a++(args++c)) h) with
     | .rv v h=> .v v h
     | _=> .no
 | .gH l=>match ih (.yl l args h) with
   | .rv v h=> .v v h
   | _=> .no
 | _=> .no
def qZ (P:ar) (G:Nat) (X:Xt) (ih:Tk→Rs) (o:Op) (xs:List AV) (h:Hp):Ro:=match np P o xs with
 | some v=> .v v h
 | none=>match jv P o xs h with
   | some v=> .v v h
   | none=>match o with
     | .call ⟨.value _,_,_⟩=>match xs with
       | f::args=>sj X ih f args h
       | []=> .no
     | .defer ⟨.value _,_,_⟩=>match xs with
       | .fn f a c::args=> .d<|.fn f<|a++(args++c)
       | _=> .no
     | _=>match o0 P G o xs h with
       | some (v,h)=> .v v h
       | none=>match tt P G o xs h with
         | some (v,h')=>cond (bf h.nx h'.nx) (.v v h') .no
         | none=> .no
inductive Gd | y | n | no
def j0 (n:Nat) (ops:List aC) (fr:Tr AV) (g:Option (Nat×Bool)):Gd:=match g with
 | none=> .y
 | some (j,want)=>match ops[j]? with
   | some o=>match o.dst with
     | some t=>cond (aE t n) (match dh fr t with
       | .bool b=>cond (b==want) .y .n
       | .bT []=> .n
       | _=> .no) .no
     | none=> .no
   | none=> .no
def j8 (P:ar) (G:Nat) (X:Xt) (ih:Tk→Rs) (rd:Option Nat) (n:Nat) (ops:List aC):List aC→Tr AV→List AD→Hp→Rs
 | [],fr,D,h=> .cd .bD fr D h
 | o::l,fr,D,h=>match j0 n ops fr o.guard with
   | .y=>match kv G n fr (gp o.op) with
     | some xs=>match qZ P G X ih o.op xs h with
       | .v v h=>match fS n fr o.dst v with
         | some fr=>j8 P G X ih rd n ops l fr D h
         | none=> .no
       | .d a=>match rd with
         | none=>match fS n fr o.dst (.bT []) with
           | some fr=>j8 P G X ih rd n ops l fr (a::D) h
           | none=> .no
         | some _=> .no
       | .no=> .no
     | none=> .no
   | .n=>match fS n fr o.dst (.bT []) with
     | some fr=>j8 P G X ih rd n ops l fr D h
     | none=> .no
   | .no=> .no
def iO:Nat→List AV→Tr AV→Tr AV
 | _,[],fr=>fr
 | i,v::l,fr=>iO (i+1) l<|fr.set i v
def ns (n:Nat):List Nat→List AV→Tr AV→Option (Tr AV)
 | [],[],fr=>some fr
 | p::ps,v::vs,fr=>match fS n fr (some p) v with
   | some fr=>ns n ps vs fr
   | none=>none
 | _,_,_=>none
def iT (P:ar) (n:Nat) (fr:Tr AV) (h:Hp):List ResultVar→Option (List AV)
 | []=>some []
 | .tmp t::l=>match iT P n fr h l with
   | some vs=>cond (aE t n) (some (dh fr t::vs)) none
   | none=>none
 | .cell a t::l=>match iT P n fr h l with
   | some vs=>cond (aE a n) (match sX P t (dh fr a) h with
     | some v=>some (v::vs)
     | none=>none) none
   | none=>none
def nr:List AV→AV
 | [v]=>v
 | vs=> .bT vs
def j6 (G:Nat) (ih:Tk→Rs):List AD→Hp→Option Hp
 | [],h=>some h
 | .mark d::l,h=>match h.t.get d with
   | some (.kW true)=>cond (bf G d && aE d cj) (j6 G ih l ⟨h.t.set d (.kW false),h.nx⟩) none
   | _=>none
 | .fn f args::l,h=>match ih (.df f args h) with
   | .rv _ h=>j6 G ih l h
   | _=>none
def A5:EX→Option bH
 | .bD=>none
 | .ret=>some .ret
 | .ext i=>some<|.exit i
def oJ (G:Nat) (ih:Tk→Rs) (rd:Option Nat) (n:Nat) (fr:Tr AV) (D:List AD) (l:Nat) (h:Hp):Rs:=match h.t.get l with
 | some (.loop st A m C ps aR body d)=>match st with
   | .busy=> .no
   | _=>cond (bf G l && aE l cj) (match A with
     | none=> .cd .bD fr D ⟨h.t.set l (.loop .exhausted A m C ps aR body d),h.nx⟩
     | some c=>ih (.cd rd n c fr D ⟨h.t.set l (.loop .exhausted A m C ps aR body d),h.nx⟩)) .no
 | _=> .no
def pd (ih:Tk→Rs) (G:Nat) (rd:Option Nat) (n:Nat) (g:aW) (ps:List Nat) (aR body:bH) (fr:Tr AV) (D:List AD) (h:Hp):Rs:=match ku G n fr g with
 | some (.fn f a c)=>match rd with
   | none=>match cW h (.kW true) with
     | some h1=>match cW h1 (.loop .ready none n fr ps aR body h.nx) with
       | some A=>match ih (.cl f (a++(.gH h1.nx::c)) A) with
         | .rv _ C=>oJ G ih rd n fr (.mark h.nx::D) h1.nx C
         | _=> .no
       | none=> .no
     | none=> .no
   | some E=>match h.t.get E with
     | some (.loop _ _ _ _ _ _ _ d)=>match cW h (.loop .ready none n fr ps aR body d) with
       | some A=>match ih (.cl f (a++(.gH h.nx::c)) A) with
         | .rv _ C=>oJ G ih rd n fr D h.nx C
         | _=> .no
       | none=> .no
     | _=> .no
 | _=> .no
def rA (G:Nat) (ih:Tk→Rs) (l:Nat) (args:List AV) (h:Hp):Rs:=match h.t.get l with
 | some (.loop .ready J n fr ps aR body d)=>match ns n ps args fr with
   | some fr=>match ih (.cd (some l) n aR fr [] h) with
     | .cd .bD fr [] h=>match h.t.get l with
       | some (.loop .ready L C A M E I d1)=>cond (bf G l && aE l cj) (match ih (.cd (some l) n body fr [] ⟨h.t.set l (.loop .busy L C A M E I d1),h.nx⟩) with
         | .cd e fr [] h=>match h.t.get l with
           | some (.loop .busy J C A ps aR body d)=>match e with
             | .bD=> .rv (.bool true) ⟨h.t.set l (.loop .ready none C A ps aR body d),h.nx⟩
             | e=> .rv (.bool false) ⟨h.t.set l (.loop .done (A5 e) C A ps aR body d),h.nx⟩
           | _=> .no
         | _=> .no) .no
       | _=> .no
     | _=> .no
   | none=> .no
 | _=> .no
mutual
def eR:AV→AV→Bool
 | .bool a,.bool b=>a==b
 | .int k a,.int k' b=>cond (aP (dL k)<|dL k') (decide (a=b)) false
 | .str l,.str m=>iw l m
 | .ptr b o,.ptr b' o'=>aP b b' && aP o o'
 | .gS,.gS=>true
 | .sl b o n c x,.sl b' o' n' c' x'=>(aP b b' && aP o o') && (aP n n' && (aP c c' && (x==x')))
 | .an,.an=>true
 | .map b,.map b'=>aP b b'
 | .kq,.kq=>true
 | .fn f a c,.fn f' a' c'=>aP f f' && (jV a a' && jV c c')
 | .gH l,.gH l'=>aP l l'
 | .iS,.iS=>true
 | .fC t v,.fC t' v'=>aP t t' && eR v v'
 | .cN,.cN=>true
 | .agg l,.agg m=>jV l m
 | .bT l,.bT m=>jV l m
 | _,_=>false
def jV:List AV→List AV→Bool
 | [],[]=>true
 | a::l,b::m=>cond (eR a b) (jV l m) false
 | _,_=>false
end
def pC:List aW→List Nat
 | []=> []
 | .tmp t::l=>t::pC l
 | _::l=>pC l
def wu (ops:List aC) (g:Option (Nat×Bool)):List Nat:=match g with
 | none=> []
 | some (j,_)=>match ops[j]? with
   | some q=>match q.dst with
     | some t=> [t]
     | none=> []
   | none=> []
def o9 (ops:List aC) (o:aC):List Nat:=wu ops o.guard++pC (gp o.op)
def qT (t:Nat):List Nat→Bool
 | []=>false
 | u::l=>cond (aP t u) true<|qT t l
def tf (d:Option Nat) (l:List Nat):Bool:=match d with
 | some t=>qT t l
 | none=>false
def mj (l:List Nat) (i:Nat):Nat:=ll l i 0
def mg (acc:List Nat):List bQ→Nat
 | []=>0
 | e::l=>cond (dF .any e && aE e.on acc.length) (Nat.lor (Nat.lor (Nat.pow 2 e.on)<|mj acc e.on)<|mg acc l)<|mg acc l
def ir:List aC→List Nat→List Nat
 | [],acc=>acc
 | o::l,acc=>ir l<|acc++ [mg acc o.after.toList]
def jN (A:List Nat) (i j:Nat):Bool:=rW (mj A i) j
def qB (i:Nat):List bQ→Bool
 | []=>true
 | e::l=>cond (dF .any e && !(aE e.on i)) false<|qB i l
def AW (a b:Option Nat):Bool:=match a,b with
 | some a,some b=>aP a b
 | _,_=>false
def sm (ops:List aC) (E:List Nat) (i:Nat) (A:aC):Nat→List aC→Bool
 | _,[]=>true
 | j,C::l=>cond (aE j i) ((!(AW A.dst C.dst) && (jN E i j || (!(tf C.dst<|o9 ops A) && !(tf A.dst<|o9 ops C)))) && sm ops E i A (j+1) l) true
def oD (ops:List aC) (A:List Nat):Nat→List aC→Bool
 | _,[]=>true
 | i,C::l=>(qB i C.after.toList && sm ops A i C 0 ops) && oD ops A (i+1) l
inductive Cs | s | p | l | a | c
structure Rec where
 k:Cs
 xs:List AV
 v:AV
 hb:Hp
 ha:Hp
def r9 (P:ar) (e:av):Option (List AV):=match zeroOf P e with
 | some (some A)=>match kr (ju 4) A with
   | some l=>cond (dZ l) (some l) none
   | none=>none
 | _=>none
def early (A:List Nat) (i:Nat) (last:Option Nat):Bool:=match last with
 | some c=> !(jN A i c)
 | none=>false
def xM (P:ar) (G:Nat) (X:Xt) (ih:Tk→Rs) (fr:Bool) (o:Op) (xs:List AV) (h:Hp):Option Rec:=match np P o xs with
 | some v=>some ⟨.p,xs,v,h,h⟩
 | none=>match jv P o xs h with
   | some v=>some ⟨.l,xs,v,h,h⟩
   | none=>match fr,o with
     | true,.alloc e=>match r9 P e with
       | some l=>match cW h (.cells l e 0 .x) with
         | some h'=>some ⟨.a,xs,.ptr h.nx 0,h,h'⟩
         | none=>none
       | none=>none
     | _,_=>match qZ P G X ih o xs h with
       | .v v h'=>some ⟨.c,xs,v,h,h'⟩
       | _=>none
def Jw (i:Nat) (last:Option Nat):Cs→Option Nat
 | .c=>some i
 | _=>last
def lx (P:ar) (G:Nat) (X:Xt) (ih:Tk→Rs) (n:Nat) (ops:List aC) (A:List Nat):Nat→Option Nat→List aC→Tr AV→Hp→Option (List Rec×Tr AV×Hp)
 | _,_,[],fr,h=>some ([],fr,h)
 | i,last,o::l,fr,h=>match j0 n ops fr o.guard with
   | .y=>match kv G n fr (gp o.op) with
     | some xs=>match xM P G X ih (early A i last) o.op xs h with
       | some r=>match fS n fr o.dst r.v with
         | some fr=>match lx P G X ih n ops A (i+1) (Jw i last r.k) l fr r.ha with
           | some (rs,fr,h)=>some (r::rs,fr,h)
           | none=>none
         | none=>none
       | none=>none
     | none=>none
   | .n=>match fS n fr o.dst (.bT []) with
     | some fr=>match lx P G X ih n ops A (i+1) last l fr h with
       | some (rs,fr,h')=>some (⟨.s,[],.bT [],h,h⟩::rs,fr,h')
       | none=>none
     | none=>none
   | .no=>none
def vN (a:Option AV) (v:AV):Bool:=match a with
 | some a=>eR a v
 | none=>false
def qX (P:ar) (A:List Nat) (i:Nat) (o:Op) (xs:List AV) (v:AV):Nat→List Rec→Bool
 | _,[]=>true
 | j,q::l=>cond (match q.k with
   | .c=>cond (aE j i) (jN A i j || vN (jv P o xs q.hb) v) (jN A j i || vN (jv P o xs q.ha) v)
   | .a=> !(aE j i)
   | _=>true) (qX P A i o xs v (j+1) l) false
def qW (A:List Nat) (i:Nat):Nat→List Rec→Bool
 | _,[]=>true
 | j,q::l=>cond (match q.k with
   | .c=>cond (aE j i) (jN A i j) true
   | .a=>cond (aE j i) (jN A i j) true
   | _=>true) (qW A i (j+1) l) false
def ln (P:ar) (A:List Nat) (rs:List Rec):Nat→List aC→List Rec→Bool
 | _,[],[]=>true
 | i,o::l,q::m=>cond (match q.k with
   | .l=>qX P A i o.op q.xs q.v 0 rs
   | .c=>qW A i 0 rs
   | _=>true) (ln P A rs (i+1) l m) false
 | _,_,_=>false
def sA (P:ar) (G:Nat) (X:Xt) (ih:Tk→Rs) (n:Nat) (ops:List aC) (fr:Tr AV) (D:List AD) (h:Hp):Rs:=match ir ops [] with
 | A=>cond (oD ops A 0 ops) (match lx P G X ih n ops A 0 none ops fr h with
   | some (rs,fr,h)=>cond (ln P A rs 0 ops rs) (.cd .bD fr D h) .no
   | none=> .no) .no
def fm (P:ar) (G:Nat) (X:Xt) (ih:Tk→Rs):Tk→Rs
 | .cd rd n c fr D h=>match c with
   | .skip => .cd .bD fr D h
   | .region _ ⟨ops⟩ draw=>cond draw (sA P G X ih n ops fr D h)<|j8 P G X ih rd n ops ops fr D h
   | .seq a b=>match ih (.cd rd n a fr D h) with
     | .cd .bD fr D h=>ih<|.cd rd n b fr D h
     | r=>r
   | .cond x a b=>match ku G n fr x with
     | some (.bool true)=>ih<|.cd rd n a fr D h
     | some (.bool false)=>ih<|.cd rd n b fr D h
     | _=> .no
   | .block id c=>match ih (.cd rd n c fr D h) with
     | .cd (.ext j) fr D h=>cond (aP j id) (.cd .bD fr D h)<|.cd (.ext j) fr D h
     | r=>r
   | .loop c=>ih<|.lp rd n c fr D h
   | .rangeFunc g ⟨ps⟩ aR body=>pd ih G rd n g ps aR body fr D h
   | .exit id=> .cd (.ext id) fr D h
   | .ret=> .cd .ret fr D h
   | _=> .no
 | .lp rd n c fr D h=>match ih (.cd rd n c fr D h) with
   | .cd .bD fr D h=>ih<|.lp rd n c fr D h
   | r=>r
 | .cl f args h=>match P.funcs[f]? with
   | some fn=>match fn.body with
     | some c=>cond (bf args.length fn.ntmps && aE fn.ntmps cj) (match ih (.cd none fn.ntmps c (iO 0 args .nil) [] h) with
       | .cd (.ext _) _ _ _=> .no
       | .cd _ fr D h=>match j6 G ih D h with
         | some h=>match iT P fn.ntmps fr h fn.results.toList with
           | some vs=> .rv (nr vs) h
           | none=> .no
         | none=> .no
       | _=> .no) .no
     | none=> .no
   | none=> .no
 | .yl l args h=>rA G ih l args h
 | .df f args h=>match P.funcs[f]? with
   | some fn=>match fn.body with
     | some c=>cond (bf args.length fn.ntmps && aE fn.ntmps cj) (match (match c with
       | .seq (.region _ ⟨⟨some d,.call ⟨.builtin .recover,⟨[]⟩,⟨[]⟩⟩,ty,pos,af,none⟩::rest⟩ false) y=>match fS fn.ntmps (iO 0 args .nil) (some d) .cN with
         | some fr=>match j8 P G X ih none fn.ntmps (⟨some d,.call ⟨.builtin .recover,⟨[]⟩,⟨[]⟩⟩,ty,pos,af,none⟩::rest) rest fr [] h with
           | .cd .bD fr [] h=>ih<|.cd none fn.ntmps y fr [] h
           | _=> .no
         | none=> .no
       | c=>ih (.cd none fn.ntmps c (iO 0 args .nil) [] h)) with
       | .cd (.ext _) _ _ _=> .no
       | .cd _ fr [] h=>match iT P fn.ntmps fr h fn.results.toList with
         | some vs=> .rv (nr vs) h
         | none=> .no
       | _=> .no) .no
     | none=> .no
   | none=> .no
def qL (c:Nat):List UInt8→Nat→Int
 | [],_=> -1
 | b::l,i=>cond (aP b.toNat c) (kI i)<|qL c l<|i+1
def yM (xs:List AV) (h:Hp):Option (AV×Hp):=match xs with
 | [.str l,.int .u8 (.ofNat c)]=>cond (aE c 256) (match fk .i64 (qL c l 0) with
   | some v=>some (v,h)
   | none=>none) none
 | _=>none
def yL (xs:List AV) (h:Hp):Option (AV×Hp):=match xs with
 | [x]=>some (x,h)
 | _=>none
end Go.Hb
namespace Go.Hb
section
variable {P:ar} {G:Nat} {r:Rn} {T:Nat} {h:Hp} {w:ah} {N:Fm} {σ:Nat→ag} {dst:Option Nat} {ty:av} {pos :String} {af:Array bQ} {g:Option (Nat×Bool)} {x y z:aW}
theorem HR.Da (hr:HR P G r T h w) {b o:Nat} {l news:List AV} {e fz:Nat} {ex:Ck} {q:Loc} {Nw:List ag} (hb:h.t.get b=some (.cells l e fz ex)) (al:bf G b=true) (am:aE b cj=true) (O:r b=some q) (E:aM r news=some Nw) (h1:dZ news=true) (hle:o+news.length≤l.length) (aw:fz≤o):
 ∃ c fr,w.heap[q.ak]? =some (.cells c e fr)∧fr.2≤q.sh+o∧q.sh+o+Nw.length≤c.size∧(∀ u∈Nw,u.oneCell'=true)∧
   St P G T r h w r ⟨h.t.set b (.cells (l.take o++(news++l.drop (o+news.length))) e fz ex),h.nx⟩ (w.setRow q.ak (c.toList.take (q.sh+o)++Nw++c.toList.drop (q.sh+o+Nw.length)).toArray):=by
 obtain ⟨q',V,c,fr,us,Z,I,az,ac,aq,ad,ae,ar⟩:=hr.live b _ hb;rw [O] at V; cases V;have ax:=de E;have ay:=de I;have M:=oY E h1;obtain ⟨L,C⟩:∃ L,c.toList.take (q.sh+o)++Nw++c.toList.drop (q.sh+o+Nw.length)=L:=⟨_,rfl⟩
 have J:=xY c.toList Nw (q.sh+o)<|by have :=lH (xs:=c); omega
 rw [C] at J;have av:L.length=c.size:=by rw [← C]; simp; omega
 refine ⟨c,fr,Z,ab,ab,M,?_⟩;rw [C];refine hr.lr hb am O (bN al) ?_ ⟨U,U,by simp,fun k _ ao=>setRow_other w q.ak k _ ao⟩;rw [setRow_heap w q.ak _ _ e _ Z];refine ⟨L.toArray,fr,_,U,fA (jl o I) (fA E<|jS (o+news.length) I),?_,fun j a A=> ?_,aq,?_,⟨fun hex=> ?_,ae.2⟩,fun s ap=> ?_⟩
 · simp only [bG,cO,iG,eM]; omega
 · rw [lO,J];have ah:(us.take o).length=o:=by simp; omega
   by_cases m1:j < o
   · rw [fF ab,jg,if_pos m1] at A;rw [if_pos ab,pM]; exact ac _ _ A
   · rw [fW ab,ah] at A;rw [if_neg ab];by_cases aA:j < o+Nw.length
     · rw [fF ab] at A;rw [if_pos ab,show q.sh+j - (q.sh+o)=j - o from by omega]; exact A
     · rw [fW ab,iF] at A;rw [if_neg ab,pM];refine ac j a ?_;rw [← A]; congr 1; omega
 · intro a ha;rcases dH.1 ha with ha | ha
   · exact ad a<|uJ ha
   · rcases dH.1 ha with ha | ha
     · exact M a ha
     · exact ad a<|uI ha
 · obtain ⟨ai,au,aj⟩:=ae.1 hex;refine ⟨ai,?_,aj⟩;simp only [bG,cO,iG,eM]; omega
 · have :=ar s ap;simp only [eM]; omega
theorem Km (hr:HR P G r T h w) {t b o n c i j:Nat} {h':Hp} {v:AV} {k ao:bA} (hn:xA P t n i j h=some (v,h')) (hT:h'.nx≤T) (aj:den r (.sl b o n c false)=some (ev N σ x)) (al:ev N σ y= .int k (kI i)) (am:ev N σ z= .int ao (kI j)):YM P G r T N σ ⟨dst,.slice t x (some y) (some z) none,ty,pos,af,g⟩ h w v h':=by
 unfold xA at hn;split at hn
 · rename_i e he;replace hn:=aY hn; obtain ⟨J,hn⟩:=hn;simp only [a0] at J;obtain rfl :=bM J.1;obtain rfl :=bM J.2.1;cases hn;simp only at hT;obtain ⟨q,au,ar,hu⟩:=sy aj;have ai:=yg (dst:=dst) (ty:=ty) (pos :=pos) (af:=af) (g:=g) (w:=w) he hu al am ⟨fV _,Int.le_refl _,by simp; omega⟩;obtain ⟨ad,ac⟩:∃ ad:Nat,ez (some ⟨q.ak,q.sh+o,none⟩) (q.room - c) j e=some ⟨q.ak,ad,none⟩:=by
    unfold ez; split
    · exact ⟨_,U⟩
    · exact ⟨_,by rw [fG,gd]⟩
   have hle:=Rn.qQ (i:=h.nx) ⟨q.ak,ad,q.room - c - j⟩<|hr.new h.nx (aQ _) ab;refine ⟨r.ext h.nx ⟨q.ak,ad,q.room - c - j⟩,_,w,?_,.inl ai,hle,⟨fun j I C=> ?_,fun j k O V aw ap C E h1 A he=> ?_,fun k E ag=> ?_,hr.fi.le hle,cn hr.base<|lS _⟩,lS _,Md.refl _ _,fun g aq k E ae=> ?_,fun k E=>Rn.jZ _ _<|by simp only at E; omega⟩
   · rw [oF (Rn.gQ _ _ _) (by simp)];simp [ac]
   · obtain ⟨q',h1,A⟩:=hr.live j I C;exact ⟨q',hle _ _ h1,A.le hle⟩
   · obtain ⟨q',L,_⟩:=hr.live j O C;obtain ⟨av,M,_⟩:=hr.live k V E;rw [hle _ _ L] at h1; cases h1;rw [hle _ _ M] at A; cases A;exact hr.inj j k O V _ _ C E L M he
   · simp only at E; rw [Rn.jZ _ _ ab]; exact hr.new k ab ag
   · obtain ⟨j,I,q',Z,C,ah,rfl⟩:=ae;obtain ⟨ap,A,_⟩:=hr.live j I C;have :=hle _ _ A;rw [ah] at this; cases this;exact ⟨j,I,_,Z,C,A,U⟩
 · cases hn
theorem HR.HQ (hr:HR P G r T h w) {b:Nat} (hb:aE b cj=true):St P G T r h w r ⟨h.t.del b,h.nx⟩ w:=
 ⟨Rn.le_refl r,hr.del hb,aQ _,Md.refl _ _,fun g _ k _ E=>by
  obtain ⟨j,J,q',C,A,I,rfl⟩:=E;rw [Tr.oR _ _ _ hb] at A;split at A
  · cases A
  · exact ⟨j,J,q',C,A,I,U⟩,fun _ _=>rfl⟩
theorem HR.Kc (hr:HR P G r T h w) {b:Nat} {o:AO} {q q':Loc} {h':Hp} {ob:AO} (hb:h.t.get b=some ob) (I:aE b cj=true) (L:r b=some q) (U:bf G b=true) (E:q'.ak=q.ak) (hn:Hb.cW ⟨h.t.del b,h.nx⟩ o=some h') (hT:h'.nx≤T) (ad:∀ r',r.le r'→OR P r' q' o w.heap[q.ak]?):
 ∃ r',r' h.nx=some q'∧St P G T r h w r' h' w:=by
 have M:=hr.del I;have ag:=hr.HQ I;unfold Hb.cW at hn;replace hn:=aY hn; obtain ⟨J,hn⟩:=hn;cases hn;simp only at hT J;have hle:=Rn.qQ (i:=h.nx) q'<|hr.new h.nx (aQ _) ab;have O:∀ g,g≤G→Fr g r h q.ak:=fun g A=>⟨b,_,q,cn A (bN U),hb,L,rfl⟩
 refine ⟨r.ext h.nx q',Rn.gQ _ _ _,hle,M.put hle J (Rn.gQ _ _ _) (by rw [E]; exact ad _ hle) (fun _ _ _=>rfl) (fun j ai aj ah A ae he=> ?_) (lS _) (fun k C ac=> ?_),lS _,Md.refl _ _,fun g A k C V=> ?_,fun k C=>Rn.jZ _ _<|by simp only at C; omega⟩
 · rw [Tr.oR _ _ _ I] at A;split at A
   · cases A
   · rename_i Z;exact Z<|hr.inj j b _ _ _ _ A hb ae L<|by rw [he,E]
 · simp only at C; rw [Rn.jZ _ _ ab]; exact hr.new k ab ac
 · rcases Fr.set J (Rn.gQ _ _ _) hle M V with h1 | h1
   · rw [h1,E]; exact O g A
   · exact ag.dY g A k C h1
theorem Mr (hr:HR P G r T h w) {t b o n c i:Nat} {h':Hp} {v:AV} {k:bA} (hn:yt P G t b o n c i h=some (v,h')) (hT:h'.nx≤T) (aj:den r (.sl b o n c false)=some (ev N σ x)) (al:ev N σ y= .int k (kI i)):YM P G r T N σ ⟨dst,.slice t x (some y) none none,ty,pos,af,g⟩ h w v h':=by
 unfold yt at hn;split at hn
 · rename_i e he;replace hn:=aY hn; obtain ⟨C,hn⟩:=hn;simp only [a0] at C;obtain rfl :=bM C.1;obtain ⟨_,M,O⟩:=C;split at hn
   · rename_i l aB fz ex hb;split at hn
     · rename_i e' E;replace hn:=aY hn; obtain ⟨A,hn⟩:=hn;simp only [a0] at A;obtain rfl :=bM A.1;have d1:=bM A.2.1;have d2:=bN A.2.2;split at hn
       · rename_i ap ae;cases hn;obtain ⟨q,I,ar,hu⟩:=sy aj;obtain ⟨q',J,cc,fr,us,am,au,av,aw,ax,ay,az,ao⟩:=hr.live b _ hb;rw [I] at J; cases J;have aA:=ao e E;have ai:=yj (dst:=dst) (ty:=ty) (pos :=pos) (af:=af) (g:=g) (w:=w) he hu al ⟨fV _,Int.le_refl _⟩;have ah:(c+i+(q.room - c - i))*e=q.room*e:=by congr 1; omega
         rw [mJ,mJ] at ah;obtain ⟨ad,V,aq,Z⟩:∃ ad:Nat,ez (some ⟨q.ak,q.sh+o,none⟩) (q.room - c) i e=some ⟨q.ak,ad,none⟩∧q.sh≤ad∧ad+(q.room - c - i)*e≤cc.size:=by
          unfold ez; split
          · rename_i h0;refine ⟨_,U,ab,?_⟩;rw [show q.room - c - i=0 from by omega,uS]; omega
          · exact ⟨q.sh+o+i*e,by rw [fG,gd],ab,ab⟩
         obtain ⟨r',ag,bo⟩:=hr.Kc (q':=⟨q.ak,ad,q.room - c - i⟩) hb O I M rfl ae hT fun r' hle=>by
          refine ⟨cc,fr,[],am,by simp [aM],by simp only [ib,lQ]; omega,fun j u ac=>by simp at ac,by simp only; omega,fun u hu=>by simp at hu,⟨(fun h=>by cases h),fun h=>absurd U h⟩,fun s L=> ?_⟩;rw [E] at L; cases L;exact Z
         refine ⟨r',_,w,?_,.inl ai,bo⟩;rw [oF ag (by simp)];simp [V]
       · cases hn
     · cases hn
   · cases hn
 · cases hn
theorem G6 (hr:HR P G r T h w) {t:av} {a v:AV} {h':Hp} (hn:vm P G t a h=some (v,h')) (M:den r a=some (ev N σ x)):YM P G r T N σ ⟨dst,.call ⟨.builtin .clear,#[x],#[t]⟩,ty,pos,af,g⟩ h w v h':=by
 have E:∀ {u:ag} {w':ah},(uq #[t] ty #[ev N σ x]).run P w= .ok u w'→(execOp (ev N σ) ⟨dst,.call ⟨.builtin .clear,#[x],#[t]⟩,ty,pos,af,g⟩).run P w= .ok (.value u) w':=by
  intro u w' h;simp [execOp,resolve,invoke,builtin,h]
 unfold vm at hn;split at hn
 · replace hn:=aY hn; obtain ⟨A,hn⟩:=hn;cases hn;obtain ⟨e,he⟩:=qN A;have hu:=iu M;exact ⟨r,undef,w,iL r,.inl (E<|by rw [hu]; simp [uq,bB he]; rfl),St.refl hr⟩
 · rename_i b o n c q;split at hn
   · rename_i e s aq ap ac;obtain ⟨i,zv,hu,hi,ad,rfl,rfl,al,aw,ai,aj,ax⟩:=tS (r:=r) ac;obtain ⟨U,cap,Z,ar,O,_⟩:=iN M;split at hn
     · cases hn;exact ⟨r,undef,w,iL r,.inl (E<|by rw [O]; simp [uq,bB hu]; rfl),St.refl hr⟩
     · rename_i V;split at hn
       · rename_i l e' fz ex hb;replace hn:=aY hn; obtain ⟨A,hn⟩:=hn;simp only [a0] at A;obtain ⟨⟨C,c2⟩,c3,c4⟩:=A;have C:=bN C;have c2:=bN c2;cases hn;have I:=tB ai n;have hlen:=de I;have J:(ky ap n).length=n*i.size:=by
          rw [← hlen]; simp [List.length_flatten,al]
         obtain ⟨cc,fr,am,ay,az,ao,bo⟩:=hr.Da (o:=o) hb c3 c4 Z I (xN aj n) (by rw [J]; exact C) c2;have L:=run_storeCells_atF P U.ak (U.sh+o) e' fr _ 0 cc w am ab ab ao;simp only [lQ] at L;rw [J] at bo;refine ⟨r,undef,_,iL r,.inl (E ?_),bo⟩;rw [O];have ae:(EK zv.cells n).toList=(dr n zv.cells.toList).flatten:=by
          have :=xK zv.cells ab n;have :=congrArg Array.toList this;simpa [EK] using this
         have au:n≠0:=fun h=>V<|by rw [h]
         obtain ⟨m,rfl⟩:∃ m,n=m+1:=⟨n - 1,ab⟩
         simp [uq,bB hu,zeroValue,dj hi,ad,ae,L];rfl
       · cases hn
   · cases hn
 · cases hn
theorem B7 {x:AV} {kx:ag} {A:KK} (E:dE A x=true) (C:den r x=some kx):∀ {l:List (AV×AV)} {es:List MapEntry} {j:Nat} {e':MapEntry},gl r l es→fj A l=true→
 es[j]? =some e'→e'.key=kx→(es.map fun e=>e.key).Nodup→gl r (k9 x l) (es.eraseIdx j)
 | [],[],j,e',_,_,hj,_,_=>by simp at hj
 | [],_::_,_,_,hm,_,_,_,_=>hm.elim
 | _::_,[],_,_,hm,_,_,_,_=>hm.elim
 | q::l,e::es,0,e',hm,hk,hj,hk',_=>by
   simp only [fj] at hk;cases h1:dE A q.1
   · rw [h1] at hk; cases hk
   · simp only [je,bK] at hj;subst hj;simp only [k9,(lh h1 E hm.1 C).2 hk',cond_true];exact hm.2.2
 | q::l,e::es,j+1,e',hm,hk,hj,hk',hn=>by
   simp only [fj] at hk;cases h1:dE A q.1
   · rw [h1] at hk; cases hk
   · rw [h1] at hk;simp only [jd] at hj;simp only [dG,uL] at hn;have he:gj q.1 x=false :=by
      cases hq:gj q.1 x
      · rfl
      · have :=(lh h1 E hm.1 C).1 hq;exact absurd (jH.2 ⟨e',kK hj,hk'.trans this.symm⟩) hn.1
     simp only [k9,he,cond_false];exact ⟨hm.1,hm.2.1,B7 E C hm.2.2 hk hj hk' hn.2⟩
theorem BG {x:AV} {kx:ag} {A:KK} (E:dE A x=true) (C:den r x=some kx):∀ {l:List (AV×AV)} {es:List MapEntry},gl r l es→fj A l=true→(∀ e∈es,e.key≠kx)→k9 x l=l
 | [],_,_,_,_=>rfl
 | q::l,[],hm,_,_=>hm.elim
 | q::l,e::es,hm,hk,hn=>by
   simp only [fj] at hk;cases h1:dE A q.1
   · rw [h1] at hk; cases hk
   · rw [h1] at hk;have he:gj q.1 x=false :=by
      cases hq:gj q.1 x
      · rfl
      · exact absurd ((lh h1 E hm.1 C).1 hq)<|hn e ie
     simp only [k9,he,cond_false,BG E C hm.2.2 hk (fun e he=>hn e<|ic _ he)]
theorem HP (hr:HR P G r T h w) {t E:av} {b:Nat} {k v:AV} {h':Hp} (hp:vA P G t b k h=some (v,h')) (ap:den r (.map b)=some (ev N σ x)) (C:den r k=some (ev N σ y)):YM P G r T N σ ⟨dst,.call ⟨.builtin .delete,#[x,y],#[t,E]⟩,ty,pos,af,g⟩ h w v h':=by
 have U:∀ {u:ag} {w':ah},(yS #[t,E] ty #[ev N σ x,ev N σ y]).run P w= .ok u w'→(execOp (ev N σ) ⟨dst,.call ⟨.builtin .delete,#[x,y],#[t,E]⟩,ty,pos,af,g⟩).run P w= .ok (.value u) w':=by
  intro u w' h;simp [execOp,resolve,invoke,builtin,h]
 unfold vA at hp;split at hp
 · rename_i l hb;split at hp
   · rename_i au e V;split at hp
     · rename_i aq aj;replace hp:=aY hp; obtain ⟨I,hp⟩:=hp;simp only [a0] at I;obtain ⟨⟨ad,ae⟩,hka,hkl⟩:=I;cases hp;obtain ⟨q,es,c,M,hw,hm,hn⟩:=hr.map hb;obtain ⟨q',O,hu⟩:=mW ap;rw [M] at O; cases O;have A:=wY aj;have hi:=sW hka C;have ai:∀ e∈es.toList,oT aq e.key:=sG rfl (td hm hkl);have al:=(dq.1 hw).1;have st:∀ (es':Array MapEntry),gl r (k9 k l) es'.toList→(es'.toList.map fun e=>e.key).Nodup→St P G T r h w r ⟨h.t.set b (.map<|k9 k l),h.nx⟩ {w with heap:=w.heap.setIfInBounds q.ak<|.map es' c} :=fun es' Z ab=>
        hr.lr hb ae M (bN ad) ⟨es',c,by simp only; rw [yP al],Z,ab⟩ ⟨rfl,rfl,by simp,fun i _ am=>by simp only; rw [yO (fun e=>am e.symm)]⟩
       rcases A.find w (ev N σ y) es.toList hi ai with ⟨h1,ao⟩ | ⟨j,e',h1,L,ac⟩
       · refine ⟨r,undef,_,iL r,.inl (U ?_),st es (by rw [BG hka C hm hkl ao]; exact hm) hn⟩;rw [hu];simp [yS,bB V,run_getObj_map hw,A.check _ w _ hi,h1,setObj,lK,hw];rfl
       · have ar:=(cD.1 L).1;have J:(es.eraseIdxIfInBounds j).toList=es.toList.eraseIdx j:=by simp
         refine ⟨r,undef,_,iL r,.inl (U ?_),st (es.eraseIdxIfInBounds j) (by rw [J]; exact B7 hka C hm hkl L ac hn) (by
          rw [J];exact List.Nodup.sublist (NU _<|List.eraseIdx_sublist _ _) hn)⟩
         rw [hu];simp [yS,bB V,run_getObj_map hw,A.check _ w _ hi,h1,setObj,lK,hw];rfl
     · cases hp
   · cases hp
 · cases hp
theorem MJ (hr:HR P G r T h w) {A it:av} {a b v:AV} {h':Hp} (hp:yB P G A a b h=some (v,h')) (Z:den r a=some (ev N σ x)) (ac:den r b=some (ev N σ y)):YM P G r T N σ ⟨dst,.call ⟨.builtin .unsafeString,#[x,y],#[A,it]⟩,ty,pos,af,g⟩ h w v h':=by
 have O:∀ {u:ag} {w':ah},(Builtin.unsafeString_ #[A,it] ty #[ev N σ x,ev N σ y]).run P w= .ok u w'→(execOp (ev N σ) ⟨dst,.call ⟨.builtin .unsafeString,#[x,y],#[A,it]⟩,ty,pos,af,g⟩).run P w= .ok (.value u) w':=by
  intro u w' h;simp [execOp,resolve,invoke,builtin,h]
 have am:den r (.str [])=some (.string .empty):=rfl;unfold yB at hp;split at hp
 · cases hp;obtain ⟨q,M,hu⟩:=iM Z;have E:=cQ ac;exact ⟨r,_,w,am,.inl (O<|by rw [hu,E]; exact E3 w A it ty _),St.refl hr⟩
 · cases hp;have hu:=oH Z;have E:=cQ ac;exact ⟨r,_,w,am,.inl (O<|by rw [hu,E]; exact E3 w A it ty _),St.refl hr⟩
 · rename_i I n _;split at hp
   · rename_i l e fz ex hb;have key:ex≠.a→cond ((ptrTo P A e && (bf n l.length && (aE 0 n && aE n 1000000000))) && (bf G I && aE I cj)) (match ny (l.take n) with
      | some m=>some (AV.str m,(⟨h.t.set I (.cells l e (max fz n) .z),h.nx⟩:Hp))
      | none=>none) none=some (v,h')→YM P G r T N σ ⟨dst,.call ⟨.builtin .unsafeString,#[x,y],#[A,it]⟩,ty,pos,af,g⟩ h w v h':=by
      intro hex hp;replace hp:=aY hp; obtain ⟨al,hp⟩:=hp;simp only [a0] at al;obtain ⟨⟨C,ai,c2,c3⟩,hG,hbm⟩:=al;have ai:=bN ai;have c2:=cB.1 c2;have c3:=cB.1 c3;split at hp
      · rename_i m hm;cases hp;obtain ⟨q,M,cc,fr,us,ad,ae,aC,aq,aD,aF,aG,aH⟩:=hr.live I _ hb;have V:=aG.2 hex;obtain ⟨q',ap,hu⟩:=iM Z;rw [M] at ap; cases ap;have E:=cQ ac;rw [V] at hu;have aw:=jl n ae;have aj:=yx hm aw;have aI:=de ae;have J:m.length=n:=by
         have :=congrArg lP aj;simp [oB] at this;omega
        unfold ptrTo at C;split at C
        · rename_i e' ax;simp only [a0,beq_iff_eq] at C;obtain ⟨rfl,ar⟩:=C;have aB:w.shape? q.ak=some (e',cc.size):=by simp [World.shape?,ad]
          have L:m≠[]:=fun h=>by rw [h] at J; simp at J; omega
          have au:=Lib.run_unsafeString_row (P:=P) w A it ty e' ax ar q.ak cc.size aB m L ab ab (fun j u ay=>by
           have h1:us[j]? =some (.int .u8 u.toNat):=by
            have :(us.take n)[j]? =some (.int .u8 u.toNat):=by rw [aj]; simp [U8,ay]
            rw [jg] at this;split at this
            · exact this
            · cases this
           rw [gd,jR,bt ad,cz];have :=aq j _ h1;rwa [V,cz] at this)
          have ao:lL w ⟨q.ak,0,none⟩ m.length= {w with heap:=w.heap.modify q.ak fun
           | .cells c elem (lo,hi)=> .cells c elem (if lo==hi then (0,0 +m.length) else (min lo 0,max hi (0 +m.length)))
           | o=>o} :=by
           unfold lL;rw [if_neg ab];rfl
          obtain ⟨lo,hi⟩:=fr;have aA:(lL w ⟨q.ak,0,none⟩ m.length).heap[q.ak]? =some (.cells cc e' (if lo==hi then (0,0 +m.length) else (min lo 0,max hi (0 +m.length)))):=by
           rw [ao];simp only [Ez,if_true,ad];rfl
          refine ⟨r,.string ⟨m.toArray⟩,lL w ⟨q.ak,0,none⟩ m.length,U,.inl (O ?_),hr.lr hb hbm M (bN hG) ?_ ?_⟩
          · rw [hu,E,← J]; exact au
          · rw [aA];refine ⟨cc,_,us,U,ae,aC,aq,?_,aF,⟨(fun h=>by cases h),fun _=>V⟩,aH⟩;simp only at aD;split <;> simp only <;> omega
          · rw [ao];exact ⟨U,U,by simp,fun k _ az=>by simp only [Ez]; rw [if_neg (fun e=>az e.symm)]⟩
        · cases C
      · cases hp
     split at hp
     · cases hp
     · rename_i L;exact key L hp
   · cases hp
 · cases hp
theorem KA (hr:HR P G r T h w) {o:Op} {xs:List AV} {v:AV} {h':Hp} (A:tt P G o xs h=some (v,h')) (hT:h'.nx≤T) (I:aM r xs=some ((gp o).map<|ev N σ)):YM P G r T N σ ⟨dst,o,ty,pos,af,g⟩ h w v h':=by
 have two:∀ {a b:AV} {l:List aW},aM r [a,b]=some (l.map<|ev N σ)→∃ x y,l= [x,y]∧den r a=some (ev N σ x)∧den r b=some (ev N σ y):=by
  intro a b l h;have :=de h;simp at this;obtain ⟨x,y,rfl⟩:∃ x y,l= [x,y]:=by
   match l,this with
   | [x,y],_=>exact ⟨x,y,rfl⟩
  exact ⟨x,y,U,im h⟩
 have one:∀ {a:AV} {l:List aW},aM r [a]=some (l.map<|ev N σ)→∃ x,l= [x]∧den r a=some (ev N σ x):=by
  intro a l h;have :=de h;simp at this;obtain ⟨x,rfl⟩:=rO.1 this;exact ⟨x,U,eQ h⟩
 unfold tt at A;split at A
 · rename_i C t ae;split at A
   · obtain ⟨C⟩:=C;obtain ⟨x,y,rfl,E,J⟩:=two I;exact Gm hr A hT E J
   · cases A
 · rename_i C t;split at A
   · obtain ⟨C⟩:=C;obtain ⟨x,rfl,E⟩:=one I;exact G6 hr A E
   · cases A
 · rename_i C t Z;split at A
   · obtain ⟨C⟩:=C;obtain ⟨x,y,rfl,E,J⟩:=two I;exact HP hr A E J
   · cases A
 · rename_i C ad;obtain ⟨C⟩:=C;split at A
   · cases A;obtain ⟨x,rfl,E⟩:=one I;exact ⟨r,_,w,U,.inl (yA (v:= .nilFunc) (iu E)<|.inl U),St.refl hr⟩
   · replace A:=aY A; obtain ⟨M,A⟩:=A;have M:=cB.1 M;cases A;obtain ⟨x,rfl,E⟩:=one I;obtain ⟨q,cap,V,hn,hu,_⟩:=iN E;exact ⟨r,_,w,by simp only [den,V],.inl (yA (v:= .nilFunc) hu<|.inr ab),St.refl hr⟩
   · cases A
 · rename_i C ac it;split at A
   · obtain ⟨C⟩:=C;obtain ⟨x,y,rfl,E,J⟩:=two I;exact MJ hr A E J
   · cases A
 · split at A
   · obtain ⟨h1,L⟩:=im I;exact Mr hr A hT h1<|cQ L
   · cases A
 · split at A
   · obtain ⟨h1,L,O⟩:=l4 I;exact Km hr A hT h1 (cQ L)<|cQ O
   · cases A
 · cases A
end
end Go.Hb
namespace Go.Hb
def jY:EX→bu
 | .bD=> .normal
 | .ret=> .ret
 | .ext i=> .exit i
def jU (r:Rn):List AD→List Deferred→Prop
 | [],[]=>True
 | .mark d::l,x::m=>(∃ q,r d=some q∧x= {target:= .collected q.ak,args:= #[]})∧jU r l m
 | .fn f args::l,x::m=>(∃ (a:List ag) (cap A:Array ag),aM r args=some a∧x= {target:= .fn (.func f) cap,args:=A}∧A++cap=a.toArray)∧jU r l m
 | _,_=>False
def q8 (r:Rn):Option Nat→Option Nat→Prop
 | none,none=>True
 | some l,some k=> ∃ q,r l=some q∧q.ak=k
 | _,_=>False
theorem mV {r s:Rn} (h:r.le s):∀ {D:List AD} {m:List Deferred},jU r D m→jU s D m
 | [],[],_=>trivial
 | [],_::_,h'=>h'.elim
 | .mark d::l,[],h'=>h'.elim
 | .fn f args::l,[],h'=>h'.elim
 | .mark d::l,x::m,⟨⟨q,h1,h2⟩,h3⟩=>⟨⟨q,h _ _ h1,h2⟩,mV h h3⟩
 | .fn f args::l,x::m,⟨⟨a,cap,as_,h1,h2⟩,h3⟩=>⟨⟨a,cap,as_,iq h h1,h2⟩,mV h h3⟩
theorem CM {r s:Rn} (h:r.le s) {a b:Option Nat} (hr:q8 r a b):q8 s a b:=by
 cases a <;> cases b
 · trivial
 · exact hr.elim
 · exact hr.elim
 · obtain ⟨q,h1,A⟩:=hr; exact ⟨q,h _ _ h1,A⟩
theorem ei.le {r s:Rn} (h:r.le s) {n:Nat} {fr:Tr AV} {σ:Nat→ag} (A:ei r n fr σ):ei s n fr σ:=fun i hi=>kV h<|A i hi
def dy (P:ar) (G:Nat) (rd:Option Nat) (n:Nat) (W:Option Nat→(bu→Act→ah→Prop)→Act→ah→Prop) (fr:Tr AV) (D:List AD) (h:Hp) (e:EX) (E:Tr AV) (C:List AD) (h':Hp):Prop :=
 h.nx≤h'.nx∧∀ (T:Nat) (r:Rn) (w:ah) (σ:Nat→ag) (Dl:List Deferred) (rr:Option Nat) (Q:bu→Act→ah→Prop),h'.nx≤T→HR P G r T h w→ei r n fr σ→jU r D Dl→q8 r rd rr→
  (∀ (r':Rn) (w':ah) (σ':Nat→ag) (A:List Deferred),St P G T r h w r' h' w'→ei r' n E σ'→jU r' C A→Q (jY e) (act ⟨n,A,[],rr⟩ σ') w')→W rr Q (act ⟨n,Dl,[],rr⟩ σ) w
def jL (P:ar) (G:Nat) (f:Nat) (args:List AV) (h:Hp) (v:AV) (h':Hp):Prop :=
 h.nx≤h'.nx∧∀ (T:Nat) (r:Rn) (w:ah) (L:List ag),h'.nx≤T→HR P G r T h w→aM r args=some L→bg P f L.toArray w fun u w'=> ∃ r',den r' v=some u∧St P G T r h w r' h' w'
def uZ (P:ar) (G:Nat) (l:Nat) (args:List AV) (h:Hp) (v:AV) (h':Hp):Prop :=
 h.nx≤h'.nx∧∀ (T:Nat) (r:Rn) (w:ah) (L:List ag) (q:Loc),h'.nx≤T→HR P G r T h w→aM r args=some L→r l=some q→YieldAt e7 0 P q.ak L.toArray w fun e w'=> ∃ u r',e= .returned u∧den r' v=some u∧St P G T r h w r' h' w'
def F0 (P:ar) (G:Nat) (f:Nat) (args:List AV) (h h':Hp):Prop :=
 h.nx≤h'.nx∧∀ (T:Nat) (r:Rn) (w:ah) (L:List ag),h'.nx≤T→HR P G r T h w→aM r args=some L→CallsDIn e7 0 P f L.toArray .returning w fun e A w'=> ∃ v,e= .returned v∧A= .returning∧∃ r',St P G T r h w r' h' w'
def ug (P:ar) (c:bH) (rr:Option Nat) (Q:bu→Act→ah→Prop) (a:Act) (w:ah):Prop :=
 ∀ (b:Frame) (k:List Item) (cs:List Frame),b.roundOf=(fe rr).round→(fe rr).fn b.fn→(fe rr).room (cs.length+1 +0)→
   ∃ e A w',Q e A w'∧ArrivesIn (Machine.fenced P<|fe rr) P (lone (b.atR a (.code c:: .inLoop c::k)) cs w) b k cs e A w'
def lV (P:ar) (G:Nat):Tk→Rs→Prop
 | .cd rd n c fr D h,.cd e fr' D' h'=>dy P G rd n (fun rr Q a w=>c.wpIn (fe rr) 0 P Q a w) fr D h e fr' D' h'
 | .lp rd n c fr D h,.cd e fr' D' h'=>dy P G rd n (ug P c) fr D h e fr' D' h'
 | .cl f args h,.rv v h'=>jL P G f args h v h'
 | .yl l args h,.rv v h'=>uZ P G l args h v h'
 | .df f args h,.rv v h'=>F0 P G f args h h'
 | _,.no=>True
 | _,_=>False
def Good (P:ar) (G:Nat) (ih:Tk→Rs):Prop := ∀ t,lV P G t (ih t)
def iJ (P:ar) (G:Nat) (X:Xt):Prop := ∀ f e,X f=some e→∀ xs h v h',e xs h=some (v,h')→h.nx≤h'.nx∧∀ (T:Nat) (r:Rn) (w:ah) (us:List ag),h'.nx≤T→HR P G r T h w→aM r xs=some us→
 ∃ r' u w',den r' v=some u∧(callFunc f us.toArray).run P w= .ok (.value u) w'∧St P G T r h w r' h' w'
def gw (P:ar):Prop := ∀ f fn c,P.funcs[f]? =some fn→fn.body=some c→ga P f
section
variable {P:ar} {G:Nat} {r:Rn} {T:Nat} {h:Hp} {w:ah} {N:Fm} {σ:Nat→ag} {dst:Option Nat} {ty:av} {pos :String} {af:Array bQ} {g:Option (Nat×Bool)} {x y z:aW} {K:Act→ah→Prop} {Q:bu→Act→ah→Prop}
theorem uf {o:aC} (hn:∀ c,o.op≠.defer c) {u:ag} {w':ah} (hr:(execOp (ev N σ) o).run P w= .ok (.value u) w'∨(execOp (ev N σ) o).run P w= .ok .skip w'∧u=undef) (A:K ((act N σ).put o.dst u) w'):o.wpIn (fe N.r) 0 P (act N σ) w K Q:=by
 refine ⟨fun f _=>ki _ f,?_⟩;rw [m5,rJ _ _ _ hn,dt];rcases hr with hr | ⟨hr,rfl⟩
 · rw [hr]; exact A
 · rw [hr]; exact A
theorem zW {f:Nat} {fo:aW} {first cap:Array ag} {args:Array aW} {A:Array av} (C:ev N σ fo= .func (.func f) first cap):(execOp (ev N σ) ⟨dst,.call ⟨.value fo,args,A⟩,ty,pos,af,g⟩).run P w=(callFunc f<|first++args.map (ev N σ)++cap).run P w:=by
 simp only [execOp,resolve,C,mF,iE,kH,hZ,invoke]
end
end Go.Hb
namespace Go.Hb
section
variable {P:ar} {G:Nat} {h:Hp}
theorem kp {o:AO} {h':Hp} (hn:cW h o=some h'):h'.nx=h.nx+1:=by
 unfold cW at hn;replace hn:=aY hn; obtain ⟨_,hn⟩:=hn;cases hn; rfl
theorem CK {t:av} {b:Nat} {k v:AV} {h':Hp} (hp:o7 P t b k v h=some h'):h'.nx=h.nx:=by
 unfold o7 at hp;split at hp
 · split at hp
   · split at hp
     · replace hp:=aY hp; obtain ⟨_,hp⟩:=hp; cases hp; rfl
     · cases hp
   · cases hp
 · cases hp
theorem Ma {t b o:Nat} {v:AV} {h':Hp} (A:rj P G t b o v h=some h'):h'.nx=h.nx:=by
 unfold rj at A;split at A
 · split at A
   · replace A:=aY A; obtain ⟨_,A⟩:=A; cases A; rfl
   · cases A
 · cases A
theorem Ky {o:Op} {xs:List AV} {v:AV} {h':Hp} (A:o0 P G o xs h=some (v,h')):h.nx≤h'.nx:=by
 unfold o0 at A;split at A
 · split at A
   · split at A
     · replace A:=aY A; obtain ⟨_,A⟩:=A;split at A
       · rename_i hn; cases A; have :=kp hn; omega
       · cases A
     · cases A
   · cases A
 · split at A
   · replace A:=aY A; obtain ⟨_,A⟩:=A;split at A
     · rename_i hn; cases A; have :=kp hn; omega
     · cases A
   · cases A
 · split at A
   · rename_i hn; cases A; have :=kp hn; omega
   · cases A
 · split at A
   · replace A:=aY A; obtain ⟨_,A⟩:=A;split at A
     · replace A:=aY A; obtain ⟨_,A⟩:=A;split at A
       · rename_i hn; cases A; have :=kp hn; omega
       · cases A
     · cases A
   · cases A
 · split at A
   · split at A
     · replace A:=aY A; obtain ⟨_,A⟩:=A;split at A
       · rename_i hn; cases A; have :=kp hn; omega
       · cases A
     · cases A
   · cases A
 · split at A
   · split at A
     · rename_i C; cases A; have :=Ma C; omega
     · cases A
   · cases A
 · split at A
   · replace A:=aY A; obtain ⟨_,A⟩:=A;split at A
     · rename_i hp; cases A; have :=CK hp; omega
     · cases A
   · cases A
 · split at A
   · replace A:=aY A; obtain ⟨_,A⟩:=A;split at A
     · rename_i hp; cases A; have :=CK hp; omega
     · cases A
   · cases A
 · cases A
end
section
variable {P:ar} {G:Nat} {X:Xt} {ih:Tk→Rs} {n:Nat}
def kg (P:ar) (G:Nat) (o:Op) (xs:List AV) (h:Hp) (v:AV) (h':Hp):Prop :=
 h.nx≤h'.nx∧∀ (T:Nat) (r:Rn) (w:ah) (N:Fm) (σ:Nat→ag) (dst:Option Nat) (ty:av) (pos :String) (af:Array bQ) (g:Option (Nat×Bool)) (K:Act→ah→Prop) (Q:bu→Act→ah→Prop),h'.nx≤T→HR P G r T h w→aM r xs=some ((gp o).map<|ev N σ)→
  (∀ (r':Rn) (u:ag) (w':ah),den r' v=some u→St P G T r h w r' h' w'→K ((act N σ).put dst u) w')→(Oper.mk dst o ty pos af g).wpIn (fe N.r) 0 P (act N σ) w K Q
theorem kg.run {o:Op} {xs:List AV} {h h':Hp} {v:AV} (hn:∀ c,o≠.defer c) (L:h.nx≤h'.nx)
 (hr:∀ (T:Nat) (r:Rn) (w:ah) (N:Fm) (σ:Nat→ag) (dst:Option Nat) (ty:av) (pos :String) (af:Array bQ) (g:Option (Nat×Bool)),h'.nx≤T→HR P G r T h w→aM r xs=some ((gp o).map<|ev N σ)→YM P G r T N σ ⟨dst,o,ty,pos,af,g⟩ h w v h'):kg P G o xs h v h':=
 ⟨L,fun T r w N σ dst ty pos af g K Q hT I E J=>by
  obtain ⟨r',u,w',h1,A,C⟩:=hr T r w N σ dst ty pos af g hT I E;exact uf hn A (J r' u w' h1 C)⟩
theorem GV (aj:Good P G ih) (aq:iJ P G X) (ap:gw P) (aw:∀ f args h v h',ih (.cl f args h)= .rv v h'→∃ fn c,P.funcs[f]? =some fn∧fn.body=some c) {fo:aW} {I:List aW} {ac:Array av} {f:AV} {args:List AV} {h h':Hp} {v:AV} (C:sj X ih f args h= .v v h'):
 kg P G (.call ⟨.value fo,⟨I⟩,ac⟩) (f::args) h v h':=by
 have ag:∀ c,Op.call ⟨.value fo,⟨I⟩,ac⟩≠.defer c:=fun c e=>by cases e
 unfold sj at C;split at C
 · rename_i f a c;split at C
   · rename_i e he;split at C
     · rename_i v1 h1 ah;cases C;obtain ⟨ab,E⟩:=aq f e he _ _ _ _ ah;refine kg.run ag ab fun T r w N σ dst ty pos af g hT Z U=> ?_;obtain ⟨u,us,A,V,O⟩:=dW U;simp only [gp,dG,lN] at A;obtain ⟨A,rfl⟩:=A;obtain ⟨J,c',ha,ad,rfl⟩:=l6 V;obtain ⟨r',u,w',L,M,ao⟩:=E T r w _ hT Z<|fA ha<|fA O ad;refine ⟨r',u,w',L,.inl ?_,ao⟩;rw [zW A];have :J.toArray++(⟨I⟩:Array aW).map (ev N σ)++c'.toArray=(J++(I.map (ev N σ)++c')).toArray:=by simp
       rw [this]; exact M
     · cases C
   · split at C
     · rename_i v1 h1 am;cases C;have E:=aj<|.cl f (a++(args++c)) h;rw [am] at E;obtain ⟨ab,E⟩:=E;obtain ⟨fn,cd,ax,ar⟩:=aw _ _ _ _ _ am;have au:=ap f fn cd ax ar;refine ⟨ab,fun T r w N σ dst ty pos af g K Q hT Z U ae=> ?_⟩;obtain ⟨u,us,A,V,O⟩:=dW U;simp only [gp,dG,lN] at A;obtain ⟨A,rfl⟩:=A;obtain ⟨J,c',ha,ad,rfl⟩:=l6 V;have az:=E T r w _ hT Z<|fA ha<|fA O ad;refine ⟨fun f _=>ki _ f,?_⟩;rw [m5,rJ _ _ _ ag,dt,zW A];have :J.toArray++(⟨I⟩:Array aW).map (ev N σ)++c'.toArray=(J++(I.map (ev N σ)++c')).toArray:=by simp
       rw [this,au];simp only [Oper.uponIn_enter];refine ⟨fun h0=>(by rw [m4] at h0; cases h0),CallsIn.mono (sK az) ?_⟩;rintro e w' ⟨u,rfl,r',L,M⟩;exact ae r' u w' L M
     · cases C
 · rename_i l;split at C
   · rename_i v1 h1 aB;cases C;have E:=aj<|.yl l args h;rw [aB] at E;obtain ⟨ab,E⟩:=E;refine ⟨ab,fun T r w N σ dst ty pos af g K Q hT Z U ae=> ?_⟩;obtain ⟨u,us,A,V,O⟩:=dW U;simp only [gp,dG,lN] at A;obtain ⟨A,rfl⟩:=A;obtain ⟨q,ay,rfl⟩:=vB V;obtain ⟨fn,tmps,aa,ai,aA,al⟩:=E T r w _ q hT Z O ay;refine ⟨fun f _=>ki _ f,?_⟩;rw [m5,rJ _ _ _ ag,dt];have ah:(execOp (ev N σ) ⟨dst,.call ⟨.value fo,⟨I⟩,ac⟩,ty,pos,af,g⟩).run P w= .ok (.round q.ak fn tmps aa ai) w:=by
      have hm:(⟨I⟩:Array aW).map (ev N σ)=(I.map<|ev N σ).toArray:=by simp
      simp only [execOp,resolve,A,mF,iE,kH,hZ,invoke];simp [aA]
     rw [ah];simp only [rK];refine ⟨fun h0=>(by rw [m4] at h0; cases h0),?_⟩;have h1:RoundIn (fe N.r) (0 - 1) P q.ak fn tmps aa ai w fun e w'=> ∃ u r',e= .returned u∧den r' v=some u∧St P G T r h w r' h' w':=by
      cases hr:N.r with
      | none=>exact al
      | some k=>exact al
     refine RoundIn.mono h1 ?_;rintro e w' ⟨u,r',rfl,L,M⟩;exact ae r' u w' L M
   · cases C
 · cases C
theorem CA (U:Good P G ih) (V:iJ P G X) (O:gw P) (Z:∀ f args h v h',ih (.cl f args h)= .rv v h'→∃ fn c,P.funcs[f]? =some fn∧fn.body=some c) {o:Op} {xs:List AV} {h h':Hp} {v:AV} (A:qZ P G X ih o xs h= .v v h'):kg P G o xs h v h':=by
 unfold qZ at A;split at A
 · rename_i v1 hp;cases A;have E:∀ c,o≠.defer c:=fun c e=>by subst e; simp [np] at hp
   refine kg.run E (aQ _) fun T r w N σ dst ty pos af g hT C I=> ?_;obtain ⟨u,h1,J⟩:=Cz (dst:=dst) (ty:=ty) (pos :=pos) (af:=af) (g:=g) hp I;exact ⟨r,u,w,h1,.inl (J w),St.refl C⟩
 · split at A
   · rename_i v1 M;cases A;have E:∀ c,o≠.defer c:=fun c e=>by subst e; simp [jv] at M
     refine kg.run E (aQ _) fun T r w N σ dst ty pos af g hT C I=> ?_;obtain ⟨u,h1,J⟩:=Cy (dst:=dst) (ty:=ty) (pos :=pos) (af:=af) (g:=g) C M I;exact ⟨r,u,w,h1,.inl J,St.refl C⟩
   · split at A
     · rename_i fo L ab;split at A
       · obtain ⟨L⟩:=L;exact GV U V O Z A
       · cases A
     · split at A <;> cases A
     · rename_i ac E;split at A
       · rename_i v1 h1 hm;cases A;have E:∀ c,o≠.defer c:=fun c e=>by subst e; simp [o0] at hm
         exact kg.run E (Ky hm) fun T r w N σ dst ty pos af g hT C I=>Kz C hm hT I
       · split at A
         · rename_i v1 h1 hm;cases hle:bf h.nx h1.nx
           · rw [hle] at A; cases A
           rw [hle] at A;cases A;have E:∀ c,o≠.defer c:=fun c e=>by subst e; simp [tt] at hm
           exact kg.run E (bN hle) fun T r w N σ dst ty pos af g hT C I=>KA C hm hT I
         · cases A
end
end Go.Hb
namespace Go.Hb
section
variable {P:ar} {G:Nat} {X:Xt} {ih:Tk→Rs} {n:Nat} {r:Rn}
theorem pq {fr C:Tr AV} {d:Option Nat} {v:AV} {u:ag} {σ:Nat→ag} (A:fS n fr d v=some C) (I:ei r n fr σ) (J:den r v=some u):ei r n C (dw σ d u):=by
 cases d with
 | none=>simp only [fS,bK] at A; subst A; exact I
 | some d=>
   simp only [fS] at A;replace A:=aY A; obtain ⟨E,A⟩:=A;simp only [a0] at E;cases A;intro i hi;simp only [dw,aV,dh,Tr.kY _ _ _ _ E.2];by_cases e:i=d
   · subst e;rw [if_pos rfl,show aP i i=true from by simp]; exact J
   · rw [if_neg e,show aP i d=false from by
      cases hb:aP i d
      · rfl
      · exact absurd (bM hb) e]
     exact I i hi
theorem wq {ops:List aC} {fr:Tr AV} {o:aC} {N:Fm} {σ:Nat→ag} (A:j0 N.n ops fr o.guard= .y) (C:ei r N.n fr σ):kf o (yielded ops.toArray (act N σ).tmps)=true :=by
 unfold j0 at A;split at A
 · exact fq _ (by assumption) _
 · rename_i j want E;split at A
   · rename_i M I;split at A
     · rename_i t J;cases hb:aE t N.n
       · rw [hb] at A; cases A
       · rw [hb] at A;simp only [cond_true] at A;split at A
         · rename_i b L;cases hbw:(b==want)
           · rw [hbw] at A; cases A
           · have h1:=C t<|cB.1 hb;rw [L] at h1;rw [mE E (by simp [dT,I,J]) hb (jm h1),hbw]
         · cases A
         · cases A
     · cases A
   · cases A
theorem Bs {ops:List aC} {fr:Tr AV} {o:aC} {N:Fm} {σ:Nat→ag} (A:j0 N.n ops fr o.guard= .n) (E:ei r N.n fr σ):kf o (yielded ops.toArray (act N σ).tmps)=false :=by
 unfold j0 at A;split at A
 · cases A
 · rename_i j want I;split at A
   · rename_i M J;split at A
     · rename_i t L;cases hb:aE t N.n
       · rw [hb] at A; cases A
       · rw [hb] at A;simp only [cond_true] at A;split at A
         · rename_i b C;cases hbw:(b==want)
           · have h1:=E t<|cB.1 hb;rw [C] at h1;rw [mE I (by simp [dT,J,L]) hb (jm h1),hbw]
           · rw [hbw] at A; cases A
         · rename_i C;have h1:=E t<|cB.1 hb;rw [C] at h1;rw [iL] at h1;exact yF I (by simp [dT,J,L]) hb (fH h1).symm
         · cases A
     · cases A
   · cases A
theorem q6 (ac:Good P G ih) (ad:iJ P G X) (ab:gw P) (ae:∀ f args h v h',ih (.cl f args h)= .rv v h'→∃ fn c,P.funcs[f]? =some fn∧fn.body=some c) {rd:Option Nat} {ops:List aC} :∀ {l:List aC} {fr Z:Tr AV} {D V:List AD} {h h':Hp},
 j8 P G X ih rd n ops l fr D h= .cd .bD Z V h'→dy P G rd n (fun rr Q a w=>wpListIn (fe rr) 0 P ops.toArray Q l a w) fr D h .bD Z V h'
 | [],fr,Z,D,V,h,h',he=>by
   simp only [j8,Rs.cd.injEq,true_and] at he;obtain ⟨rfl,rfl,rfl⟩:=he;exact ⟨aQ _,fun T r w σ Dl rr Q hT C A I L J=>J r w σ Dl (St.refl C) A I⟩
 | o::l,fr,Z,D,V,h,h',he=>by
   simp only [j8] at he;split at he
   · rename_i ah;split at he
     · rename_i xs ao;split at he
       · rename_i v h1 bd;split at he
         · rename_i av M;obtain ⟨aF,s1⟩:=CA ac ad ab ae bd;obtain ⟨O,s2⟩:=q6 ac ad ab ae he;refine ⟨cn aF O,fun T r w σ Dl rr Q hT C A I L J=> ?_⟩;show wpListIn _ _ _ _ _ _ _ _;unfold wpListIn;rw [if_pos (wq (N:=⟨n,Dl,[],rr⟩) ah A)];obtain ⟨d,op,ty,pos,af,g⟩:=o;refine s1 T r w ⟨n,Dl,[],rr⟩ σ d ty pos af g _ Q (cn O hT) C (tl C.fi A ao) fun r' u w' hu bo=> ?_;rw [eO];exact s2 T r' w' _ Dl rr Q hT bo.hr (pq M (A.le bo.le) hu) (mV bo.le I) (CM bo.le L) fun ap aq ar ai am al ak=>J ap aq ar ai (bo.trans am) al ak
         · cases he
       · rename_i a bd;split at he
         · split at he
           · rename_i av M;obtain ⟨O,s2⟩:=q6 ac ad ab ae he;refine ⟨O,fun T r w σ Dl rr Q hT C A I L J=> ?_⟩;have aB:rr=none:=by
              cases rr with
              | none=>rfl
              | some k=>exact L.elim
             subst aB;show wpListIn _ _ _ _ _ _ _ _;unfold wpListIn;rw [if_pos (wq (N:=⟨n,Dl,[],none⟩) ah A)];obtain ⟨d,op,ty,pos,af,g⟩:=o;simp only at bd ao M;have aE:=tl (N:=⟨n,Dl,[],none⟩) C.fi A ao;unfold qZ at bd;split at bd
             · cases bd
             · split at bd
               · cases bd
               · split at bd
                 · rename_i fo E au;split at bd
                   · unfold sj at bd;split at bd
                     · split at bd
                       · split at bd <;> cases bd
                       · split at bd <;> cases bd
                     · split at bd <;> cases bd
                     · cases bd
                   · cases bd
                 · rename_i fo E au _ _;split at bd
                   · rename_i f aG c' args _ _;cases bd;obtain ⟨E⟩:=E;obtain ⟨u,us,ag,az,ax⟩:=dW aE;simp only [gp,dG,lN] at ag;obtain ⟨ag,rfl⟩:=ag;obtain ⟨aj,c2,ha,ay,rfl⟩:=l6 az;refine ⟨fun f _=>trivial,?_⟩;have aD:(execOp (ev ⟨n,Dl,[],none⟩ σ) ⟨d,.defer ⟨.value fo,⟨E⟩,au⟩,ty,pos,af,g⟩).run P w= .ok (.defer {target:= .fn (.func f) c2.toArray,args:=aj.toArray++(⟨E⟩:Array aW).map (ev ⟨n,Dl,[],none⟩ σ)}) w:=by
                      simp [execOp,resolve,ag,mF]
                     show rK _ _ _ _ _ _ _ (lK P (Oper.semAt (fe none).round _ _) w);rw [m5,Oper.semAt_none,dt,aD];simp only [Oper.uponIn_defer];have aA:({(act ⟨n,Dl,[],none⟩ σ) with defers:= {target:=Target.fn (.func f) c2.toArray,args:=aj.toArray++(⟨E⟩:Array aW).map (ev ⟨n,Dl,[],none⟩ σ)} ::(act ⟨n,Dl,[],none⟩ σ).defers} :Act)=act ⟨n,{target:= .fn (.func f) c2.toArray,args:=aj.toArray++(⟨E⟩:Array aW).map (ev ⟨n,Dl,[],none⟩ σ)} ::Dl,[],none⟩ σ:=rfl;rw [aA,eO];refine s2 T r w _ _ none Q hT C (pq M A<|iL r) ⟨⟨_,_,_,fA ha (fA ax ay),U,by simp⟩,I⟩ L fun ap aq ar ai am al ak=>J ap aq ar ai am al ak
                   · cases bd
                 · split at bd
                   · cases bd
                   · split at bd
                     · rename_i aw _;cases hle:bf h.nx aw.nx
                       · rw [hle] at bd; cases bd
                       · rw [hle] at bd; cases bd
                     · cases bd
           · cases he
         · cases he
       · cases he
     · cases he
   · rename_i ah;split at he
     · rename_i av M;obtain ⟨O,s2⟩:=q6 ac ad ab ae he;refine ⟨O,fun T r w σ Dl rr Q hT C A I L J=> ?_⟩;show wpListIn _ _ _ _ _ _ _ _;unfold wpListIn;rw [if_neg (by rw [Bs (N:=⟨n,Dl,[],rr⟩) ah A]; simp)];refine ⟨fun f _=>ki _ f,?_⟩;rw [eO];exact s2 T r w _ Dl rr Q hT C (pq M A<|iL r) I L J
     · cases he
   · cases he
end
end Go.Hb
namespace Go.Hb
section
variable {P:ar} {G:Nat} {X:Xt} {ih:Tk→Rs} {n:Nat} {r:Rn} {T:Nat} {h:Hp} {w:ah}
theorem HR.loop (hr:HR P G r T h w) {l:Nat} {st:LoopState} {E:Option bH} {fr:Tr AV} {ps:List Nat} {aR body:bH} {D:Nat} (M:h.t.get l=some (.loop st E n fr ps aR body D)):
 ∃ q fn A C,r l=some q∧w.heap[q.ak]? =some (.loop {state:=st,pending:=E,fn:=fn,tmps:=A,params:=ps.toArray,assign:=aR,body:=body,defers:=C})∧(∃ x,r D=some x∧x.ak=C)∧A.size=n∧∀ i,i < n→den r (dh fr i)=A[i]? :=by
 obtain ⟨q,O,fn,A,C,h1,I,J,L⟩:=hr.live l _ M;exact ⟨q,fn,A,C,O,h1,I,J,L⟩
theorem HR.x8 (hr:HR P G r T h w) {l:Nat} {q:Loc} {st st':LoopState} {E pe':Option bH} {fr:Tr AV} {ps:List Nat} {aR body:bH} {D fn C:Nat} {A:Array ag} (O:h.t.get l=some (.loop st E n fr ps aR body D)) (J:bf G l=true) (hb:aE l cj=true) (Z:r l=some q)
 (hw:w.heap[q.ak]? =some (.loop {state:=st,pending:=E,fn:=fn,tmps:=A,params:=ps.toArray,assign:=aR,body:=body,defers:=C})) (I:∃ x,r D=some x∧x.ak=C) (ab:A.size=n) (L:∀ i,i < n→den r (dh fr i)=A[i]?):
 St P G T r h w r ⟨h.t.set l (.loop st' pe' n fr ps aR body D),h.nx⟩ (w.putObj q.ak<|.loop {state:=st',pending:=pe',fn:=fn,tmps:=A,params:=ps.toArray,assign:=aR,body:=body,defers:=C}):=by
 have V:=(dq.1 hw).1;refine hr.lr O hb Z (bN J) ?_ ⟨U,U,by simp [Fa],fun k _ M=>lM M⟩;rw [uy V];exact ⟨fn,A,C,U,I,ab,L⟩
theorem Df {σ:Nat→ag} :∀ {ps:List Nat} {args:List AV} {L:List ag} {fr A:Tr AV},ns n ps args fr=some A→ei r n fr σ→aM r args=some L→L.length=ps.length∧ei r n A ((ps.zip L).foldl (fun s p=>aV s p.1 p.2) σ)
 | [],[],L,fr,A,hs,hf,hd=>by
   simp only [ns,bK] at hs;subst hs;rw [kh hd]; exact ⟨rfl,hf⟩
 | [],_::_,_,_,_,hs,_,_=>by simp [ns] at hs
 | _::_,[],_,_,_,hs,_,_=>by simp [ns] at hs
 | p::ps,v::vs,L,fr,A,hs,hf,hd=>by
   simp only [ns] at hs;split at hs
   · rename_i O h1;obtain ⟨u,us,rfl,E,I⟩:=dW hd;have C:=pq h1 hf E;simp only [dw] at C;obtain ⟨J,M⟩:=Df hs C I;exact ⟨by simp [J],M⟩
   · cases hs
theorem F8 (N:Fm) (l:List (Tmp×ag)) (σ:Nat→ag):l.foldl (fun t p=>t.setIfInBounds p.1 p.2) (act N σ).tmps=(act N<|l.foldl (fun s p=>aV s p.1 p.2) σ).tmps:=zw N l σ
theorem F7 {A:Array ag} {N:Fm} (C:A.size=N.n):A=(act N fun i=>A.getD i undef).tmps:=by
 apply Array.ext_getElem?;intro i;rw [ji];by_cases hi:i < N.n
 · rw [if_pos hi,iZ,nU ab]; rfl
 · rw [if_neg hi,Array.getElem?_eq_none ab]
theorem Hl {c:Bool} {p:Rs} {v:AV} {h:Hp} (A:cond c p .no= .rv v h):c=true∧p= .rv v h:=by
 cases c
 · cases A
 · exact ⟨U,A⟩
theorem NI (al:Good P G ih) {l:Nat} {args:List AV} {h':Hp} {v:AV} (A:rA G ih l args h= .rv v h'):uZ P G l args h v h':=by
 unfold rA at A;split at A
 · rename_i bm n fr ps aR body d aT;split at A
   · rename_i aD aX;split at A
     · rename_i aE h1 aI;have s1:=al<|.cd (some l) n aR aD [] h;rw [aI] at s1;obtain ⟨a5,s1⟩:=s1;split at A
       · rename_i ax m1 aC a6 aA aB d1 am;replace A:=Hl A; obtain ⟨E,A⟩:=A;simp only [a0] at E;split at A
         · rename_i e bh I aJ;have s2:=al<|.cd (some l) n body aE [] ⟨h1.t.set l (.loop .busy ax m1 aC a6 aA aB d1),h1.nx⟩;rw [aJ] at s2;obtain ⟨aw,s2⟩:=s2;simp only at aw;split at A
           · rename_i bn av aj ay ae ah d2 ao;have key:∀ (jump:Option bH) (st:LoopState),jump=A5 e→st=(if jump.isNone then .ready else .done)→v= .bool jump.isNone→h'=⟨I.t.set l (.loop st jump av aj ay ae ah d2),I.nx⟩→uZ P G l args h v h':=by
              intro jump st Z bo a4 aS;subst a4 aS;refine ⟨cn a5 aw,fun T r w L q hT hr aK ac=> ?_⟩;simp only at hT;obtain ⟨q',fn,C,br,ap,hw,bi,aZ,aO⟩:=hr.loop aT;rw [ac] at ap; cases ap;have aY:=Df (σ:=fun i=>C.getD i undef) aX (fun i hi=>by
               show den r (dh fr i)=some (C.getD i undef);rw [aO i hi,iZ,nU ab]; rfl) aK
              obtain ⟨hlen,aM⟩:=aY;have aW:=run_yield (P:=P) (args:=L.toArray) hw<|by simpa using hlen
              refine ⟨_,_,_,_,aW,roundIn_of_wpIn (F:=e7) trivial ?_⟩;have a3:((ps.toArray.zip L.toArray).foldl (fun tmps (p:Tmp×ag)=>tmps.setIfInBounds p.1 p.2) C)=(act ⟨n,[],[],some q.ak⟩<|(ps.zip L).foldl (fun s p=>aV s p.1 p.2) fun i=>C.getD i undef).tmps:=by
               rw [← Ew,Array.toList_zip];simp only [];rw [← F8 ⟨n,[],[],some q.ak⟩];rw [← F7 (N:=⟨n,[],[],some q.ak⟩) aZ]
              have ai:({tmps:=((ps.toArray.zip L.toArray).foldl (fun tmps (p:Tmp×ag)=>tmps.setIfInBounds p.1 p.2) C),defers:= []} :Act)=act ⟨n,[],[],some q.ak⟩ ((ps.zip L).foldl (fun s p=>aV s p.1 p.2) fun i=>C.getD i undef):=by rw [a3]; rfl
              simp only at ai ⊢;rw [ai];refine s1 T r w _ [] (some q.ak) _ ab hr aM trivial ⟨q,ac,U⟩ fun a7 bx bc ad M aN aL=> ?_;have aH:ad= []:=by cases ad; rfl; exact aL.elim
              subst aH;obtain ⟨bp,bf,bv,bt,J,ar,aF,a1,aP⟩:=M.hr.loop am;have :=M.le _ _ ac;rw [J] at this; cases this;have az:=M.hr.x8 (st':= .busy) (pe':=ax) am E.1 E.2 J ar aF a1 aP;refine ⟨_,run_beginRound ar U,?_⟩;refine s2 T a7 _ bc [] (some q.ak) _ ab az.hr aN trivial ⟨q,J,U⟩ fun a8 bb bz bd O bl bj=> ?_;obtain ⟨bq,bg,bw,bu,aq,au,aG,a2,aQ⟩:=O.hr.loop ao;have :=O.le _ _ J;rw [aq] at this; cases this;have a9:=O.hr.x8 (st':=st) (pe':=jump) ao E.1 E.2 aq au aG a2 aQ;have V:=run_endRound (P:=P) jump au;simp only at V;rw [← bo] at V;have ba:=St.trans (St.trans (St.trans M az) O) a9;have fin:∃ v w',(Instr.endRound q.ak jump).run P bb= .ok v w'∧∃ u r',(Ending.returned v)= .returned u∧den r' (.bool jump.isNone)=some u∧St P G T r h w r' ⟨I.t.set l (.loop st jump av aj ay ae ah d2),I.nx⟩ w':=
               ⟨_,_,V,_,a8,rfl,rfl,ba⟩
              cases e with
              | bD=>subst Z; exact fin
              | ret=>subst Z; exact fin
              | ext i=>subst Z; exact fin
             split at A
             · cases A;exact key none .ready U U U U
             · rename_i aU;cases A;cases e with
               | bD=>exact absurd rfl aU
               | ret=>exact key (some .ret) .done rfl rfl rfl rfl
               | ext i=>exact key (some<|.exit i) .done rfl rfl rfl rfl
           · cases A
         · cases A
       · cases A
     · cases A
   · cases A
 · cases A
end
end Go.Hb
namespace Go.Hb
section
variable {P:ar} {G:Nat} {X:Xt} {ih:Tk→Rs} {n:Nat} {r:Rn} {T:Nat} {h:Hp} {w:ah}
theorem Hk {c:Bool} {p:Rs} {e:EX} {fr:Tr AV} {D:List AD} {h:Hp} (A:cond c p .no= .cd e fr D h):c=true∧p= .cd e fr D h:=by
 cases c
 · cases A
 · exact ⟨U,A⟩
theorem AR (al:Good P G ih) {rd:Option Nat} {fr J:Tr AV} {D I:List AD} {l:Nat} {h':Hp} {e:EX} (he:oJ G ih rd n fr D l h= .cd e J I h'):h.nx≤h'.nx∧
 ∀ (T:Nat) (r:Rn) (w:ah) (σ:Nat→ag) (Dl:List Deferred) (rr:Option Nat) (Q:bu→Act→ah→Prop) (q:Loc) (u:ag),h'.nx≤T→HR P G r T h w→r l=some q→ei r n fr σ→jU r D Dl→q8 r rd rr→
   (∀ (r':Rn) (w':ah) (σ':Nat→ag) (E:List Deferred),St P G T r h w r' h' w'→ei r' n J σ'→jU r' I E→Q (jY e) (act ⟨n,E,[],rr⟩ σ') w')→rangePost (fe rr) 0 P q.ak Q (act ⟨n,Dl,[],rr⟩ σ) (.returned u) w:=by
 unfold oJ at he;split at he
 · rename_i st A m L ps aR body d ac;have key:cond (bf G l && aE l cj) (match A with
    | none=>Rs.cd .bD fr D ⟨h.t.set l (.loop .exhausted A m L ps aR body d),h.nx⟩
    | some c=>ih (.cd rd n c fr D ⟨h.t.set l (.loop .exhausted A m L ps aR body d),h.nx⟩)) .no= .cd e J I h'→st≠.busy→h.nx≤h'.nx∧
   ∀ (T:Nat) (r:Rn) (w:ah) (σ:Nat→ag) (Dl:List Deferred) (rr:Option Nat) (Q:bu→Act→ah→Prop) (q:Loc) (u:ag),h'.nx≤T→HR P G r T h w→r l=some q→ei r n fr σ→jU r D Dl→q8 r rd rr→
     (∀ (r':Rn) (w':ah) (σ':Nat→ag) (E:List Deferred),St P G T r h w r' h' w'→ei r' n J σ'→jU r' I E→Q (jY e) (act ⟨n,E,[],rr⟩ σ') w')→rangePost (fe rr) 0 P q.ak Q (act ⟨n,Dl,[],rr⟩ σ) (.returned u) w:=by
     intro he bo;obtain ⟨O,he⟩:=Hk he;simp only [a0] at O;have run:∀ (r:Rn) (w:ah) (T:Nat) (q:Loc),HR P G r T h w→r l=some q→∃ w',(Instr.endLoop q.ak).run P w= .ok A w'∧St P G T r h w r ⟨h.t.set l (.loop .exhausted A m L ps aR body d),h.nx⟩ w':=by
      intro r w T q hr C;obtain ⟨q',fn,aA,az,ad,hw,aj,ar,ap⟩:=hr.loop ac;rw [C] at ad; cases ad;exact ⟨_,run_endLoop (P:=P) hw bo,hr.x8 (st':= .exhausted) (pe':=A) ac O.1 O.2 C hw aj ar ap⟩
     cases A with
     | none=>
       cases he;refine ⟨aQ _,fun T r w σ Dl rr Q q u hT hr C V U ae Z=> ?_⟩;obtain ⟨w',ab,M⟩:=run r w T q hr C;exact ⟨none,w',ab,Z r w' σ Dl M V U⟩
     | some c=>
       simp only at he;have s1:=al<|.cd rd n c fr D ⟨h.t.set l (.loop .exhausted (some c) m L ps aR body d),h.nx⟩;rw [he] at s1;obtain ⟨au,s1⟩:=s1;refine ⟨au,fun T r w σ Dl rr Q q u hT hr C V U ae Z=> ?_⟩;obtain ⟨w',ab,M⟩:=run r w T q hr C;exact ⟨some c,w',ab,s1 T r w' σ Dl rr Q hT M.hr V U ae fun av ax ay ai aw ao am=>Z av ax ay ai (M.trans aw) ao am⟩
   split at he
   · cases he
   · rename_i aq;exact key he aq
 · cases he
theorem K4 (ad:Good P G ih) (aK:gw P) (aL:∀ f args h v h',ih (.cl f args h)= .rv v h'→∃ fn c,P.funcs[f]? =some fn∧fn.body=some c) {rd:Option Nat} {g:aW} {ps:List Nat} {aR body:bH} {fr aJ:Tr AV} {D aI:List AD} {h':Hp} {e:EX} (he:pd ih G rd n g ps aR body fr D h= .cd e aJ aI h'):
 dy P G rd n (fun rr Q a w=>(Code.rangeFunc g ⟨ps⟩ aR body).wpIn (fe rr) 0 P Q a w) fr D h e aJ aI h':=by
 unfold pd at he;split at he
 · rename_i f a c aM;split at he
   · split at he
     · rename_i h1 aN;split at he
       · rename_i al V;split at he
         · rename_i v aV O;have s1:=ad<|.cl f (a++(.gH h1.nx::c)) al;rw [O] at s1;obtain ⟨m1,s1⟩:=s1;obtain ⟨a6,s2⟩:=AR ad he;have bd:=kp aN;have a5:=kp V;obtain ⟨aj,ai,ay,ap⟩:=aL _ _ _ _ _ O;have aq:=aK f aj ai ay ap;refine ⟨ab,fun T r w σ Dl rr Q hT hr L au ae az=> ?_⟩;have a0:rr=none:=by
            cases rr with
            | none=>rfl
            | some k=>exact ae.elim
           subst a0;refine wpIn_rangeFunc ?_;intro fn _;have J:=qY (N:=⟨n,Dl,[],none⟩) hr.fi L aM;obtain ⟨A,c',ha,ar,J⟩:=l6 J;obtain ⟨bj,aO,aC⟩:=hr.cW aN ab 0 (w':=w.alloc<|.deferred<|some []) rfl rfl rfl fun r' _ _=>rfl;have a1:(w.alloc<|.deferred<|some []).heap.size=w.heap.size+1:=World.size_alloc _ _;obtain ⟨ac,M,E⟩:=aC.hr.cW V ab 0 (w':=(w.alloc<|.deferred<|some []).alloc<|.loop {state:= .ready,pending:=none,fn:=fn,tmps:=(act ⟨n,Dl,[],none⟩ σ).tmps,params:=⟨ps⟩,assign:=aR,body:=body,defers:=w.heap.size}) rfl rfl rfl fun r' hle _=>by
            refine ⟨fn,(act ⟨n,Dl,[],none⟩ σ).tmps,w.heap.size,U,⟨_,hle _ _ aO,U⟩,by simp [act],fun i hi=> ?_⟩;rw [ji,if_pos hi];exact kV hle<|kV aC.le<|L i hi
           have aD:=aC.trans E;rw [a1] at M;have am:=fA (iq aD.le ha)<|dQ (show den ac (.gH h1.nx)=some (.func (.yield<|w.heap.size+1) #[] #[]) from by simp only [den,M])<|iq aD.le ar;have aA:=s1 T ac _ _ ab E.hr am;refine ⟨w.heap.size+1,[{target:= .collected w.heap.size,args:= #[]}],((w.alloc<|.deferred<|some []).alloc<|.loop {state:= .ready,pending:=none,fn:=fn,tmps:=(act ⟨n,Dl,[],none⟩ σ).tmps,params:=⟨ps⟩,assign:=aR,body:=body,defers:=w.heap.size}),{target:= .fn (.func f) c'.toArray,args:=A.toArray++ #[.func (.yield<|w.heap.size+1) #[] #[]]},((w.alloc<|.deferred<|some []).alloc<|.loop {state:= .ready,pending:=none,fn:=fn,tmps:=(act ⟨n,Dl,[],none⟩ σ).tmps,params:=⟨ps⟩,assign:=aR,body:=body,defers:=w.heap.size}),f,(A++(.func (.yield<|w.heap.size+1) #[] #[]::c')).toArray,_,?_,?_,fun _ _=>trivial,?_,fun h0=>(by cases h0),callsIn_wide.2<|kE aA ?_⟩
           · exact run_enterLoop_outer _ _ _ _ _
           · have aw:(act ⟨n,Dl,[],none⟩ σ).eval g= .func (.func f) A.toArray c'.toArray:=by rw [dt]; exact J
             simp only [resolve,aw];simp [go_sem]
           · have ao:A.toArray++ #[.func (.yield<|w.heap.size+1) #[] #[]]++c'.toArray=(A++(.func (.yield<|w.heap.size+1) #[] #[]::c')).toArray:=by simp
             have :=aq (A++(.func (.yield<|w.heap.size+1) #[] #[]::c')).toArray<|(w.alloc<|.deferred<|some []).alloc<|.loop {state:= .ready,pending:=none,fn:=fn,tmps:=(act ⟨n,Dl,[],none⟩ σ).tmps,params:=⟨ps⟩,assign:=aR,body:=body,defers:=w.heap.size};simp only [invoke,ao];exact this
           · rintro aT aF ⟨u,rfl,ag,_,I⟩;have kB:=aD.trans I;have hm:ag h.nx=some ⟨w.heap.size,0,0⟩:=I.le _ _<|E.le _ _ aO;exact s2 T ag aF σ ({target:= .collected w.heap.size,args:= #[]} ::Dl) none Q ⟨w.heap.size+1,0,0⟩ u hT I.hr (I.le _ _ M) (L.le kB.le) ⟨⟨_,hm,U⟩,mV kB.le au⟩ trivial fun aB aG aH ah aE ax av=>az aB aG aH ah (kB.trans aE) ax av
         · cases he
       · cases he
     · cases he
   · rename_i bf;split at he
     · rename_i bl bg m0 ba bh a7 a8 d aY;split at he
       · rename_i al V;split at he
         · rename_i v aV O;have s1:=ad<|.cl f (a++(.gH h.nx::c)) al;rw [O] at s1;obtain ⟨m1,s1⟩:=s1;obtain ⟨a6,s2⟩:=AR ad he;have a5:=kp V;obtain ⟨aj,ai,ay,ap⟩:=aL _ _ _ _ _ O;have aq:=aK f aj ai ay ap;refine ⟨ab,fun T r w σ Dl rr Q hT hr L au ae az=> ?_⟩;obtain ⟨aS,rfl⟩:∃ aS,rr=some aS:=by
            cases rr with
            | none=>exact ae.elim
            | some k=>exact ⟨k,rfl⟩
           obtain ⟨C,aP,aZ⟩:=ae;obtain ⟨bi,a9,bm,Z,aQ,a2,aX,bc,bb⟩:=hr.loop aY;rw [aP] at aQ; cases aQ;subst aZ;refine wpIn_rangeFunc ?_;intro fn _;have J:=qY (N:=⟨n,Dl,[],some C.ak⟩) hr.fi L aM;obtain ⟨A,c',ha,ar,J⟩:=l6 J;obtain ⟨ac,M,E⟩:=hr.cW V ab 0 (w':=w.alloc<|.loop {state:= .ready,pending:=none,fn:=fn,tmps:=(act ⟨n,Dl,[],some C.ak⟩ σ).tmps,params:=⟨ps⟩,assign:=aR,body:=body,defers:=Z}) rfl rfl rfl fun r' hle _=>by
            obtain ⟨x,a3,a4⟩:=aX;refine ⟨fn,(act ⟨n,Dl,[],some C.ak⟩ σ).tmps,Z,U,⟨x,hle _ _ a3,a4⟩,by simp [act],fun i hi=> ?_⟩;rw [ji,if_pos hi];exact kV hle<|L i hi
           have am:=fA (iq E.le ha)<|dQ (show den ac (.gH h.nx)=some (.func (.yield w.heap.size) #[] #[]) from by simp only [den,M])<|iq E.le ar;have aA:=s1 T ac _ _ ab E.hr am;refine ⟨w.heap.size,[],(w.alloc<|.loop {state:= .ready,pending:=none,fn:=fn,tmps:=(act ⟨n,Dl,[],some C.ak⟩ σ).tmps,params:=⟨ps⟩,assign:=aR,body:=body,defers:=Z}),{target:= .fn (.func f) c'.toArray,args:=A.toArray++ #[.func (.yield w.heap.size) #[] #[]]},(w.alloc<|.loop {state:= .ready,pending:=none,fn:=fn,tmps:=(act ⟨n,Dl,[],some C.ak⟩ σ).tmps,params:=⟨ps⟩,assign:=aR,body:=body,defers:=Z}),f,(A++(.func (.yield w.heap.size) #[] #[]::c')).toArray,_,?_,?_,fun aU _=>ki _ aU,?_,fun h0=>(by cases h0),sK<|kE aA ?_⟩
           · exact run_enterLoop_inner a2 _ _ _ _ _
           · have aw:(act ⟨n,Dl,[],some C.ak⟩ σ).eval g= .func (.func f) A.toArray c'.toArray:=by rw [dt]; exact J
             simp only [resolve,aw];simp [go_sem]
           · have ao:A.toArray++ #[.func (.yield w.heap.size) #[] #[]]++c'.toArray=(A++(.func (.yield w.heap.size) #[] #[]::c')).toArray:=by simp
             have :=aq (A++(.func (.yield w.heap.size) #[] #[]::c')).toArray<|w.alloc<|.loop {state:= .ready,pending:=none,fn:=fn,tmps:=(act ⟨n,Dl,[],some C.ak⟩ σ).tmps,params:=⟨ps⟩,assign:=aR,body:=body,defers:=Z};simp only [invoke,ao];exact this
           · rintro aT aF ⟨u,rfl,ag,_,I⟩;have kB:=E.trans I;exact s2 T ag aF σ _ (some C.ak) Q ⟨w.heap.size,0,0⟩ u hT I.hr (I.le _ _ M) (L.le kB.le) (mV kB.le au) ⟨C,kB.le _ _ aP,U⟩ fun aB aG aH ah aE ax av=>az aB aG aH ah (kB.trans aE) ax av
         · cases he
       · cases he
     · cases he
 · cases he
theorem xP {N:Fm} {σ:Nat→ag} (hr:HR P G r T h w) {fr:Tr AV} (J:ei r N.n fr σ):∀ {l:List ResultVar} {vs:List AV},iT P N.n fr h l=some vs→∃ us,aM r vs=some us∧(l.mapM<|iA (act N σ).tmps).run P w= .ok us w
 | [],vs,A=>by
   simp only [iT,bK] at A;subst A;exact ⟨[],by simp [aM],by simp⟩
 | .tmp t::l,vs,A=>by
   simp only [iT] at A;split at A
   · rename_i ad E;replace A:=aY A; obtain ⟨C,A⟩:=A;cases A;obtain ⟨us,h1,L⟩:=xP hr J E;have M:=J t<|cB.1 C;have U:=gE (P:=P) (w:=w)<|lz (P:=P) (N:=N) (σ:=σ) (w:=w) (t:=t);have I:ev N σ (.tmp t)=σ t:=by simp only [ev,C,cond_true]
     rw [I] at U;exact ⟨σ t::us,dQ M h1,by simp [Fz,U,L]⟩
   · cases A
 | .cell a t::l,vs,A=>by
   simp only [iT] at A;split at A
   · rename_i ad E;replace A:=aY A; obtain ⟨C,A⟩:=A;split at A
     · rename_i v cM;cases A;obtain ⟨us,h1,L⟩:=xP hr J E;have M:=J a<|cB.1 C;have I:ev N σ (.tmp a)=σ a:=by simp only [ev,C,cond_true]
       obtain ⟨b,off,u,V,hu,Z⟩:=BS hr cM M;have ab:ik P N σ w (.cell a t) u:=by
        rcases Z with ⟨ha,O⟩ | ⟨m,cs,ha,rfl,E,O⟩
        · exact jy (I.trans V) ha O
        · exact iz (I.trans V) ha E O
       have ac:=gE ab;exact ⟨u::us,dQ hu h1,by simp [Fz,ac,L]⟩
     · cases A
   · cases A
theorem xR {N:Fm} {σ:Nat→ag} {fn:Func} (hr:HR P G r T h w) {fr:Tr AV} (I:ei r N.n fr σ) {vs:List AV} (M:iT P N.n fr h fn.results.toList=some vs):∃ u,den r (nr vs)=some u∧(results fn (act N σ).tmps).run P w= .ok u w:=by
 obtain ⟨us,h1,E⟩:=xP hr I M;have O:(results fn (act N σ).tmps)=(do let vs ← fn.results.mapM (iA (act N σ).tmps); pure (if h:vs.size=1 then vs[0] else .tuple vs)):=rfl;have C:=de h1;have A:(fn.results.mapM<|iA (act N σ).tmps).run P w= .ok us.toArray w:=by
  have :fn.results=fn.results.toList.toArray:=by simp
  rw [this,List.mapM_toArray];simp [E]
 rw [O];unfold nr;split
 · obtain ⟨u,rfl⟩:=rO.1 (show us.length=1 from C);exact ⟨u,eQ h1,by simp [A]⟩
 · rename_i L;refine ⟨.tuple us.toArray,by simp only [den,h1],?_⟩;have J:us.length≠1:=fun e=>by
    rw [C] at e;obtain ⟨v,rfl⟩:=rO.1 e;exact L v U
   simp [A,J]
end
end Go.Hb
namespace Go.Hb
section
variable {P:ar} {G:Nat} {X:Xt} {ih:Tk→Rs} {n:Nat} {r:Rn} {T:Nat} {h:Hp} {w:ah}
theorem Bh:∀ (l:List AV) (k:Nat) (fr:Tr AV) (i:Nat),k+l.length≤1048574→(iO k l fr).get i=if k≤i∧i < k+l.length then l[i - k]? else fr.get i
 | [],k,fr,i,_=>by rw [iO,if_neg (fun h=>by have :=h.1; have :=h.2; simp only [ib] at this; omega)]
 | v::l,k,fr,i,h=>by
   simp only [dC] at h;rw [iO,Bh l (k+1) _ i ab,Tr.kY _ _ _ _ (cB.2 (show k < 1048574 by omega))];by_cases h1:k+1≤i∧i < k+1 +l.length
   · rw [if_pos h1,if_pos (by simp only [dC]; omega)];obtain ⟨m,hm⟩:∃ m,i - k=m+1:=⟨i - k - 1,ab⟩
     rw [hm,jd,show i - (k+1)=m from by omega]
   · rw [if_neg h1];by_cases A:i=k
     · rw [if_pos A,if_pos (by simp only [dC]; omega),A]; simp
     · rw [if_neg A,if_neg (by simp only [dC]; omega)]
theorem wg {args:List AV} {L:List ag} (A:aM r args=some L) (hb:bf args.length n=true) (hn:aE n cj=true):ei r n (iO 0 args .nil) (dv L):=by
 have hb:=bN hb;have hn:n < 1048574:=cB.1 hn;have I:=de A;intro i hi;simp only [dh,Bh args 0 .nil i ab,dv,fw,true_and,cz,Nat.sub_zero];by_cases h1:i < args.length
 · rw [if_pos h1,bC h1];obtain ⟨u,C,E⟩:=oE A<|bC h1;simp only [E,bY,C,jh]
 · rw [if_neg h1,Tr.get_nil];simp only [iL,bY];rw [jG ab]; rfl
theorem zU {f:FuncId} {args:Array ag} {u:FrameMode} {R A:Ending→FrameMode→ah→Prop} (C:CallsDIn e7 0 P f args u w R) (hr:∀ e u w,R e u w→A e u w):CallsDIn e7 0 P f args u w A:=
 ⟨C.1,fun c cs hu E=>let ⟨e,u',w',fr,h1,h2⟩:=C.2 c cs hu E; ⟨e,u',w',fr,hr _ _ _ h1,h2⟩⟩
theorem GW {f:FuncId} {fn:Func} {id N d:Nat} {ty:av} {pos :String} {af:Array bQ} {rest:List aC} {y:bH} {args:List ag} {R:ah→Prop}
 (I:P.funcs[f]? =some fn) (hb:fn.body=some (.seq (.region id ⟨⟨some d,.call ⟨.builtin .recover,⟨[]⟩,⟨[]⟩⟩,ty,pos,af,none⟩::rest⟩ false) y)) (ae:fn.ntmps=N) (hn:bf args.length N=true)
 (h:wpListIn (fe none) 0 P (⟨some d,.call ⟨.builtin .recover,⟨[]⟩,⟨[]⟩⟩,ty,pos,af,none⟩::rest).toArray (Exit.then (y.wpIn (fe none) 0 P fun e a w=>(e= .normal∨e= .ret)∧a.defers= []∧∃ v,(results fn a.tmps).run P w= .ok v w∧R w) fun _ _ _=>False) rest (act ⟨N,[],[],none⟩<|aV (dv args) d .nilIface) w):
 CallsDIn e7 0 P f args.toArray .returning w fun e aw w'=> ∃ v,e= .returned v∧aw= .returning∧R w':=by
 subst ae;refine ⟨trivial,fun A cs hu _=> ?_⟩
 let b:Frame:= {(default:Frame) with fn:=f,kind:= .deferred}
 have ai:Frame.enter P f args.toArray .deferred=b.at (act ⟨fn.ntmps,[],[],none⟩<|dv args) [.code (.seq (.region id ⟨⟨some d,.call ⟨.builtin .recover,⟨[]⟩,⟨[]⟩⟩,ty,pos,af,none⟩::rest⟩ false) y)]:=by
  rw [← nt fn args [] hn];simp [Frame.enter,Frame.at,I,hb,b]
 have ar:fX (⟨⟨some d,.call ⟨.builtin .recover,⟨[]⟩,⟨[]⟩⟩,ty,pos,af,none⟩::rest⟩:Array aC).size=0::(eL 1 rest.length):=by
  rw [eM,dC,List.range_eq_range',List.range'_succ]
 have al:=wpOpsIn_eq_wpListIn (F:=fe none) (n:=0) (P:=P) (ops:=(⟨some d,.call ⟨.builtin .recover,⟨[]⟩,⟨[]⟩⟩,ty,pos,af,none⟩::rest).toArray) (Q:=Exit.then (y.wpIn (fe none) 0 P fun e a w=>(e= .normal∨e= .ret)∧a.defers= []∧∃ v,(results fn a.tmps).run P w= .ok v w∧R w) fun _ _ _=>False) rest 1 fun j=>by simp [qa]
 rw [← al] at h;obtain ⟨e,ax,w',Z,C⟩:=wp_opsIn _ _ _ h b [.code y] (A::cs) rfl trivial (room_wide _);have C:=(arrivesIn_iff (b:=b) (fun _ _=>stepsIn_wide) rfl).1 C;have ap:step P (lone (b.at (act ⟨fn.ntmps,[],[],none⟩<|dv args) (.inRegion (⟨some d,.call ⟨.builtin .recover,⟨[]⟩,⟨[]⟩⟩,ty,pos,af,none⟩::rest).toArray (0::eL 1 rest.length)::[.code y])) (A::cs) w)=
  .next (lone (b.at (act ⟨fn.ntmps,[],[],none⟩<|aV (dv args) d .nilIface) (.inRegion (⟨some d,.call ⟨.builtin .recover,⟨[]⟩,⟨[]⟩⟩,ty,pos,af,none⟩::rest).toArray (eL 1 rest.length)::[.code y])) (A::cs) w):=by
  have ak:=stepG_op (P:=P) (b:=b) (a:=act ⟨fn.ntmps,[],[],none⟩<|dv args) (k:= [.code y]) (cs:=A::cs) (w:=w) (ops:=(⟨some d,.call ⟨.builtin .recover,⟨[]⟩,⟨[]⟩⟩,ty,pos,af,none⟩::rest).toArray) (i:=0) (rest:=eL 1 rest.length) (o:=⟨some d,.call ⟨.builtin .recover,⟨[]⟩,⟨[]⟩⟩,ty,pos,af,none⟩) rfl (fq _ rfl _);have au:(execOp (act ⟨fn.ntmps,[],[],none⟩<|dv args).eval ⟨some d,.call ⟨.builtin .recover,⟨[]⟩,⟨[]⟩⟩,ty,pos,af,none⟩).run P w= .ok .recover w:=by
   rw [dt];simp [execOp,resolve,invoke,builtin]
  have ac:=tryRecover_deferred (fr:=b.at (act ⟨fn.ntmps,[],[],none⟩<|dv args) (.inRegion (⟨some d,.call ⟨.builtin .recover,⟨[]⟩,⟨[]⟩⟩,ty,pos,af,none⟩::rest).toArray (0::eL 1 rest.length)::[.code y])) rfl (A::cs);have am:recoverD (A::cs)=none:=by simp [recoverD,hu]
  have aj:(b.at (act ⟨fn.ntmps,[],[],none⟩<|dv args) (.inRegion (⟨some d,.call ⟨.builtin .recover,⟨[]⟩,⟨[]⟩⟩,ty,pos,af,none⟩::rest).toArray (0::eL 1 rest.length)::[.code y])).finish .nilIface=b.at (act ⟨fn.ntmps,[],[],none⟩<|aV (dv args) d .nilIface) (.inRegion (⟨some d,.call ⟨.builtin .recover,⟨[]⟩,⟨[]⟩⟩,ty,pos,af,none⟩::rest).toArray (eL 1 rest.length)::[.code y]):=by
   rw [Frame.finish_at];have :=eO ⟨fn.ntmps,[],[],none⟩ (dv args) (some d) .nilIface;simp only [dw] at this;rw [← this]; rfl
  refine step_lone_go ?_;rw [ak,← aj];simp only [Frame.at] at ac ⊢;simp [stepG.apply,au,ac,am]
 have M:Steps P (lone (Frame.enter P f args.toArray .deferred) (A::cs) w) (lone (b.at (act ⟨fn.ntmps,[],[],none⟩<|aV (dv args) d .nilIface) (.inRegion (⟨some d,.call ⟨.builtin .recover,⟨[]⟩,⟨[]⟩⟩,ty,pos,af,none⟩::rest).toArray (eL 1 rest.length)::[.code y])) (A::cs) w):=by
  rw [ai];refine .head step_seq<|.head step_region ?_;rw [ar];exact .one ap
 cases e with
 | normal=>
   obtain ⟨ay,J,ad,ao,E⟩:=Z b [] (A::cs) rfl trivial (room_wide _);have E:=(arrivesIn_iff (b:=b) (fun _ _=>stepsIn_wide) rfl).1 E;obtain ⟨IX,O,v,ab,L⟩:=ao;have V:({A with mode:= .returning} :Frame)=A:=by rw [← hu]
   rcases IX with rfl | rfl
   · refine ⟨.returned v,.returning,ad,{b.at J [] with mode:= .returning},⟨v,U,U,L⟩,?_,U,U,U,O,fn,I,ab⟩;rw [V];exact stepsIn_wide.2<|Steps.trans M<|Steps.trans C<|Steps.trans E<|.one step_end
   · obtain ⟨todo,aq⟩:=E;refine ⟨.returned v,.returning,ad,{b.at J todo with mode:= .returning},⟨v,U,U,L⟩,?_,U,U,U,O,fn,I,ab⟩;rw [V];exact stepsIn_wide.2<|Steps.trans M<|Steps.trans C aq
 | _=>exact Z.elim
theorem xl (M:Good P G ih) (L:gw P) (V:∀ f args h v h',ih (.df f args h)= .rv v h'→∃ fn c,P.funcs[f]? =some fn∧fn.body=some c):∀ {D:List AD} {h h':Hp},j6 G ih D h=some h'→h.nx≤h'.nx∧∀ (T:Nat) (r:Rn) (w:ah) (Dl:List Deferred) (fn:Func) (tmps:Array ag) (R:Ending→ah→Prop),
 h'.nx≤T→HR P G r T h w→jU r D Dl→(∀ (r':Rn) (w':ah),St P G T r h w r' h' w'→∃ v,(results fn tmps).run P w'= .ok v w'∧R (.returned v) w')→LeavesInM e7 0 P fn tmps R Dl .returning w
 | [],h,h',he=>by
   simp only [j6,bK] at he;subst he;refine ⟨aQ _,fun T r w Dl fn tmps R hT hr A C=> ?_⟩;have :Dl= []:=by cases Dl; rfl; exact A.elim
   subst this;exact C r w<|St.refl hr
 | .mark d::D,h,h',he=>by
   simp only [j6] at he;split at he
   · rename_i ab;replace he:=aY he; obtain ⟨O,he⟩:=he;simp only [a0] at O;obtain ⟨I,s1⟩:=xl M L V he;refine ⟨I,fun T r w Dl fn tmps R hT hr A C=> ?_⟩;cases Dl with
     | nil=>exact A.elim
     | cons x Dl=>
       obtain ⟨⟨q,ac,rfl⟩,A⟩:=A;obtain ⟨q',ad,E⟩:=hr.live d _ ab;rw [ac] at ad; cases ad;have E:w.heap[q.ak]? =some (.deferred<|some []):=E;have ap:=(dq.1 E).1;have st:St P G T r h w r ⟨h.t.set d (.kW false),h.nx⟩ (w.putObj q.ak<|.deferred none):=
        hr.lr ab O.2 ac (bN O.1) (by rw [uy ap]; rfl) ⟨rfl,rfl,by simp [Fa],fun k _ C=>lM C⟩
       exact ⟨EU,.inl ⟨q.ak,_,U,run_takeDeferred E,s1 T r _ Dl fn tmps R hT st.hr A fun r' w' st'=>C r' w'<|st.trans st'⟩⟩
   · cases he
 | .fn f args::D,h,h',he=>by
   simp only [j6] at he;split at he
   · rename_i v h1 Z;have J:=M<|.df f args h;rw [Z] at J;obtain ⟨aq,J⟩:=J;obtain ⟨ai,ae,ao,aj⟩:=V _ _ _ _ _ Z;have al:=L f ai ae ao aj;obtain ⟨I,s1⟩:=xl M L V he;refine ⟨cn aq I,fun T r w Dl fn tmps R hT hr A C=> ?_⟩;cases Dl with
     | nil=>exact A.elim
     | cons x Dl=>
       obtain ⟨⟨a,cap,aw,ha,rfl,am⟩,A⟩:=A;refine ⟨EU,.inr ⟨fun h0=>(by cases h0),.func f,cap,f,a.toArray,U,?_,fun _ _=>trivial,zU (J T r w a (cn I hT) hr ha) ?_⟩⟩
       · simp only [invoke,am];exact al a.toArray w
       · rintro e ax w' ⟨v,rfl,rfl,r',st⟩;exact s1 T r' w' Dl fn tmps R hT st.hr (mV st.le A) fun ar av au=>C ar av<|st.trans au
   · cases he
def zn (P:ar) (G:Nat) (X:Xt) (ih:Tk→Rs):Prop := ∀ (rd:Option Nat) (n id:Nat) (ops:List aC) (fr:Tr AV) (D:List AD) (h:Hp),match sA P G X ih n ops fr D h with
 | .cd e C A h'=>dy P G rd n (fun rr Q a w=>(EO id ⟨ops⟩ true).wpIn (fe rr) 0 P Q a w) fr D h e C A h'
 | .no=>True
 | _=>False
theorem dy.bind {rd:Option Nat} {W W' I:Option Nat→(bu→Act→ah→Prop)→Act→ah→Prop} {fr M O:Tr AV} {D C E:List AD} {h h1 V:Hp} {J L:EX} (s1:dy P G rd n W fr D h J M C h1) (s2:dy P G rd n W' M C h1 L O E V)
 (ae:∀ rr Q a w,W rr (fun e a w=>e=jY J∧W' rr Q a w) a w→I rr Q a w):dy P G rd n I fr D h L O E V:=by
 obtain ⟨ap,s1⟩:=s1;obtain ⟨ab,s2⟩:=s2;refine ⟨cn ap ab,fun T r w σ Dl rr Q hT hr ak ag Z ao=>ae rr Q _ w ?_⟩;exact s1 T r w σ Dl rr _ (cn ab hT) hr ak ag Z fun aq av ax ac A al ai=>⟨U,s2 T aq av ax ac rr Q hT A.hr al ai (CM A.le Z) fun ar aw ay ad au am aj=>ao ar aw ay ad (A.trans au) am aj⟩
theorem dy.map {rd:Option Nat} {W W':Option Nat→(bu→Act→ah→Prop)→Act→ah→Prop} {fr I:Tr AV} {D A:List AD} {h h1:Hp} {C E:EX} (s1:dy P G rd n W fr D h C I A h1)
 (L:∀ rr Q a w,W rr (fun e a w=>e=jY C∧Q (jY E) a w) a w→W' rr Q a w):dy P G rd n W' fr D h E I A h1:=by
 obtain ⟨ad,s1⟩:=s1;exact ⟨ad,fun T r w σ Dl rr Q hT hr V M ac ab=>L rr Q _ w<|s1 T r w σ Dl rr _ hT hr V M ac fun ae ai aj J ag Z O=>⟨U,ab ae ai aj J ag Z O⟩⟩
theorem Mi (V:Good P G ih) (ae:gw P) (ai:∀ f args h v h',ih (.df f args h)= .rv v h'→∃ fn c,P.funcs[f]? =some fn∧fn.body=some c) (f:Nat) (args:List AV) (h:Hp):lV P G (.cl f args h) (fm P G X ih<|.cl f args h):=by
 show lV P G (.cl f args h) (match P.funcs[f]? with
  | some fn=>match fn.body with
    | some c=>cond (bf args.length fn.ntmps && aE fn.ntmps cj) (match ih (.cd none fn.ntmps c (iO 0 args .nil) [] h) with
      | .cd (.ext _) _ _ _=> .no
      | .cd _ fr D h=>match j6 G ih D h with
        | some h=>match iT P fn.ntmps fr h fn.results.toList with
          | some vs=> .rv (nr vs) h
          | none=> .no
        | none=> .no
      | _=> .no) .no
    | none=> .no
  | none=> .no)
 split
 · rename_i fn al;split
   · rename_i c ag;cases hc:(bf args.length fn.ntmps && aE fn.ntmps cj)
     · trivial
     · simp only [cond_true];simp only [a0] at hc;have key:∀ (e:EX) (fr:Tr AV) (D:List AD) (h1 A:Hp) (vs:List AV),(e= .bD∨e= .ret)→ih (.cd none fn.ntmps c (iO 0 args .nil) [] h)= .cd e fr D h1→j6 G ih D h1=some A→iT P fn.ntmps fr A fn.results.toList=some vs→lV P G (.cl f args h) (.rv (nr vs) A):=by
        intro e fr D h1 A vs aj J C E;have M:=V<|.cd none fn.ntmps c (iO 0 args .nil) [] h;rw [J] at M;obtain ⟨ao,M⟩:=M;obtain ⟨ab,s1⟩:=xl V ae ai C;refine ⟨cn ao ab,fun T r w L hT hr Z=> ?_⟩;have hlen:=de Z;refine callsIn_wide.1<|callsIn_of_wp_marks (F:=e7) (n:=0) al ag trivial ?_;rw [nt fn L [] (by rw [hlen]; exact hc.1)];refine M T r w (dv L) [] none _ (cn ab hT) hr (wg Z hc.1 hc.2) trivial trivial fun ap ad ar I ac ak ah=> ?_;have fin:LeavesInM e7 0 P fn (act ⟨fn.ntmps,I,[],none⟩ ar).tmps (fun e w'=> ∃ v,e= .returned v∧∃ r',den r' (nr vs)=some v∧St P G T r h w r' A w') I .returning ad:=by
         refine s1 T ap ad I fn _ _ hT ac.hr ah fun aq au O=> ?_;obtain ⟨u,hu,am⟩:=xR (N:=⟨fn.ntmps,I,[],none⟩) O.hr (ak.le O.le) E;exact ⟨u,am,u,U,aq,hu,ac.trans O⟩
        rcases aj with rfl | rfl <;> exact fin
       cases J:ih (.cd none fn.ntmps c (iO 0 args .nil) [] h) with
       | no=>trivial
       | rv v h1=>trivial
       | cd e fr D h1=>
         cases e with
         | ext i=>trivial
         | bD=>
           simp only;cases C:j6 G ih D h1 with
           | none=>trivial
           | some A=>
             simp only;cases E:iT P fn.ntmps fr A fn.results.toList with
             | none=>trivial
             | some vs=>exact key .bD fr D h1 A vs (.inl rfl) J C E
         | ret=>
           simp only;cases C:j6 G ih D h1 with
           | none=>trivial
           | some A=>
             simp only;cases E:iT P fn.ntmps fr A fn.results.toList with
             | none=>trivial
             | some vs=>exact key .ret fr D h1 A vs (.inr rfl) J C E
   · trivial
 · trivial
end
end Go.Hb
namespace Go.Hb
section
variable {P:ar} {G:Nat} {X:Xt} {ih:Tk→Rs} {n:Nat} {r:Rn} {T:Nat} {h:Hp} {w:ah}
theorem Mj (ab:Good P G ih) (ap:iJ P G X) (ao:gw P) (ar:∀ f args h v h',ih (.cl f args h)= .rv v h'→∃ fn c,P.funcs[f]? =some fn∧fn.body=some c) (f:Nat) (args:List AV) (h:Hp):lV P G (.df f args h) (fm P G X ih<|.df f args h):=by
 cases hs:fm P G X ih (.df f args h) with
 | no=>trivial
 | cd e fr D h1=>
   exfalso;simp only [fm] at hs;split at hs;rename_i fn ag;split at hs;rename_i c ac;cases hc:(bf args.length fn.ntmps && aE fn.ntmps cj);rw [hc] at hs; cases hs;rw [hc] at hs;simp only [cond_true] at hs;split at hs;cases hs;split at hs <;> cases hs;cases hs;cases hs;cases hs
 | rv v h'=>
   simp only [fm] at hs;split at hs;rename_i fn ag;split at hs;rename_i c ac;cases hc:(bf args.length fn.ntmps && aE fn.ntmps cj);rw [hc] at hs; cases hs;rw [hc] at hs;simp only [cond_true] at hs;simp only [a0] at hc;split at hs;cases hs;rename_i e aH h1 ah A;split at hs;rename_i vs ai;cases hs;split at A;rename_i id d ty pos af rest y;split at A;rename_i aG ay;split at A;rename_i al V ax;obtain ⟨az,s1⟩:=q6 ab ap ao ar ax;have s2:=ab<|.cd none fn.ntmps y al [] V;rw [A] at s2;obtain ⟨M,s2⟩:=s2;refine ⟨cn az M,fun T r w L hT hr I=> ?_⟩;have hlen:=de I;refine GW (R:=fun w'=> ∃ r',St P G T r h w r' h' w') ag ac U (by rw [hlen]; exact hc.1) ?_;have av:=pq ay (wg I hc.1 hc.2) (show den r .cN=some .nilIface from rfl);refine s1 T r w (aV (dv L) d .nilIface) [] none _ (cn M hT) hr av trivial trivial fun aA aB aD ak aj aw au=> ?_;refine s2 T aA aB aD ak none _ hT aj.hr aw au trivial fun O aC aF E C ae ad=> ?_;have Z:E= []:=by cases E; rfl; exact ad.elim
   subst Z;obtain ⟨u,hu,J⟩:=xR (N:=⟨fn.ntmps,[],[],none⟩) C.hr ae ai;have he:jY e= .normal∨jY e= .ret:=by
    cases e with
    | bD=>exact .inl rfl
    | ret=>exact .inr rfl
    | ext i=>exact (ah i rfl).elim
   exact ⟨he,U,u,J,O,aj.trans C⟩;cases A;cases A;have s2:=ab<|.cd none fn.ntmps c (iO 0 args .nil) [] h;rw [A] at s2;obtain ⟨M,s2⟩:=s2;refine ⟨M,fun T r w L hT hr I=> ?_⟩;have hlen:=de I;have aq:=callsDIn_of_wp (F:=e7) (n:=0) (u:= .returning) (w:=w) (args:=L.toArray) (R:=fun e w'=> ∃ v,e= .returned v∧∃ r',St P G T r h w r' h' w') ag ac trivial (by
    rw [nt fn L [] (by rw [hlen]; exact hc.1)];refine s2 T r w (dv L) [] none _ hT hr (wg I hc.1 hc.2) trivial trivial fun O aC aF E C ae ad=> ?_;have Z:E= []:=by cases E; rfl; exact ad.elim
    subst Z;obtain ⟨u,hu,J⟩:=xR (N:=⟨fn.ntmps,[],[],none⟩) C.hr ae ai;cases e with
    | bD=>exact ⟨rfl,u,J,u,rfl,O,C⟩
    | ret=>exact ⟨rfl,u,J,u,rfl,O,C⟩
    | ext i=>exact (ah i rfl).elim)
   exact zU aq fun e aI w' ⟨h1,v,V,am⟩=>⟨v,V,h1,am⟩
   cases hs;cases hs;cases hs;cases hs
theorem yH {c:bH} {rr:Option Nat} {Q:bu→Act→ah→Prop} {a:Act} {w:ah} (Z:c.wpIn (fe rr) 0 P (Exit.then (ug P c rr Q) Q) a w):ug P c rr Q a w:=by
 intro b k cs J hb hr;obtain ⟨e,E,I,C,A⟩:=Z b (.inLoop c::k) cs J hb hr;cases e with
 | normal=>
   obtain ⟨O,L,ac,ab,V⟩:=C b k cs J hb hr;exact ⟨O,L,ac,ab,.of_steps (StepsIn.trans A<|.one (fenced_calm hb hr U) stepR_inLoop) V⟩
 | exit id=>exact ⟨.exit id,E,I,C,.pass (x:= .inLoop c) rfl (fun _ _=> .inl<|by simp) A⟩
 | goto l=>exact ⟨.goto l,E,I,C,.pass (x:= .inLoop c) rfl (fun _ _=> .inl<|by simp) A⟩
 | ret=>exact ⟨.ret,E,I,C,.pass (x:= .inLoop c) rfl (fun _ _=> .inl<|by simp) A⟩
 | panic M=>exact ⟨.panic M,E,I,C,.pass (x:= .inLoop c) rfl (fun _ _=> .inl<|by simp) A⟩
 | outgrown=>exact ⟨.outgrown,E,I,C,.pass (x:= .inLoop c) rfl (fun _ _=> .inl<|by simp) A⟩
theorem Nz {c:bH} {rr:Option Nat} {Q:bu→Act→ah→Prop} {a:Act} {w:ah} (h:ug P c rr Q a w):(Code.loop c).wpIn (fe rr) 0 P Q a w:=by
 intro b k cs I hb hr;obtain ⟨e,A,w',E,C⟩:=h b k cs I hb hr;exact ⟨e,A,w',E,.of_steps (.one (fenced_calm hb hr U) stepR_loop) C⟩
theorem Good.mU (A:Good P G ih) {rd:Option Nat} {c:bH} {fr:Tr AV} {D:List AD} {h h':Hp} {v:AV} (C:ih (.cd rd n c fr D h)= .rv v h'):False:=by
 have :=A (.cd rd n c fr D h); rw [C] at this; exact this
theorem Good.B2 (A:Good P G ih) {rd:Option Nat} {c:bH} {fr:Tr AV} {D:List AD} {h h':Hp} {v:AV} (C:ih (.lp rd n c fr D h)= .rv v h'):False:=by
 have :=A (.lp rd n c fr D h); rw [C] at this; exact this
theorem Mk (A:Good P G ih) (rd:Option Nat) (n:Nat) (c:bH) (fr:Tr AV) (D:List AD) (h:Hp):lV P G (.lp rd n c fr D h) (fm P G X ih<|.lp rd n c fr D h):=by
 simp only [fm];cases hi:ih (.cd rd n c fr D h) with
 | no=>trivial
 | rv v h1=>exact (A.mU hi).elim
 | cd e E C h1=>
   have s1:=A<|.cd rd n c fr D h;rw [hi] at s1;cases e with
   | bD=>
     simp only;have s2:=A<|.lp rd n c E C h1;cases hj:ih (.lp rd n c E C h1) with
     | no=>trivial
     | rv v I=>exact (A.B2 hj).elim
     | cd L M J I=>
       rw [hj] at s2;exact dy.bind s1 s2 fun rr Q a w hw=>yH (wpIn_mono hw fun e a w he=>by
        obtain ⟨rfl,he⟩:=he; exact he)
   | ret=>exact dy.map s1 fun rr Q a w hw=>yH<|wpIn_mono hw fun e a w he=>by obtain ⟨rfl,he⟩:=he; exact he
   | ext i=>exact dy.map s1 fun rr Q a w hw=>yH<|wpIn_mono hw fun e a w he=>by obtain ⟨rfl,he⟩:=he; exact he
theorem dy.here {rd:Option Nat} {W:Option Nat→(bu→Act→ah→Prop)→Act→ah→Prop} {fr:Tr AV} {D:List AD} {h:Hp} {e:EX} (A:∀ rr Q a w,Q (jY e) a w→W rr Q a w):dy P G rd n W fr D h e fr D h:=
 ⟨aQ _,fun T r w σ Dl rr Q hT hr E C J I=>A rr Q _ w<|I r w σ Dl (St.refl hr) E C⟩
theorem tu {rd:Option Nat} {ops:List aC} :∀ {l:List aC} {fr:Tr AV} {D:List AD} {h:Hp},(∃ C A h',j8 P G X ih rd n ops l fr D h= .cd .bD C A h')∨j8 P G X ih rd n ops l fr D h= .no
 | [],fr,D,h=> .inl ⟨fr,D,h,rfl⟩
 | o::l,fr,D,h=>by
   simp only [j8];split
   · split
     · split
       · split
         · exact tu
         · exact .inr U
       · split
         · split
           · exact tu
           · exact .inr U
         · exact .inr U
       · exact .inr U
     · exact .inr U
   · split
     · exact tu
     · exact .inr U
   · exact .inr U
theorem K5 (E:Good P G ih) {rd:Option Nat} {g:aW} {ps:List Nat} {aR body:bH} {fr:Tr AV} {D:List AD} {h h':Hp} {v:AV} (A:pd ih G rd n g ps aR body fr D h= .rv v h'):False:=by
 have C:∀ {fr:Tr AV} {D:List AD} {l:Nat} {h:Hp},oJ G ih rd n fr D l h= .rv v h'→False:=by
  intro fr D l h A;unfold oJ at A;split at A
  · split at A
    · cases A
    · rename_i J m I ps aR body d _ _;cases hc:(bf G l && aE l cj)
      · rw [hc] at A; cases A
      · rw [hc] at A;simp only [cond_true] at A;split at A
        · cases A
        · exact E.mU A
  · cases A
 unfold pd at A;split at A
 · split at A
   · split at A
     · split at A
       · split at A
         · exact C A
         · cases A
       · cases A
     · cases A
   · split at A
     · split at A
       · split at A
         · exact C A
         · cases A
       · cases A
     · cases A
 · cases A
theorem Mh (A:Good P G ih) (ae:iJ P G X) (Z:gw P) (ad:zn P G X ih) (ab:∀ f args h v h',ih (.cl f args h)= .rv v h'→∃ fn c,P.funcs[f]? =some fn∧fn.body=some c) (rd:Option Nat) (n:Nat) (c:bH) (fr:Tr AV) (D:List AD) (h:Hp):lV P G (.cd rd n c fr D h) (fm P G X ih<|.cd rd n c fr D h):=by
 cases c with
 | skip =>exact dy.here fun rr Q a w U=>wpIn_skip U
 | region id ops draw=>
   obtain ⟨ops⟩:=ops;simp only [fm];cases draw with
   | true =>
     simp only [cond_true];have :=ad rd n id ops fr D h;split at this
     · rename_i he; rw [he]; exact this
     · rename_i he; rw [he]; trivial
     · exact this.elim
   | false =>
     simp only [cond_false];rcases tu (P:=P) (G:=G) (X:=X) (ih:=ih) (n:=n) (rd:=rd) (ops:=ops) (l:=ops) (fr:=fr) (D:=D) (h:=h) with ⟨ak,ah,h',he⟩ | he
     · rw [he];obtain ⟨O,s1⟩:=q6 A ae Z ab he;exact ⟨O,fun T r w σ Dl rr Q hT hr C J M L=>wpIn_region_lit<|s1 T r w σ Dl rr Q hT hr C J M L⟩
     · rw [he]; trivial
 | seq a b=>
   simp only [fm];cases hi:ih (.cd rd n a fr D h) with
   | no=>trivial
   | rv v h1=>exact (A.mU hi).elim
   | cd e I E h1=>
     have s1:=A<|.cd rd n a fr D h;rw [hi] at s1;cases e with
     | bD=>
       simp only;have s2:=A<|.cd rd n b I E h1;cases hj:ih (.cd rd n b I E h1) with
       | no=>trivial
       | rv v ac=>exact (A.mU hj).elim
       | cd aj al ai ac=>
         rw [hj] at s2;exact dy.bind s1 s2 fun rr Q a w hw=>wpIn_seq<|wpIn_mono hw fun e a w he=>by obtain ⟨rfl,he⟩:=he; exact he
     | ret=>exact dy.map s1 fun rr Q a w hw=>wpIn_seq<|wpIn_mono hw fun e a w he=>by obtain ⟨rfl,he⟩:=he; exact he
     | ext i=>exact dy.map s1 fun rr Q a w hw=>wpIn_seq<|wpIn_mono hw fun e a w he=>by obtain ⟨rfl,he⟩:=he; exact he
 | cond x a b=>
   simp only [fm];split
   · rename_i V;have s1:=A<|.cd rd n a fr D h;cases hi:ih (.cd rd n a fr D h) with
     | no=>trivial
     | rv v h1=>exact (A.mU hi).elim
     | cd e I E h1=>
       rw [hi] at s1;obtain ⟨O,s1⟩:=s1;exact ⟨O,fun T r w σ Dl rr Q hT hr C J M L=>wpIn_cond_true (by rw [dt]; exact jm<|qY (N:=⟨n,Dl,[],rr⟩) hr.fi C V)<|s1 T r w σ Dl rr Q hT hr C J M L⟩
   · rename_i V;have s1:=A<|.cd rd n b fr D h;cases hi:ih (.cd rd n b fr D h) with
     | no=>trivial
     | rv v h1=>exact (A.mU hi).elim
     | cd e I E h1=>
       rw [hi] at s1;obtain ⟨O,s1⟩:=s1;exact ⟨O,fun T r w σ Dl rr Q hT hr C J M L=>wpIn_cond_false (by rw [dt]; exact jm<|qY (N:=⟨n,Dl,[],rr⟩) hr.fi C V)<|s1 T r w σ Dl rr Q hT hr C J M L⟩
   · trivial
 | block id c=>
   simp only [fm];cases hi:ih (.cd rd n c fr D h) with
   | no=>trivial
   | rv v h1=>exact (A.mU hi).elim
   | cd e I E h1=>
     have s1:=A<|.cd rd n c fr D h;rw [hi] at s1;cases e with
     | bD=>exact dy.map s1 fun rr Q a w hw=>wpIn_block<|wpIn_mono hw fun e a w he=>by obtain ⟨rfl,he⟩:=he; exact he
     | ret=>exact dy.map s1 fun rr Q a w hw=>wpIn_block<|wpIn_mono hw fun e a w he=>by obtain ⟨rfl,he⟩:=he; exact he
     | ext j=>
       simp only;cases hj:aP j id
       · have ag:j≠id:=fun e=>by subst e; simp at hj
         exact dy.map s1 fun rr Q a w hw=>wpIn_block (wpIn_mono hw fun e a w he=>by
          obtain ⟨rfl,he⟩:=he;simp only [jY,pP,if_neg ag]; exact he)
       · obtain rfl :=bM hj;exact dy.map s1 fun rr Q a w hw=>wpIn_block (wpIn_mono hw fun e a w he=>by
          obtain ⟨rfl,he⟩:=he;simp only [jY,pP,if_true]; exact he)
 | loop c=>
   simp only [fm];cases hi:ih (.lp rd n c fr D h) with
   | no=>trivial
   | rv v h1=>exact (A.B2 hi).elim
   | cd e I E h1=>
     have s1:=A<|.lp rd n c fr D h;rw [hi] at s1;obtain ⟨O,s1⟩:=s1;exact ⟨O,fun T r w σ Dl rr Q hT hr C J M L=>Nz<|s1 T r w σ Dl rr Q hT hr C J M L⟩
 | rangeFunc g ps aR body=>
   obtain ⟨ps⟩:=ps;simp only [fm];cases hi:pd ih G rd n g ps aR body fr D h with
   | no=>trivial
   | rv v h1=>exact (K5 A hi).elim
   | cd e I E h1=>exact K4 A Z ab hi
 | exit id=>exact dy.here fun rr Q a w U=>wpIn_exit U
 | ret=>exact dy.here fun rr Q a w U=>wpIn_ret U
 | scope c=>trivial
 | label l=>trivial
 | goto l=>trivial
 | refuse s=>trivial
theorem Ml (A:Good P G ih) (l:Nat) (args:List AV) (h:Hp):lV P G (.yl l args h) (fm P G X ih<|.yl l args h):=by
 simp only [fm];cases hi:rA G ih l args h with
 | no=>trivial
 | rv v h1=>exact NI A hi
 | cd e fr D h1=>
   exfalso;unfold rA at hi;split at hi
   · split at hi
     · split at hi
       · split at hi
         · rename_i L J I M C E d1 _;cases hc:(bf G l && aE l cj)
           · rw [hc] at hi; cases hi
           · rw [hc] at hi;simp only [cond_true] at hi;split at hi
             · split at hi
               · split at hi <;> cases hi
               · cases hi
             · cases hi
         · cases hi
       · cases hi
     · cases hi
   · cases hi
end
end Go.Hb
namespace Go.Hb
mutual
theorem oK:∀ {a b:AV},eR a b=true→a=b
 | .bool a,.bool b,h=>by simp only [eR,beq_iff_eq] at h; rw [h]
 | .int k a,.int k' b,h=>by
   simp only [eR] at h;cases hk:aP (dL k) (dL k')
   · rw [hk] at h; cases h
   · rw [hk] at h;simp only [cond_true,decide_eq_true_iff] at h;rw [nb hk,h]
 | .str l,.str m,h=>by simp only [eR,oL,decide_eq_true_iff] at h; rw [h]
 | .ptr b o,.ptr b' o',h=>by
   simp only [eR,a0] at h;rw [bM h.1,bM h.2]
 | .gS,.gS,_=>rfl
 | .sl b o n c x,.sl b' o' n' c' x',h=>by
   simp only [eR,a0,beq_iff_eq] at h;obtain ⟨⟨h1,A⟩,h3,h4,h5⟩:=h;rw [bM h1,bM A,bM h3,bM h4,h5]
 | .an,.an,_=>rfl
 | .map b,.map b',h=>by simp only [eR] at h; rw [bM h]
 | .kq,.kq,_=>rfl
 | .fn f a c,.fn f' a' c',h=>by
   simp only [eR,a0] at h;rw [bM h.1,mZ h.2.1,mZ h.2.2]
 | .gH l,.gH l',h=>by simp only [eR] at h; rw [bM h]
 | .iS,.iS,_=>rfl
 | .fC t v,.fC t' v',h=>by
   simp only [eR,a0] at h;rw [bM h.1,oK h.2]
 | .cN,.cN,_=>rfl
 | .agg l,.agg m,h=>by simp only [eR] at h; rw [mZ h]
 | .bT l,.bT m,h=>by simp only [eR] at h; rw [mZ h]
theorem mZ:∀ {a b:List AV},jV a b=true→a=b
 | [],[],_=>rfl
 | a::l,b::m,h=>by
   simp only [jV] at h;cases hk:eR a b
   · rw [hk] at h; cases h
   · rw [hk] at h; rw [oK hk,mZ h]
 | [],_::_,h=>by simp [jV] at h
 | _::_,[],h=>by simp [jV] at h
end
theorem vt {c p:Bool} (h:cond c p false =true):c=true∧p=true :=by
 cases c
 · cases h
 · exact ⟨U,h⟩
theorem xq {t:Nat} :∀ {l:List Nat},qT t l=true↔t∈l
 | []=>by simp [qT]
 | u::l=>by
   simp only [qT,ef];cases hb:aP t u
   · have :t≠u:=fun e=>by subst e; simp at hb
     simp only [cond_false,xq,this,false_or]
   · have :=bM hb;simp [this]
theorem AG {i:Nat} :∀ {l:List bQ},qB i l=true→∀ e∈l,dF .any e=true→e.on < i
 | [],_,e,he,_=>by cases he
 | x::l,h,e,he,hb=>by
   simp only [qB] at h;cases hx:(dF .any x && !(aE x.on i))
   · rw [hx] at h;rcases ef.1 he with rfl | he
     · rw [hb] at hx;simp only [Bool.true_and,Bool.not_eq_false'] at hx;exact cB.1 hx
     · exact AG h e he hb
   · rw [hx] at h; cases h
def ow (ops:List aC) (X:Nat→Prop):Prop := ∀ i o,X i→ops[i]? =some o→∀ e∈o.after.toList,dF .any e=true→X e.on
theorem xB {l:List Nat} {i:Nat} :mj l i=(l[i]?).getD 0:=by
 unfold mj
 induction l generalizing i with
 | nil=>simp [ll]
 | cons a l ih=>
   cases i with
   | zero=>simp [ll]
   | succ i=>simp [ll,ih]
theorem xo {acc:List Nat} {j:Nat} :∀ {l:List bQ},rW (mg acc l) j=true→∃ e∈l,dF .any e=true∧e.on < acc.length∧(j=e.on∨rW (mj acc e.on) j=true)
 | [],h=>by simp [mg] at h
 | e::l,h=>by
   simp only [mg] at h;cases hb:(dF .any e && aE e.on acc.length)
   · rw [hb] at h;obtain ⟨e',h1,A⟩:=xo h;exact ⟨e',ic _ h1,A⟩
   · rw [hb] at h;simp only [a0] at hb;simp only [cond_true] at h;have h':((2 ^ e.on ||| mj acc e.on) ||| mg acc l).testBit j=true :=h;simp only [Nat.testBit_or,nW,Nat.testBit_two_pow,decide_eq_true_iff] at h';rcases h' with (h' | h') | h'
     · exact ⟨e,ie,hb.1,cB.1 hb.2,.inl h'.symm⟩
     · exact ⟨e,ie,hb.1,cB.1 hb.2,.inr h'⟩
     · obtain ⟨e',h1,A⟩:=xo h';exact ⟨e',ic _ h1,A⟩
theorem Au {ops:List aC} {X:Nat→Prop} (A:ow ops X):∀ (l:List aC) (acc:List Nat),(∀ k,l[k]? =ops[acc.length+k]?)→(∀ i j,i < acc.length→rW (mj acc i) j=true→j < i∧(X i→X j))→
 ∀ i j,rW (mj (ir l acc) i) j=true→j < i∧(X i→X j)
 | [],acc,_,ha,i,j,h=>by
   simp only [ir] at h;rcases dD i acc.length with hi | hi
   · exact ha i j hi h
   · rw [xB,jG hi] at h; simp at h
 | o::l,acc,hl,ha,i,j,h=>by
   simp only [ir] at h;refine Au A l (acc++ [mg acc o.after.toList]) (fun k=> ?_) (fun i j hi hb=> ?_) i j h
   · have :=hl<|k+1;simp only [jd] at this;rw [this]; congr 1; simp; omega
   · rw [xB] at hb;rcases dD i acc.length with h1 | h1
     · rw [fF h1,← xB] at hb; exact ha i j h1 hb
     · have :i=acc.length:=by simp at hi; omega
       subst this;rw [fW (aQ _)] at hb;simp only [Nat.sub_self,je,jh] at hb;obtain ⟨e,he,I,J,C⟩:=xo hb;have L:ops[acc.length]? =some o:=by
        have :=hl 0;simpa using this.symm
       rcases C with rfl | C
       · exact ⟨J,fun E=>A _ _ E L e he I⟩
       · obtain ⟨O,M⟩:=ha _ _ J C;exact ⟨ab,fun E=>M<|A _ _ E L e he I⟩
theorem qo {ops:List aC} {X:Nat→Prop} (A:ow ops X) {i j:Nat} (h:jN (ir ops []) i j=true):j < i∧(X i→X j):=
 Au A ops [] (fun k=>by simp) (fun i j hi=>by simp at hi) i j h
structure uY (ops:List aC) (dp:List Nat) (i j:Nat) (oi oj:aC):Prop where
 ne:∀ t,oi.dst=some t→oj.dst≠some t
 ap:jN dp i j=true∨((∀ t,oj.dst=some t→t∉o9 ops oi)∧∀ t,oi.dst=some t→t∉o9 ops oj)
theorem zZ {ops:List aC} {I:List Nat} {i:Nat} {J:aC} :∀ {l:List aC} {b:Nat},sm ops I i J b l=true→∀ k C,l[k]? =some C→b+k < i→uY ops I i (b+k) J C
 | [],b,_,k,C,hk,_=>by simp at hk
 | o::l,b,h,k,C,hk,hlt=>by
   simp only [sm] at h;rw [cB.2 (show b < i by omega)] at h;simp only [cond_true,a0,jB,nW] at h;cases k with
   | zero=>
     simp only [je,bK] at hk;subst hk;refine ⟨fun t h1 A=> ?_,?_⟩
     · have :=h.1.1;rw [h1,A] at this;simp [AW] at this
     · rcases h.1.2 with h1 | ⟨h1,A⟩
       · exact .inl h1
       · refine .inr ⟨fun t E hm=> ?_,fun t E hm=> ?_⟩
         · rw [E] at h1; simp only [tf] at h1; rw [xq.2 hm] at h1; cases h1
         · rw [E] at A; simp only [tf] at A; rw [xq.2 hm] at A; cases A
   | succ k=>
     simp only [jd] at hk;have :=zZ h.2 k C hk ab;rwa [show b+1 +k=b+(k+1) from by omega] at this
theorem vk {ops:List aC} {E:List Nat} :∀ {l:List aC} {b:Nat},oD ops E b l=true→∀ k A,l[k]? =some A→qB (b+k) A.after.toList=true∧∀ j C,ops[j]? =some C→j < b+k→uY ops E (b+k) j A C
 | [],b,_,k,A,hk=>by simp at hk
 | o::l,b,h,k,A,hk=>by
   simp only [oD,a0] at h;cases k with
   | zero=>
     simp only [je,bK] at hk;subst hk;refine ⟨h.1.1,fun j C I J=> ?_⟩;have :=zZ h.1.2 j C I ab;rwa [cz] at this
   | succ k=>
     simp only [jd] at hk;have :=vk h.2 k A hk;rwa [show b+1 +k=b+(k+1) from by omega] at this
theorem AY {a:Option AV} {v:AV} (h:vN a v=true):a=some v:=by
 cases a with
 | none=>cases h
 | some a=>rw [oK h]
theorem Ct {P:ar} {C:List Nat} {i:Nat} {o:Op} {xs:List AV} {v:AV} :∀ {l:List Rec} {b:Nat},qX P C i o xs v b l=true→∀ k q,l[k]? =some q→
 (q.k= .c→(b+k < i→jN C i (b+k)=true∨jv P o xs q.hb=some v)∧(¬b+k < i→jN C (b+k) i=true∨jv P o xs q.ha=some v))∧(q.k= .a→¬b+k < i)
 | [],b,_,k,q,hk=>by simp at hk
 | x::l,b,h,k,q,hk=>by
   simp only [qX] at h;obtain ⟨h1,E⟩:=vt h;cases k with
   | succ k=>
     simp only [jd] at hk;have :=Ct E k q hk;rwa [show b+1 +k=b+(k+1) from by omega] at this
   | zero=>
     simp only [je,bK] at hk;subst hk;rw [lQ];refine ⟨fun I=> ?_,fun ha A=> ?_⟩
     · rw [I] at h1;simp only at h1;refine ⟨fun A=> ?_,fun A=> ?_⟩
       · rw [cB.2 A] at h1;simp only [cond_true,nW] at h1;exact h1.imp id AY
       · have :aE b i=false :=by cases hb:aE b i; rfl; exact absurd (cB.1 hb) A
         rw [this] at h1;simp only [cond_false,nW] at h1;exact h1.imp id AY
     · rw [ha,cB.2 A] at h1; cases h1
theorem Cr {C:List Nat} {i:Nat} :∀ {l:List Rec} {b:Nat},qW C i b l=true→∀ k q,l[k]? =some q→(q.k= .c∨q.k= .a)→b+k < i→jN C i (b+k)=true
 | [],b,_,k,q,hk,_,_=>by simp at hk
 | x::l,b,h,k,q,hk,A,E=>by
   simp only [qW] at h;obtain ⟨h1,I⟩:=vt h;cases k with
   | succ k=>
     simp only [jd] at hk;have :=Cr I k q hk A ab;rwa [show b+1 +k=b+(k+1) from by omega] at this
   | zero=>
     simp only [je,bK] at hk;subst hk;rw [lQ] at E ⊢;rcases A with A | A <;> (rw [A] at h1; simp only at h1; rw [cB.2 E] at h1; exact h1)
theorem Cu {P:ar} {E:List Nat} {rs:List Rec} :∀ {l:List aC} {m:List Rec} {b:Nat},ln P E rs b l m=true→l.length=m.length∧∀ k o q,l[k]? =some o→m[k]? =some q→(q.k= .l→qX P E (b+k) o.op q.xs q.v 0 rs=true)∧(q.k= .c→qW E (b+k) 0 rs=true)
 | [],[],b,_=>⟨rfl,fun k o q A=>by simp at A⟩
 | [],_::_,b,h=>by simp [ln] at h
 | _::_,[],b,h=>by simp [ln] at h
 | o::l,q::m,b,h=>by
   simp only [ln] at h;obtain ⟨h1,J⟩:=vt h;obtain ⟨L,M⟩:=Cu J;refine ⟨by simp [L],fun k O q' A C=> ?_⟩;cases k with
   | succ k=>
     simp only [jd] at A C;have :=M k O q' A C;rwa [show b+1 +k=b+(k+1) from by omega] at this
   | zero=>
     simp only [je,bK] at A C;subst A; subst C;rw [lQ];exact ⟨fun I=>by rw [I] at h1; exact h1,fun I=>by rw [I] at h1; exact h1⟩
end Go.Hb
namespace Go.Hb
section
variable {P:ar} {G:Nat} {X:Xt} {ih:Tk→Rs} {n:Nat}
inductive Cl (P:ar) (G:Nat) (o:Op) (q:Rec):Prop
 | p:q.k= .p→np P o q.xs=some q.v→q.ha=q.hb→Cl P G o q
 | l:q.k= .l→jv P o q.xs q.hb=some q.v→q.ha=q.hb→Cl P G o q
 | a (e:av) (l:List AV):q.k= .a→o= .alloc e→r9 P e=some l→cW q.hb (.cells l e 0 .x)=some q.ha→q.v= .ptr q.hb.nx 0→Cl P G o q
 | c:q.k= .c→kg P G o q.xs q.hb q.v q.ha→Cl P G o q
structure oz (P:ar) (G n:Nat) (ops:List aC) (o:aC) (q:Rec) (fr fr':Tr AV) (h h':Hp):Prop where
 hb:q.hb=h
 ha:q.ha=h'
 set :fS n fr o.dst q.v=some fr'
 run:(j0 n ops fr o.guard= .y∧kv G n fr (gp o.op)=some q.xs∧Cl P G o.op q)∨(j0 n ops fr o.guard= .n∧q.k= .s∧q.v= .bT []∧q.ha=q.hb)
theorem KS (J:Good P G ih) (L:iJ P G X) (I:gw P) (M:∀ f args h v h',ih (.cl f args h)= .rv v h'→∃ fn c,P.funcs[f]? =some fn∧fn.body=some c) {E:Bool} {o:Op} {xs:List AV} {h:Hp} {q:Rec} (A:xM P G X ih E o xs h=some q):q.xs=xs∧q.hb=h∧Cl P G o q:=by
 unfold xM at A;split at A
 · rename_i v hp; cases A; exact ⟨rfl,rfl,.p rfl hp rfl⟩
 · split at A
   · rename_i v C; cases A; exact ⟨rfl,rfl,.l rfl C rfl⟩
   · split at A
     · rename_i e _ _;split at A
       · rename_i l C;split at A
         · rename_i h' hn; cases A; exact ⟨rfl,rfl,.a e l rfl rfl C hn rfl⟩
         · cases A
       · cases A
     · split at A
       · rename_i v h' O; cases A; exact ⟨rfl,rfl,.c rfl (CA J L I M O)⟩
       · cases A
theorem Cl.nx {o:Op} {q:Rec} (h:Cl P G o q):q.hb.nx≤q.ha.nx:=by
 cases h with
 | p _ _ h=>rw [h]; exact aQ _
 | l _ _ h=>rw [h]; exact aQ _
 | a e l _ _ _ h _=>have :=kp h; omega
 | c _ h=>exact h.1
theorem oz.nx {ops:List aC} {o:aC} {q:Rec} {fr C:Tr AV} {h h':Hp} (A:oz P G n ops o q fr C h h'):h.nx≤h'.nx:=by
 rw [← A.hb,← A.ha];rcases A.run with ⟨_,_,h⟩ | ⟨_,_,_,h⟩
 · exact h.nx
 · rw [h]; exact aQ _
theorem CP (ad:Good P G ih) (ae:iJ P G X) (ac:gw P) (ag:∀ f args h v h',ih (.cl f args h)= .rv v h'→∃ fn c,P.funcs[f]? =some fn∧fn.body=some c) {ops:List aC} {ab:List Nat} :∀ {l:List aC} {i:Nat} {last:Option Nat} {fr C:Tr AV} {h E:Hp} {rs:List Rec},lx P G X ih n ops ab i last l fr h=some (rs,C,E)→
 ∃ (F:Nat→Tr AV) (H:Nat→Hp),F 0=fr∧H 0=h∧F l.length=C∧H l.length=E∧rs.length=l.length∧∀ k o q,l[k]? =some o→rs[k]? =some q→oz P G n ops o q (F k) (F<|k+1) (H k) (H<|k+1)
 | [],i,last,fr,C,h,E,rs,hr=>by
   simp only [lx,bK,ig] at hr;obtain ⟨rfl,rfl,rfl⟩:=hr;exact ⟨fun _=>fr,fun _=>h,U,U,U,U,U,fun k o q I=>by simp at I⟩
 | o::l,i,last,fr,C,h,E,rs,hr=>by
   have key:∀ (q:Rec) (A:Tr AV) (j:Nat) (la:Option Nat) (jy:List Rec),oz P G n ops o q fr A h q.ha→lx P G X ih n ops ab j la l A q.ha=some (jy,C,E)→rs=q::jy→
    ∃ (F:Nat→Tr AV) (H:Nat→Hp),F 0=fr∧H 0=h∧F (o::l).length=C∧H (o::l).length=E∧rs.length=(o::l).length∧∀ k M q,(o::l)[k]? =some M→rs[k]? =some q→oz P G n ops M q (F k) (F<|k+1) (H k) (H<|k+1):=by
    intro q A j la jy ar L ah;obtain ⟨F,H,h1,O,am,ao,ap,aq⟩:=CP ad ae ac ag L;refine ⟨fun k=>match k with | 0=>fr | k+1=>F k,fun k=>match k with | 0=>h | k+1=>H k,U,U,am,ao,by rw [ah]; simp [ap],fun k M q' I J=> ?_⟩;subst ah;cases k with
    | zero=>
      simp only [je,bK] at I J;subst I; subst J;simp only [h1,O]; exact ar
    | succ k=>exact aq k M q' (by simpa using I)<|by simpa using J
   simp only [lx] at hr;split at hr
   · rename_i V;split at hr
     · rename_i xs au;split at hr
       · rename_i q J;split at hr
         · rename_i A Z;split at hr
           · rename_i jy al O L;cases hr;obtain ⟨ai,aj,ak⟩:=KS ad ae ac ag J;exact key q A _ _ jy ⟨aj,U,Z,.inl ⟨V,by rw [ai]; exact au,ak⟩⟩ L U
           · cases hr
         · cases hr
       · cases hr
     · cases hr
   · rename_i V;split at hr
     · rename_i A Z;split at hr
       · rename_i jy al O L;cases hr;exact key ⟨.s,[],.bT [],h,h⟩ A _ _ jy ⟨U,U,Z,.inr ⟨V,U,U,U⟩⟩ L U
       · cases hr
     · cases hr
   · cases hr
structure Sq (P:ar) (G n:Nat) (ops:List aC) (rs:List Rec) (F:Nat→Tr AV) (H:Nat→Hp):Prop where
 len:rs.length=ops.length
 line:∀ k o q,ops[k]? =some o→rs[k]? =some q→oz P G n ops o q (F k) (F<|k+1) (H k) (H<|k+1)
 pair:∀ i j oi oj,ops[i]? =some oi→ops[j]? =some oj→j < i→uY ops (ir ops []) i j oi oj
 oI:∀ i o,ops[i]? =some o→∀ e∈o.after.toList,dF .any e=true→e.on < i
theorem Dd {fr C:Tr AV} {d:Option Nat} {v:AV} (A:fS n fr d v=some C) (t:Nat):dh C t=if d=some t then v else dh fr t:=by
 cases d with
 | none=>simp only [fS,bK] at A; subst A; simp
 | some d=>
   simp only [fS] at A;replace A:=aY A; obtain ⟨E,A⟩:=A;simp only [a0] at E;cases A;simp only [dh,Tr.kY _ _ _ _ E.2,bK];by_cases e:t=d
   · subst e; simp
   · rw [if_neg e,if_neg (fun x=>e x.symm)]
variable {ops:List aC} {rs:List Rec} {F:Nat→Tr AV} {H:Nat→Hp}
theorem Sq.get (s:Sq P G n ops rs F H) {i:Nat} {o:aC} (A:ops[i]? =some o):∃ q,rs[i]? =some q:=by
 have :=(cD.1 A).1;exact ⟨rs[i]'(by rw [s.len]; exact this),bC _⟩
theorem Sq.get' (s:Sq P G n ops rs F H) {i:Nat} {q:Rec} (A:rs[i]? =some q):∃ o,ops[i]? =some o:=by
 have :=(cD.1 A).1;exact ⟨ops[i]'(by rw [← s.len]; exact this),bC _⟩
theorem Sq.slot (s:Sq P G n ops rs F H) (t:Nat):∀ k,k≤ops.length→(∃ j o q,j < k∧ops[j]? =some o∧o.dst=some t∧rs[j]? =some q∧dh (F k) t=q.v)∨((∀ j o,j < k→ops[j]? =some o→o.dst≠some t)∧dh (F k) t=dh (F 0) t)
 | 0,_=> .inr ⟨fun j o h=>by omega,rfl⟩
 | k+1,hk=>by
   have A:ops[k]? =some (ops[k]'ab):=bC _;generalize ops[k]'ab=o at A;obtain ⟨q,L⟩:=s.get A;have V:=s.line k o q A L;rw [Dd V.set t];by_cases e:o.dst=some t
   · rw [if_pos e]; exact .inl ⟨k,o,q,mL _,A,e,L,rfl⟩
   · rw [if_neg e];rcases s.slot t k ab with ⟨j,J,q',h1,C,M,O,U⟩ | ⟨h1,C⟩
     · exact .inl ⟨j,J,q',ab,C,M,O,U⟩
     · refine .inr ⟨fun j J E I=> ?_,C⟩;rcases FK.1 E with E | rfl
       · exact h1 j J E I
       · rw [A] at I; cases I; exact e
def mQ (ops:List aC) (rs:List Rec) (f0:Tr AV) (Y:Nat→Prop) (fx:Tr AV):Prop := ∀ t,(∃ j o q,Y j∧ops[j]? =some o∧o.dst=some t∧rs[j]? =some q∧dh fx t=q.v)∨((∀ j o,Y j→ops[j]? =some o→o.dst≠some t)∧dh fx t=dh f0 t)
theorem mQ.set {f0 fx J:Tr AV} {Y:Nat→Prop} (O:mQ ops rs f0 Y fx) {i:Nat} {o:aC} {q:Rec} (L:ops[i]? =some o) (M:rs[i]? =some q) (h:fS n fx o.dst q.v=some J):mQ ops rs f0 (fun j=>Y j∨j=i) J:=by
 intro t;rw [Dd h t];by_cases e:o.dst=some t
 · rw [if_pos e]; exact .inl ⟨i,o,q,.inr rfl,L,e,M,rfl⟩
 · rw [if_neg e];rcases O t with ⟨j,I,q',h1,A⟩ | ⟨h1,A⟩
   · exact .inl ⟨j,I,q',.inl h1,A⟩
   · refine .inr ⟨fun j I C E=> ?_,A⟩;rcases C with C | rfl
     · exact h1 j I C E
     · rw [L] at E; cases E; exact e
theorem Lv {fr C:Tr AV} {d:Option Nat} {v:AV} (A:fS n fr d v=some C) (fx:Tr AV):∃ E,fS n fx d v=some E:=by
 cases d with
 | none=>exact ⟨fx,rfl⟩
 | some d=>
   simp only [fS] at A ⊢;replace A:=aY A; obtain ⟨I,A⟩:=A;rw [I]; exact ⟨_,rfl⟩
theorem Sq.Gb (s:Sq P G n ops rs F H) {Y:Nat→Prop} (ai:ow ops Y) {i:Nat} {o:aC} (Z:ops[i]? =some o) (hi:¬Y i) (hr:ow ops (fun j=>Y j∨j=i)) {fx:Tr AV} (ad:mQ ops rs (F 0) Y fx) {t:Nat} (ae:t∈o9 ops o):dh fx t=dh (F i) t:=by
 have ak:=(cD.1 Z).1;rcases s.slot t i ab with ⟨j,U,al,h1,J,O,ag,ah⟩ | ⟨h1,J⟩
 · have hp:=s.pair i j o U Z J h1;have aj:Y j:=by
    rcases hp.ap with hb | ⟨hb,_⟩
    · rcases (qo hr hb).2 (.inr rfl) with h | h
      · exact h
      · omega
    · exact absurd ae<|hb t O
   rcases ad t with ⟨C,M,q',I,A,L,V,ac⟩ | ⟨I,A⟩
   · have :C=j:=by
      rcases rT C j with E | he | E
      · exact absurd L<|(s.pair j C U M J A E).ne t O
      · exact he
      · exact absurd O<|(s.pair C j M U A J E).ne t L
     subst this;rw [ag] at V; cases V;rw [ac,ah]
   · exact absurd O<|I j U aj J
 · rcases ad t with ⟨C,M,q',I,A,L,V,ac⟩ | ⟨I,A⟩
   · exfalso;rcases rT C i with E | he | E
     · exact h1 C M E A L
     · subst he; exact hi I
     · rcases (s.pair C i M o A Z E).ap with hb | ⟨_,hb⟩
       · exact hi<|(qo ai hb).2 I
       · exact hb t L ae
   · rw [A,J]
theorem Kx {fr fx:Tr AV} {x:aW} (h:∀ t,x= .tmp t→dh fx t=dh fr t):ku G n fx x=ku G n fr x:=by
 cases x with
 | tmp t=>simp only [ku,h t rfl]
 | const v=>rfl
 | func f=>rfl
 | global g=>rfl
theorem Cx {fr fx:Tr AV} :∀ {l:List aW},(∀ t∈pC l,dh fx t=dh fr t)→kv G n fx l=kv G n fr l
 | [],_=>rfl
 | x::l,h=>by
   simp only [kv];rw [Kx (fr:=fr) (fx:=fx) fun t e=>h t (by subst e; simp [pC]),Cx (fr:=fr) (fx:=fx) (l:=l) fun t A=>h t (by cases x <;> simp [pC,A])]
theorem IL {fr fx:Tr AV} {g:Option (Nat×Bool)} (h:∀ t∈wu ops g,dh fx t=dh fr t):j0 n ops fx g=j0 n ops fr g:=by
 unfold j0;cases g with
 | none=>rfl
 | some p=>
   obtain ⟨j,want⟩:=p;simp only;cases hj:ops[j]? with
   | none=>rfl
   | some q=>
     simp only;cases hd:q.dst with
     | none=>rfl
     | some t=>
       simp only;rw [h t (by simp [wu,hj,hd])]
theorem Sq.done (s:Sq P G n ops rs F H) {Y:Nat→Prop} (ae:∀ j,j < ops.length→Y j) {fx:Tr AV} (ab:mQ ops rs (F 0) Y fx) (t:Nat):dh fx t=dh (F ops.length) t:=by
 rcases s.slot t ops.length (aQ _) with ⟨j,V,ag,h1,E,O,ac,ad⟩ | ⟨h1,E⟩
 · rcases ab t with ⟨C,L,q',I,A,J,M,Z⟩ | ⟨I,A⟩
   · have :C=j:=by
      rcases rT C j with U | he | U
      · exact absurd J<|(s.pair j C V L E A U).ne t O
      · exact he
      · exact absurd O<|(s.pair C j L V A E U).ne t J
     subst this;rw [ac] at M; cases M;rw [Z,ad]
   · exact absurd O<|I j V (ae j h1) E
 · rcases ab t with ⟨C,L,q',I,A,J,M,Z⟩ | ⟨I,A⟩
   · exact absurd J<|h1 C L (cD.1 A).1 A
   · rw [A,E]
theorem Sq.mono (s:Sq P G n ops rs F H) {i:Nat} :∀ {k:Nat},i≤k→k≤ops.length→(H i).nx≤(H k).nx
 | 0,h,_=>by have :i=0:=ab
             subst this; exact aQ _
 | k+1,h,hk=>by
   rcases dD k i with E | hle
   · have :i=k+1:=ab;subst this; exact aQ _
   · have A:ops[k]? =some (ops[k]'ab):=bC _;obtain ⟨q,C⟩:=s.get A;exact cn (s.mono hle ab) (s.line k _ q A C).nx
theorem Gf {e:av} {l:List AV} (ha:r9 P e=some l):dZ l=true∧∃ us:List ag,(∀ r,aM r l=some us)∧∀ (N:Fm) (σ:Nat→ag) (dst:Option Nat) (ty:av) (pos :String) (af:Array bQ) (g:Option (Nat×Bool)) (w:ah),
 (execOp (ev N σ) ⟨dst,.alloc e,ty,pos,af,g⟩).run P w= .ok (.value<|.pointer<|some ⟨w.heap.size,0,none⟩) {w with heap:=w.heap.push<|.cells us.toArray e (0,0)} :=by
 unfold r9 at ha;split at ha
 · rename_i J A;split at ha
   · rename_i L E;replace ha:=aY ha; obtain ⟨C,ha⟩:=ha;cases ha;refine ⟨C,J,fun r=>oW (r:=r) (fun v a=>ml 4) E,fun N σ dst ty pos af g w=> ?_⟩;unfold zeroOf at A;simp only [gM] at A;obtain ⟨i,hi,zv,I,rfl⟩:=A;simp [execOp,uu,zeroValue,dj hi,I,newVar,newRow]
   · cases ha
 · cases ha
end
end Go.Hb
namespace Go.Hb
section
variable {P:ar} {G n T:Nat} {ops:List aC} {rs:List Rec} {F:Nat→Tr AV} {H:Nat→Hp} {r0 r:Rn} {w0 w:ah} {h0:Hp} {Y:Nat→Prop} {lo:Nat}
structure HD (P:ar) (G T:Nat) (ops:List aC) (rs:List Rec) (H:Nat→Hp) (r0:Rn) (w0:ah) (h0:Hp) (Y:Nat→Prop) (lo:Nat) (r:Rn) (w:ah):Prop where
 hi:lo≤rs.length
 lc:∀ j q,rs[j]? =some q→q.k= .c→(Y j↔j < lo)
 la:∀ j q,rs[j]? =some q→q.k= .a→j < lo→Y j
 hr:HR P G r 0 (H lo) w
 new:∀ i,(H lo).nx≤i→i < T→r i=none∨∃ j q,Y j∧lo≤j∧rs[j]? =some q∧q.k= .a∧q.hb.nx=i
 lu:∀ j q,Y j→lo≤j→rs[j]? =some q→q.k= .a→∃ k,r q.hb.nx=some ⟨k,0,0⟩∧w0.heap.size≤k∧(∀ i o q',(H lo).t.get i=some o→r i=some q'→q'.ak≠k)∧
  ∃ e l us,cW q.hb (.cells l e 0 .x)=some q.ha∧(∀ r,aM r l=some us)∧dZ l=true∧w.heap[k]? =some (.cells us.toArray e (0,0))
 o5:∀ j j' q q' x x',Y j→lo≤j→rs[j]? =some q→q.k= .a→Y j'→lo≤j'→rs[j']? =some q'→q'.k= .a→r q.hb.nx=some x→r q'.hb.nx=some x'→x.ak=x'.ak→j=j'
 le:r0.le r
 md:Md (Fr G r0 h0) w0 w
 dY:∀ g,g≤G→∀ k,k < w0.heap.size→Fr g r (H lo) k→Fr g r0 h0 k
 out:∀ i,(H ops.length).nx≤i→r i=r0 i
theorem Sq.fresh (s:Sq P G n ops rs F H) {j:Nat} {q:Rec} (E:rs[j]? =some q) (C:q.k= .a):q.hb=H j∧q.ha=H (j+1)∧(H<|j+1).nx=(H j).nx+1:=by
 obtain ⟨o,I⟩:=s.get' E;have A:=s.line j o q I E;refine ⟨A.hb,A.ha,?_⟩;rw [← A.hb,← A.ha];rcases A.run with ⟨_,_,h⟩ | ⟨_,h,_,_⟩
 · cases h with
   | p h _ _=>rw [C] at h; cases h
   | l h _ _=>rw [C] at h; cases h
   | a e l _ _ _ h _=>exact kp h
   | c h _=>rw [C] at h; cases h
 · rw [C] at h; cases h
theorem Sq.alt (s:Sq P G n ops rs F H) {j i:Nat} {q q':Rec} (J:rs[j]? =some q) (E:q.k= .a) (A:rs[i]? =some q') (I:q'.k= .a) (V:j < i):q.hb.nx < q'.hb.nx:=by
 obtain ⟨h1,O,U⟩:=s.fresh J E;obtain ⟨C,L,M⟩:=s.fresh A I;have :=s.mono (i:=j+1) (k:=i) ab<|by have :=(cD.1 A).1; have :=s.len; omega
 rw [h1,C]; omega
theorem Sq.Gc (s:Sq P G n ops rs F H) {j i:Nat} {q q':Rec} (E:rs[j]? =some q) (A:q.k= .a) (I:rs[i]? =some q') (C:q'.k= .a) (he:q.hb.nx=q'.hb.nx):j=i:=by
 rcases rT j i with h | h | h
 · have :=s.alt E A I C h; omega
 · exact h
 · have :=s.alt I C E A h; omega
theorem HD.yy (A:HD P G T ops rs H r0 w0 h0 Y lo r w) {q:Rec} (U:rs[lo]? =some q) (he:H (lo+1)=H lo) (ac:q.k≠.c) (ha:q.k≠.a):HD P G T ops rs H r0 w0 h0 Y (lo+1) r w:=by
 have E:∀ j q',rs[j]? =some q'→(q'.k= .c∨q'.k= .a)→j≠lo:=fun j q' E ad e=>by
  subst e; rw [U] at E; cases E;rcases ad with h | h
  · exact ac h
  · exact ha h
 refine ⟨(cD.1 U).1,fun j q' h1 C=> ?_,fun j q' h1 C O=>A.la j q' h1 C (by have :=E j q' h1 (.inr C); omega),by rw [he]; exact A.hr,fun i h1 C=> ?_,fun j q' h1 C O Z=>by rw [he]; exact A.lu j q' h1 ab O Z,fun j ae ag ah x ai L V I J M aj=>A.o5 j ae ag ah x ai L ab I J M ab,A.le,A.md,by rw [he]; exact A.dY,A.out⟩
 · rw [A.lc j q' h1 C]; have :=E j q' h1 (.inl C); omega
 · rw [he] at h1;rcases A.new i h1 C with h | ⟨j,q',L,V,I,J,M⟩
   · exact .inl h
   · exact .inr ⟨j,q',L,by have :=E j q' I (.inr J); omega,I,J,M⟩
theorem HD.MF (s:Sq P G n ops rs F H) (A:HD P G T ops rs H r0 w0 h0 Y lo r w) {q:Rec} (L:rs[lo]? =some q) (ha:q.k= .a) (Z:Y lo):HD P G T ops rs H r0 w0 h0 Y (lo+1) r w:=by
 obtain ⟨f1,f2,f3⟩:=s.fresh L ha;obtain ⟨k,M,aA,aq,e,l,us,hn,ar,h1,hw⟩:=A.lu lo q Z (aQ _) L ha;rw [f1] at M;rw [f1,f2] at hn;unfold cW at hn;replace hn:=aY hn; obtain ⟨U,hn⟩:=hn;simp only [bK] at hn;have aB:(H<|lo+1).nx=(H lo).nx+1:=f3;refine ⟨(cD.1 L).1,fun j q' h1 E=> ?_,fun j q' h1 E ak=> ?_,?_,fun i h1 E=> ?_,fun j q' I ad C J=> ?_,fun j au aw ax x ay I ad C J O az=>A.o5 j au aw ax x ay I ab C J O ab,A.le,A.md,?_,A.out⟩
 · rw [A.lc j q' h1 E];have :j≠lo:=fun e=>by subst e; rw [L] at h1; cases h1; rw [ha] at E; cases E
   omega
 · rcases FK.1 ak with h | rfl
   · exact A.la j q' h1 E h
   · exact Z
 · rw [← hn];exact A.hr.put (r':=r) (w':=w) (q:=⟨k,0,0⟩) (Rn.le_refl r) U M (by rw [hw]; exact xG (ar r) h1) (fun _ _ _=>rfl) (fun j av q' _ am hr=>aq j av q' am hr) (lS _) fun _ _ ao=>absurd ao<|uQ _
 · rcases A.new i ab E with h | ⟨j,q',I,ad,C,J,O⟩
   · exact .inl h
   · refine .inr ⟨j,q',I,?_,C,J,O⟩;rcases dD lo j with h | h
     · exact h
     · have :j=lo:=ab;subst this;rw [L] at C; cases C;rw [f1] at O; omega
 · obtain ⟨ac,ae,ah,ai,aj⟩:=A.lu j q' I ab C J;refine ⟨ac,ae,ah,fun i o x hi V=> ?_,aj⟩;rw [← hn] at hi;simp only [Tr.kY _ _ _ _ U] at hi;split at hi
   · rename_i e; subst e;intro hb;rw [M] at V; cases V;have :=A.o5 lo j q q' _ _ Z (aQ _) L ha I ab C J (by rw [f1]; exact M) ae hb;omega
   · exact ai i o x hi V
 · intro g al ac ap ag;rw [← hn] at ag;rcases Fr.set U M (Rn.le_refl r) A.hr ag with h | h
   · simp only at h; omega
   · exact A.dY g al ac ap h
theorem HD.up (s:Sq P G n ops rs F H) (E:HD P G T ops rs H r0 w0 h0 Y lo r w) {q:Rec} (A:rs[lo]? =some q) (C:q.k≠.c) (ha:q.k= .a→Y lo):HD P G T ops rs H r0 w0 h0 Y (lo+1) r w:=by
 obtain ⟨o,J⟩:=s.get' A;have I:=s.line lo o q J A;have same:q.ha=q.hb→H (lo+1)=H lo:=fun h=>by rw [← I.hb,← I.ha,h]
 rcases I.run with ⟨_,_,h⟩ | ⟨_,h,_,h'⟩
 · cases h with
   | p h _ h'=>exact E.yy A (same h') C<|by rw [h]; intro h; cases h
   | l h _ h'=>exact E.yy A (same h') C<|by rw [h]; intro h; cases h
   | a e l h _ _ _ _=>exact E.MF s A h<|ha h
   | c h _=>exact absurd h C
 · exact E.yy A (same h') C<|by rw [h]; intro h; cases h
theorem HD.yz (s:Sq P G n ops rs F H) (A:HD P G T ops rs H r0 w0 h0 Y lo r w):∀ (i:Nat),lo≤i→i≤rs.length→(∀ j q,lo≤j→j < i→rs[j]? =some q→q.k≠.c∧(q.k= .a→Y j))→HD P G T ops rs H r0 w0 h0 Y i r w
 | 0,h,_,_=>by have :lo=0:=ab
               subst this; exact A
 | i+1,h,hi,hall=>by
   rcases dD i lo with E | hle
   · have :lo=i+1:=ab;subst this; exact A
   · have h':=HD.yz s A i hle ab fun j q a b c=>hall j q a ab c;have C:rs[i]? =some (rs[i]'ab):=bC _;exact h'.up s C (hall i _ hle (mL _) C).1 (hall i _ hle (mL _) C).2
theorem HD.skip (A:HD P G T ops rs H r0 w0 h0 Y lo r w) {i:Nat} {q:Rec} (ai:rs[i]? =some q) (ag:q.k≠.c) (ha:q.k≠.a):HD P G T ops rs H r0 w0 h0 (fun j=>Y j∨j=i) lo r w:=by
 have C:∀ j q',rs[j]? =some q'→(q'.k= .c∨q'.k= .a)→(Y j∨j=i)→Y j:=fun j q' C ah aj=>by
  rcases aj with h | rfl
  · exact h
  · rw [ai] at C; cases C;rcases ah with h | h
    · exact absurd h ag
    · exact absurd h ha
 refine ⟨A.hi,fun j q' h1 E=> ?_,fun j q' h1 E ae=> .inl (A.la j q' h1 E ae),A.hr,fun i h1 E=> ?_,fun j q' I J L M=>A.lu j q' (C j q' L (.inr M) I) J L M,fun j V Z ab x ak I J L M ac ad O U=>A.o5 j V Z ab x ak (C j Z L (.inr M) I) J L M (C V ab O (.inr U) ac) ad O U,A.le,A.md,A.dY,A.out⟩
 · rw [← A.lc j q' h1 E]; exact ⟨C j q' h1 (.inl E),.inl⟩
 · rcases A.new i h1 E with h | ⟨j,q',I,J⟩
   · exact .inl h
   · exact .inr ⟨j,q',.inl I,J⟩
theorem HR.grow {h:Hp} {r':Rn} {w':ah} (hr:HR P G r 0 h w) (hle:r.le r') (hw:∀ k,k < w.heap.size→w'.heap[k]? =w.heap[k]?):HR P G r' 0 h w':=by
 refine ⟨fun i o hi=> ?_,fun i j o J q q' hi I h1 A he=> ?_,fun i _ h=>absurd h (uQ _),hr.fi.le hle,hr.base⟩
 · obtain ⟨q,h1,A⟩:=hr.live i o hi;refine ⟨q,hle _ _ h1,?_⟩;rw [hw _ (hr.lt hi h1)];exact A.le hle
 · obtain ⟨x,C,_⟩:=hr.live i o hi;obtain ⟨L,E,_⟩:=hr.live j J I;rw [hle _ _ C] at h1; cases h1;rw [hle _ _ E] at A; cases A;exact hr.inj i j o J _ _ hi I C E he
theorem HD.early (s:Sq P G n ops rs F H) (A:HD P G T ops rs H r0 w0 h0 Y lo r w) (hT:(H ops.length).nx≤T) {i:Nat} {q:Rec} {e:av} {l:List AV} {us:List ag} (M:rs[i]? =some q) (V:q.k= .a) (aF:¬Y i) (hn:cW q.hb (.cells l e 0 .x)=some q.ha) (aR:∀ r,aM r l=some us) (h1:dZ l=true):
 r.le (r.ext q.hb.nx ⟨w.heap.size,0,0⟩)∧HD P G T ops rs H r0 w0 h0 (fun j=>Y j∨j=i) lo (r.ext q.hb.nx ⟨w.heap.size,0,0⟩) {w with heap:=w.heap.push<|.cells us.toArray e (0,0)} :=by
 obtain ⟨f1,f2,f3⟩:=s.fresh M V;have aP:i < ops.length:=by rw [← s.len]; exact (cD.1 M).1
 have aH:lo≤i:=by
  rcases dD i lo with h | h
  · exact absurd (A.la i q M V h) aF
  · exact h
 have m1:=s.mono aH<|Nat.le_of_lt aP;have aS:=s.mono (i:=i+1) (k:=ops.length) ab<|aQ _;have aL:r q.hb.nx=none:=by
  rw [f1];rcases A.new (H i).nx m1 ab with h | ⟨j,q',E,Z,I,ac,L⟩
  · exact h
  · have :=s.Gc I ac M V<|by rw [L,f1]
    subst this; exact absurd E aF
 have hle:=Rn.qQ (r:=r) (i:=q.hb.nx) ⟨w.heap.size,0,0⟩ aL;have aG:∀ k,k < w.heap.size→({w with heap:=w.heap.push<|.cells us.toArray e (0,0)} :ah).heap[k]? =w.heap[k]? :=fun k V=>by
  simp only [uj]; rw [if_neg ab]
 have live:∀ j o x,(H lo).t.get j=some o→(r.ext q.hb.nx ⟨w.heap.size,0,0⟩) j=some x→r j=some x:=fun j o x h1 aE=>by
  obtain ⟨ao,C,_⟩:=A.hr.live j o h1;rw [hle _ _ C] at aE; cases aE; exact C
 refine ⟨hle,A.hi,fun j q' C J=> ?_,fun j q' C J aj=> .inl (A.la j q' C J aj),A.hr.grow hle aG,fun am C J=> ?_,fun j q' E Z I ac=> ?_,fun j ay O az x ao E Z I ac L ap ad aq ar ai au=> ?_,Rn.le_trans A.le hle,Md.trans' A.md (J4 w _ fun _=>False) (fun _ _ h=>h.elim),fun g aN k V aK=> ?_,fun am aO=> ?_⟩
 · rw [← A.lc j q' C J];refine ⟨fun h=> ?_,.inl⟩;rcases h with h | rfl
   · exact h
   · rw [M] at C; cases C; rw [V] at J; cases J
 · by_cases he:am=q.hb.nx
   · exact .inr ⟨i,q,.inr U,aH,M,V,he.symm⟩
   · rw [Rn.jZ _ _ he];rcases A.new am C J with h | ⟨j,q',E,Z⟩
     · exact .inl h
     · exact .inr ⟨j,q',.inl E,Z⟩
 · rcases E with E | rfl
   · obtain ⟨k,C,J,aj,e',aI,aJ,aB,aC,aD,al⟩:=A.lu j q' E Z I ac;exact ⟨k,hle _ _ C,J,fun i o x hi ax=>aj i o x hi (live i o x hi ax),e',aI,aJ,aB,aC,aD,by rw [aG k (dq.1 al).1]; exact al⟩
   · rw [M] at I; cases I;refine ⟨w.heap.size,Rn.gQ _ _ _,A.md.size,fun i o x hi ax=> ?_,e,l,us,hn,aR,h1,by simp⟩;have :=A.hr.lt hi<|live i o x hi ax;omega
 · have dY:∀ j O x,Y j→lo≤j→rs[j]? =some O→O.k= .a→(r.ext q.hb.nx ⟨w.heap.size,0,0⟩) O.hb.nx=some x→r O.hb.nx=some x∧x.ak < w.heap.size:=fun j O x ae c2 c3 aw aA=>by
    obtain ⟨k,C,J,aj,e',aI,aJ,aB,aC,aD,al⟩:=A.lu j O ae c2 c3 aw;rw [hle _ _ C] at aA; cases aA;exact ⟨C,(dq.1 al).1⟩
   rcases E with E | rfl
   · obtain ⟨ae,c2⟩:=dY j O x E Z I ac ar;rcases L with L | rfl
     · obtain ⟨d1,d2⟩:=dY ay az ao L ap ad aq ai;exact A.o5 j ay O az x ao E Z I ac L ap ad aq ae d1 au
     · rw [M] at ad; cases ad;rw [Rn.gQ] at ai; cases ai;simp only at au; omega
   · rw [M] at I; cases I;rw [Rn.gQ] at ar; cases ar;rcases L with L | rfl
     · obtain ⟨d1,d2⟩:=dY ay az ao L ap ad aq ai;simp only at au; omega
     · rfl
 · obtain ⟨j,o,x,ae,c2,c3,aw⟩:=aK;exact A.dY g aN k V ⟨j,o,x,ae,c2,live j o x c2 c3,aw⟩
 · rw [Rn.jZ _ _ (by rw [f1]; omega)]; exact A.out am aO
theorem HD.I0 (s:Sq P G n ops rs F H) (A:HD P G T ops rs H r0 w0 h0 Y lo r w) (hT:(H ops.length).nx≤T) {q:Rec} (I:rs[lo]? =some q) (L:q.k= .c):HR P G r (H<|lo+1).nx (H lo) w:=by
 have V:lo < ops.length:=by rw [← s.len]; exact (cD.1 I).1
 have Z:=s.mono (i:=lo+1) (k:=ops.length) ab<|aQ _;refine ⟨A.hr.live,A.hr.inj,fun i h1 U=> ?_,A.hr.fi,A.hr.base⟩;rcases A.new i h1 ab with h | ⟨j,q',M,O,C,E,J⟩
 · exact h
 · exfalso;obtain ⟨f1,f2,f3⟩:=s.fresh C E;have :j≠lo:=fun e=>by subst e; rw [I] at C; cases C; rw [L] at E; cases E
   have :=s.mono (i:=lo+1) (k:=j) ab<|by have :=(cD.1 C).1; have :=s.len; omega
   rw [f1] at J; omega
theorem HD.Mv (s:Sq P G n ops rs F H) (A:HD P G T ops rs H r0 w0 h0 Y lo r w) {q:Rec} (ao:rs[lo]? =some q) (M:q.k= .c) {r':Rn} {w':ah} (st:St P G (H<|lo+1).nx r (H lo) w r' (H<|lo+1) w'):HD P G T ops rs H r0 w0 h0 (fun j=>Y j∨j=lo) (lo+1) r' w':=by
 have aJ:lo < ops.length:=by rw [← s.len]; exact (cD.1 ao).1
 have aF:=s.mono (i:=lo+1) (k:=ops.length) ab<|aQ _;have am:∀ j q',rs[j]? =some q'→q'.k= .a→j≠lo:=fun j q' h1 ac e=>by subst e; rw [ao] at h1; cases h1; rw [M] at ac; cases ac
 have O:∀ j q',rs[j]? =some q'→q'.k= .a→(Y j∨j=lo)→Y j:=fun j q' h1 ac aB=>aB.resolve_right<|am j q' h1 ac;refine ⟨(cD.1 ao).1,fun j q' C J=> ?_,fun j q' C J aj=> ?_,⟨st.hr.live,st.hr.inj,fun i _ h=>absurd h (uQ _),st.hr.fi,st.hr.base⟩,fun i C J=> ?_,fun j q' L ap E I=> ?_,fun j ad ae ag x aL L ap E I U aI V Z aq ar ax=> ?_,Rn.le_trans A.le st.le,Md.trans' A.md st.md (fun k M al=>A.dY G (aQ _) k M al),fun g aw k M al=>A.dY g aw k M (st.dY g aw k (mK M A.md.size) al),fun i hi=>(st.out i<|cn aF hi).trans<|A.out i hi⟩
 · rw [A.lc j q' C J]; omega
 · have :=am j q' C J;exact .inl<|A.la j q' C J ab
 · rw [st.out i C];rcases A.new i (cn st.nx C) J with h | ⟨j,q',L,ap,E,I,U⟩
   · exact .inl h
   · have :=am j q' E I;exact .inr ⟨j,q',.inl L,ab,E,I,U⟩
 · obtain ⟨k,C,J,aj,e',aE,aH,ay,az,aA,av⟩:=A.lu j q' (O j q' E I L) ab E I;have aC:=(dq.1 av).1;refine ⟨k,st.le _ _ C,J,fun i o x hi aD hb=> ?_,e',aE,aH,ay,az,aA,st.md.ak av fun ⟨i,o,x,_,c2,c3,ai⟩=>aj i o x c2 c3 ai⟩;obtain ⟨i2,aG,x2,_,c2,c3,ai⟩:=st.dY 0 (fw _) k aC ⟨i,o,x,fw _,hi,aD,hb⟩;exact aj i2 aG x2 c2 c3 ai
 · obtain ⟨k,C,_⟩:=A.lu j ae (O j ae E I L) ab E I;obtain ⟨aK,au,_⟩:=A.lu ad ag (O ad ag V Z U) ab V Z;rw [st.le _ _ C] at aq; cases aq;rw [st.le _ _ au] at ar; cases ar;exact A.o5 j ad ae ag _ _ (O j ae E I L) ab E I (O ad ag V Z U) ab V Z C au ax
theorem HD.done (s:Sq P G n ops rs F H) (E:HD P G T ops rs H r0 w0 (H 0) Y lo r w) (hT:(H ops.length).nx≤T) (I:∀ j,j < ops.length→Y j):St P G T r0 (H 0) w0 r (H ops.length) w:=by
 have A:=E.yz s ops.length (by have :=E.hi; rw [s.len] at this; exact this) (by rw [s.len]; exact aQ _) fun j q h1 C L=>⟨fun M=>by have :=(E.lc j q L M).1 (I j C); omega,fun _=>I j C⟩
 refine ⟨A.le,⟨A.hr.live,A.hr.inj,fun i h1 C=> ?_,A.hr.fi,A.hr.base⟩,s.mono (fw _) (aQ _),A.md,A.dY,A.out⟩;rcases A.new i h1 C with h | ⟨j,q',O,U,J,V,Z⟩
 · exact h
 · have :=(cD.1 J).1; have :=s.len; omega
theorem HD.start (s:Sq P G n ops rs F H) (hr:HR P G r0 T (H 0) w0) (A:∀ j,¬Y j):HD P G T ops rs H r0 w0 (H 0) Y 0 r0 w0:=
 ⟨fw _,fun j q _ _=>⟨fun h=>absurd h (A j),fun h=>by omega⟩,fun j q _ _ h=>by omega,⟨hr.live,hr.inj,fun i _ h=>absurd h (uQ _),hr.fi,hr.base⟩,fun i h1 C=> .inl (hr.new i h1 C),fun j q h=>absurd h (A j),fun j E q q' x I h=>absurd h (A j),Rn.le_refl _,Md.refl _ _,fun _ _ _ _ h=>h,fun _ _=>rfl⟩
end
end Go.Hb
namespace Go.Hb
section
variable {P:ar} {G n T:Nat} {ops:List aC} {rs:List Rec} {F:Nat→Tr AV} {H:Nat→Hp}
def Yl (listed:Array Bool) (j:Nat):Prop :=listed[j]? =some true
theorem F6 {listed:Array Bool} {i:Nat} (hi:i < listed.size):Yl (listed.setIfInBounds i true)=fun j=>Yl listed j∨j=i:=by
 funext j;apply propext;unfold Yl;rw [rB];by_cases e:i=j
 · subst e; simp [hi]
 · rw [if_neg e];exact ⟨.inl,fun h=>h.resolve_right fun x=>e x.symm⟩
theorem filter_le {p p':Nat→Bool} (h:∀ j,p' j=true→p j=true):∀ l:List Nat,(l.filter p').length≤(l.filter p).length
 | []=>aQ _
 | a::l=>by
   have :=filter_le h l;simp only [Fl];cases hp:p' a
   · cases p a
     · simpa using this
     · simp only [if_true,lJ,if_false,dC]; omega
   · rw [h a hp]; simp only [if_true,dC]; omega
theorem filter_lt {p p':Nat→Bool} (h:∀ j,p' j=true→p j=true) {i:Nat} (hp:p i=true) (A:p' i=false):∀ {l:List Nat},i∈l→(l.filter p').length < (l.filter p).length
 | a::l,hm=>by
   simp only [Fl];rcases ef.1 hm with rfl | hm
   · rw [hp,A];have :=filter_le h l;simp only [if_true,lJ,if_false,dC]; omega
   · have :=filter_lt h hp A hm;cases hq:p' a
     · cases p a
       · simpa using this
       · simp only [if_true,lJ,if_false,dC]; omega
     · rw [h a hq]; simp only [if_true,dC]; omega
def un (m:Nat) (listed:Array Bool):Nat:=((fX m).filter fun i=> !listed.getD i true).length
theorem ME {m:Nat} {listed:Array Bool} {i:Nat} (hm:i < m) (hi:listed[i]? =some false):un m (listed.setIfInBounds i true) < un m listed:=by
 have C:=(dq.1 hi).1;refine filter_lt (i:=i) (fun j A=> ?_) ?_ ?_ (gL.2 hm)
 · simp only [jB] at A ⊢;rw [iZ,rB] at A;rw [iZ];by_cases e:i=j
   · subst e; rw [if_pos rfl,if_pos C] at A; simp at A
   · rw [if_neg e] at A; exact A
 · simp [iZ,hi]
 · simp [iZ,C]
theorem KR {listed:Array Bool} {i:Nat} (J:listed.size=ops.length) (h:i∈dx .any ops.toArray listed):∃ o,ops[i]? =some o∧listed[i]? =some false∧∀ e∈o.after.toList,dF .any e=true→Yl listed e.on:=by
 unfold dx at h;rw [mI] at h;obtain ⟨h1,A⟩:=h;simp only [gL,eM] at h1;simp only [a0,jB,lO] at A;have C:ops[i]? =some ops[i]:=bC _;generalize ops[i]=o at C;rw [C] at A;simp only [fG,jh] at A;have I:listed[i]? =some (listed[i]'ab):=nU _;refine ⟨o,C,?_,fun e he hb=> ?_⟩
 · have :=A.1;rw [iZ,I] at this;rw [I]; simp at this; rw [this]
 · have E:=A.2;rw [Eu] at E;have :=E e<|by simpa using he
   rw [hb] at this;simp only [Bool.not_true,Bool.false_or] at this;unfold Yl;rw [iZ] at this;cases hx:listed[e.on]? with
   | none=>rw [hx] at this; simp at this
   | some b=>rw [hx] at this; simp at this; rw [this]
theorem CO (s:Sq P G n ops rs F H) {listed:Array Bool} (J:listed.size=ops.length) (h:dx .any ops.toArray listed= []):∀ j,j < ops.length→Yl listed j:=by
 intro j
 induction j using Nat.strongRecOn with
 | ind j ih=>
   intro E;have C:listed[j]? =some (listed[j]'ab):=nU _;cases hb:listed[j]'ab with
   | true =>unfold Yl; rw [C,hb]
   | false =>
     exfalso;have A:ops[j]? =some ops[j]:=bC _;generalize ops[j]=o at A;have :j∈dx .any ops.toArray listed:=by
      unfold dx;rw [mI];refine ⟨by simpa using E,?_⟩;simp only [a0,jB,lO,A,fG,jh];refine ⟨by rw [iZ,C,hb]; rfl,?_⟩;rw [Eu];intro e he;cases hbd:dF .any e
      · simp
      · have I:=s.oI j o A e (by simpa using he) hbd;have :=ih e.on I ab;unfold Yl at this;rw [iZ,this]; simp
     rw [h] at this; cases this
variable {r0:Rn} {w0:ah} {rr:Option Nat} {Dl:List Deferred} {Q:bu→Act→ah→Prop}
theorem HX (s:Sq P G n ops rs F H) (bm:ln P (ir ops []) rs 0 ops rs=true) (hT:(H ops.length).nx≤T) (aH:∀ r w σ,St P G T r0 (H 0) w0 r (H ops.length) w→ei r n (F ops.length) σ→Q .normal (act ⟨n,Dl,[],rr⟩ σ) w):
 ∀ (fuel:Nat) (listed:Array Bool) (lo:Nat) (fx:Tr AV) (σ:Nat→ag) (r:Rn) (w:ah),listed.size=ops.length→un ops.length listed≤fuel→ow ops (Yl listed)→mQ ops rs (F 0) (Yl listed) fx→HD P G T ops rs H r0 w0 (H 0) (Yl listed) lo r w→
   (lo=0∨∃ j q,lo=j+1∧rs[j]? =some q∧q.k= .c∧Yl listed j)→ei r n fx σ→wpAnyIn (fe rr) 0 P .any ops.toArray Q fuel listed (act ⟨n,Dl,[],rr⟩ σ) w:=by
 have fin:∀ (listed:Array Bool) (lo:Nat) (fx:Tr AV) (σ:Nat→ag) (r:Rn) (w:ah),(∀ j,j < ops.length→Yl listed j)→mQ ops rs (F 0) (Yl listed) fx→HD P G T ops rs H r0 w0 (H 0) (Yl listed) lo r w→ei r n fx σ→Q .normal (act ⟨n,Dl,[],rr⟩ σ) w:=by
  intro listed lo fx σ r w aT ad C M;refine aH r w σ (C.done s hT aT) fun i hi=> ?_;rw [← s.done aT ad i];exact M i hi
 intro fuel
 induction fuel with
 | zero=>
   intro listed lo fx σ r w aq a5 ay ad C aJ M;have a2:(fX ops.length).filter (fun i=> !listed.getD i true)= []:=List.length_eq_zero_iff.1<|Nat.le_zero.1 a5;have hr:dx .any ops.toArray listed= []:=by
    unfold dx;rw [List.filter_eq_nil_iff] at a2 ⊢;intro a ha;have :=a2 a<|by simpa using ha
    simp only [jB,Bool.not_eq_false,a0,not_and] at this ⊢;intro h; rw [this] at h; cases h
   exact ⟨hr,fin listed lo fx σ r w (CO s aq hr) ad C M⟩
 | succ fuel ih=>
   intro listed lo fx σ r w aq a5 ay ad C aJ M;refine ⟨fun hr=>fin listed lo fx σ r w (CO s aq hr) ad C M,fun i hi=> ?_⟩;obtain ⟨o,Z,a1,bd⟩:=KR aq hi;have bg:=(cD.1 Z).1;have ap:¬Yl listed i:=fun h=>by unfold Yl at h; rw [a1] at h; cases h
   obtain ⟨q,J⟩:=s.get Z;have ak:=s.line i o q Z J;have az:ow ops (fun j=>Yl listed j∨j=i):=by
    intro j av am ac e he hb;rcases am with am | rfl
    · exact .inl<|ay j av am ac e he hb
    · rw [Z] at ac; cases ac; exact .inl<|bd e he hb
   have ax:=F6 (listed:=listed) (i:=i) ab;have bt:(listed.setIfInBounds i true).size=ops.length:=by simpa using aq
   have bu:un ops.length (listed.setIfInBounds i true)≤fuel:=by have :=ME bg a1; omega
   have aS:∀ t∈o9 ops o,dh fx t=dh (F i) t:=fun t ar=>s.Gb ay Z ap az ad ar;obtain ⟨a6,a4⟩:=Lv ak.set fx;have br:=ad.set Z J a4;have next :∀ (au:Nat) (r':Rn) (u:ag) (w':ah),r.le r'→den r' q.v=some u→HD P G T ops rs H r0 w0 (H 0) (fun j=>Yl listed j∨j=i) au r' w'→(au=0∨∃ j q,au=j+1∧rs[j]? =some q∧q.k= .c∧(Yl listed j∨j=i))→
    wpAnyIn (fe rr) 0 P .any ops.toArray Q fuel (listed.setIfInBounds i true) ((act ⟨n,Dl,[],rr⟩ σ).put o.dst u) w':=by
    intro au r' u w' hle hu aF bh;rw [eO];refine ih _ au a6 _ r' w' bt bu ?_ ?_ ?_ ?_ (pq a4 (M.le hle) hu)
    · rw [ax]; exact az
    · rw [ax]; exact br
    · rw [ax]; exact aF
    · rcases bh with h | ⟨j,q,h1,I,V,aj⟩
      · exact .inl h
      · exact .inr ⟨j,q,h1,I,V,by rw [ax]; exact aj⟩
   have aA:lo=0∨∃ j q,lo=j+1∧rs[j]? =some q∧q.k= .c∧(Yl listed j∨j=i):=aJ.imp id fun ⟨j,q,h1,I,V,aj⟩=>⟨j,q,h1,I,V,.inl aj⟩
   have aW:=IL (n:=n) (ops:=ops) (g:=o.guard) (fr:=F i) (fx:=fx) fun t ar=>aS t<|List.mem_append_left _ ar;have bn:=Cx (G:=G) (n:=n) (l:=gp o.op) (fr:=F i) (fx:=fx) fun t ar=>aS t<|List.mem_append_right _ ar;have bp:=Cu bm;have aB:=bp.2 i o q Z J;rw [cz] at aB;show wpOpIn (fe rr) 0 P ops.toArray Q i _ _ w;unfold wpOpIn;rw [lO,Z];show if _ then _ else _
   rcases ak.run with ⟨aG,bx,L⟩ | ⟨aG,aZ,bw,bE⟩
   · rw [if_pos (wq (N:=⟨n,Dl,[],rr⟩) (aW.trans aG) M)];have aC:=tl (N:=⟨n,Dl,[],rr⟩) C.hr.fi M<|bn.trans bx;have bo:=ak.set;obtain ⟨d,op,ty,pos,af,g⟩:=o;simp only at aC L next aB
     cases L with
     | p E O aO=>
       have aL:∀ c,op≠.defer c:=fun c e=>by subst e; simp [np] at O
       obtain ⟨u,h1,I⟩:=Cz (N:=⟨n,Dl,[],rr⟩) (dst:=d) (ty:=ty) (pos :=pos) (af:=af) (g:=g) O aC;exact uf aL (.inl<|I w)<|next lo r u w (Rn.le_refl r) h1 (C.skip J (by rw [E]; intro h; cases h)<|by rw [E]; intro h; cases h) aA
     | l E O aO=>
       have aL:∀ c,op≠.defer c:=fun c e=>by subst e; simp [jv] at O
       have aE:=Ct<|aB.1 E;have bi:jv P op q.xs (H lo)=some q.v:=by
        rcases dD i lo with aK | aX
        · rcases aJ with h0 | ⟨j,A,h1,I,V,aj⟩
          · omega
          · have ao:=(aE j A I).1 V;rw [cz] at ao;have aY:¬j < i:=ab;have bF:j≠i:=fun e=>by subst e; exact ap aj
            rcases ao.2 aY with hb | hb
            · exact absurd ((qo ay hb).2 aj) ap
            · obtain ⟨av,ac⟩:=s.get' I;rw [(s.line j av A ac I).ha,← h1] at hb;exact hb
        ·
         have aP:∀ (m:Nat),lo≤m→m≤i→(∀ j A,lo≤j→j < m→rs[j]? =some A→A.k≠.c)→H m=H lo:=by
          intro m
          induction m with
          | zero=>intro h _ _; have :lo=0:=ab
                  subst this; rfl
          | succ m aN=>
            intro h1 I V;rcases dD m lo with aK | hle
            · have :lo=m+1:=ab;subst this; rfl
            · have hm:=aN hle ab fun j A a b c=>V j A a ab c;have a3:ops[m]? =some (ops[m]'ab):=bC _;obtain ⟨al,aM⟩:=s.get a3;have aI:=s.line m _ al a3 aM;have bl:=V m al hle (mL _) aM;have bj:al.k≠.a:=fun ha=>by
               have :=(aE m al aM).2 ha;omega
              have he:al.ha=al.hb:=by
               rcases aI.run with ⟨_,_,L⟩ | ⟨_,_,_,L⟩
               · cases L with
                 | p _ _ h=>exact h
                 | l _ _ h=>exact h
                 | a e l h _ _ _ _=>exact absurd h bj
                 | c h _=>exact absurd h bl
               · exact L
              rw [← aI.ha,he,aI.hb,hm]
         by_cases hex:∃ j A,lo≤j∧j < i∧rs[j]? =some A∧A.k= .c
         ·
          have first :∀ (m:Nat),lo≤m→m≤i→(∃ j A,lo≤j∧j < m∧rs[j]? =some A∧A.k= .c)→∃ j A,lo≤j∧j < i∧rs[j]? =some A∧A.k= .c∧∀ ae q',lo≤ae→ae < j→rs[ae]? =some q'→q'.k≠.c:=by
           intro m
           induction m with
           | zero=>rintro _ _ ⟨j,_,_,h,_⟩; omega
           | succ m aN=>
             intro h1 I ⟨j,A,aD,aR,ai,aw⟩;by_cases hex:∃ j A,lo≤j∧j < m∧rs[j]? =some A∧A.k= .c
             · obtain ⟨ae,bB,a7,a8,a9,ba⟩:=hex;exact aN ab ab ⟨ae,bB,a7,a8,a9,ba⟩
             · refine ⟨j,A,aD,ab,ai,aw,fun ae q' a b c d=>hex ⟨ae,q',a,ab,c,d⟩⟩
          obtain ⟨j,A,aD,aR,ai,aw,bb⟩:=first i aX (aQ _) hex
          have ao:=(aE j A ai).1 aw;rw [cz] at ao;rcases ao.1 aR with hb | hb
          · rcases (qo az hb).2 (.inr rfl) with h | h
            · have :=(C.lc j A ai aw).1 h; omega
            · omega
          · obtain ⟨av,ac⟩:=s.get' ai;rw [(s.line j av A ac ai).hb,aP j aD ab bb] at hb;exact hb
         · have :=aP i aX (aQ _) fun j A a b c d=>hex ⟨j,A,a,b,c,d⟩;rw [← this,← ak.hb]; exact O
       obtain ⟨u,h1,I⟩:=Cy (N:=⟨n,Dl,[],rr⟩) (dst:=d) (ty:=ty) (pos :=pos) (af:=af) (g:=g) C.hr bi aC;exact uf aL (.inl I)<|next lo r u w (Rn.le_refl r) h1 (C.skip J (by rw [E]; intro h; cases h)<|by rw [E]; intro h; cases h) aA
     | a e l E O aO bz bA=>
       subst O;obtain ⟨h1,us,bv,bq⟩:=Gf aO;obtain ⟨hle,aF⟩:=C.early s hT J E ap bz bv h1;refine uf (fun c e=>by cases e) (.inl<|bq ⟨n,Dl,[],rr⟩ σ d ty pos af g w)<|next lo _ _ _ hle ?_ aF aA
       rw [bA];simp only [den,Rn.gQ,cz]
     | c E O=>
       have bc:=Cr<|aB.2 E;have aK:lo≤i:=by
        rcases dD i lo with h | h
        · exact absurd ((C.lc i q J E).2 h) ap
        · exact h
       have aU:∀ j A,j < i→rs[j]? =some A→(A.k= .c∨A.k= .a)→Yl listed j:=fun j A aY am aH=>by
        have hb:=bc j A am aH ab;rw [cz] at hb;rcases (qo az hb).2 (.inr rfl) with h | h
        · exact h
        · omega
       have aV:=C.yz s i aK (by rw [s.len]; omega) fun j A a b c=>⟨fun L=>by have :=(C.lc j A c L).1 (aU j A b c<|.inl L); omega,fun ha=>aU j A b c<|.inr ha⟩
       have bf:=aV.I0 s hT J E;obtain ⟨bG,s1⟩:=O;rw [ak.hb,ak.ha] at s1;refine s1 _ r w ⟨n,Dl,[],rr⟩ σ d ty pos af g _ Q (aQ _) bf aC fun r' u w' hu bo=> ?_;exact next (i+1) r' u w' bo.le hu (aV.Mv s J E bo)<|.inr ⟨i,q,U,J,E,.inr U⟩
   · rw [if_neg (by rw [Bs (N:=⟨n,Dl,[],rr⟩) (aW.trans aG) M]; simp)];refine ⟨fun f _=>ki _ f,next lo r undef w (Rn.le_refl r) (by rw [bw]; exact iL r) (C.skip J (by rw [aZ]; intro h; cases h)<|by rw [aZ]; intro h; cases h) aA⟩
theorem HU {X:Xt} {ih:Tk→Rs} (ad:Good P G ih) (ae:iJ P G X) (ac:gw P) (ag:∀ f args h v h',ih (.cl f args h)= .rv v h'→∃ fn c,P.funcs[f]? =some fn∧fn.body=some c) (hm:P.follows .mixedOrders=true):zn P G X ih:=by
 intro rd n id ops fr D h;show match sA P G X ih n ops fr D h with
  | .cd e Z E h'=>dy P G rd n (fun rr Q a w=>(EO id ⟨ops⟩ true).wpIn (fe rr) 0 P Q a w) fr D h e Z E h'
  | .no=>True
  | _=>False
 have ai:sA P G X ih n ops fr D h=cond (oD ops (ir ops []) 0 ops) (match lx P G X ih n ops (ir ops []) 0 none ops fr h with
  | some (rs,fr,h)=>cond (ln P (ir ops []) rs 0 ops rs) (.cd .bD fr D h) .no
  | none=> .no) .no:=rfl
 rw [ai];cases hc1:oD ops (ir ops []) 0 ops
 · exact trivial
 · rw [cond_true];cases hrec:lx P G X ih n ops (ir ops []) 0 none ops fr h with
   | none=>exact trivial
   | some x=>
     obtain ⟨rs,aq,ar⟩:=x;simp only;cases hok:ln P (ir ops []) rs 0 ops rs
     · exact trivial
     · rw [cond_true];obtain ⟨F,H,I,J,L,M,O,V⟩:=CP ad ae ac ag hrec;have s:Sq P G n ops rs F H:=⟨O,V,fun i j ao ap hi A au=>by
        have :=(vk hc1 i ao hi).2 j ap A ab;rwa [cz] at this,fun i o am=>by
        have :=AG (vk hc1 i o am).1;rwa [cz] at this⟩
       subst I; subst J; subst L; subst M;refine ⟨s.mono (fw _) (aQ _),fun T r w σ Dl rr Q hT hr aj ah av al=> ?_⟩;refine wpIn_region_any hm ?_;have C:∀ j,¬Yl (Array.replicate ops.length false) j:=fun j A=>by
        unfold Yl at A;rw [Array.getElem?_replicate] at A;split at A <;> cases A
       refine HX s hok hT (r0:=r) (w0:=w.drew) (fun r' w' σ' st ak=>al r' w' σ' Dl st.drew ak<|mV st.le ah) _ _ 0 (F 0) σ r w.drew (by simp) ?_ (fun j o A=>absurd A<|C j) (fun t=> .inr ⟨fun j o A=>absurd A (C j),U⟩) (HD.start s hr.drew C) (.inl U) aj;unfold un;exact cn (List.length_filter_le _ _)<|by simp
end
end Go.Hb
namespace Go.Hb
section
variable {P:ar} {G:Nat} {X:Xt} {w:ah}
theorem NG {f:Nat} (E:∀ v w,(callFunc f #[v]).run P w= .ok (.value v) w) {xs:List AV} {h h':Hp} {v:AV} (he:yL xs h=some (v,h')):h.nx≤h'.nx∧∀ (T:Nat) (r:Rn) (w:ah) (us:List ag),h'.nx≤T→HR P G r T h w→aM r xs=some us→
 ∃ r' u w',den r' v=some u∧(callFunc f us.toArray).run P w= .ok (.value u) w'∧St P G T r h w r' h' w':=by
 unfold yL at he;split at he
 · cases he;refine ⟨aQ _,fun T r w us hT hr C=> ?_⟩;obtain ⟨u,I,rfl,h1,A⟩:=dW C;obtain rfl :=kh A;exact ⟨r,u,w,h1,E u w,St.refl hr⟩
 · cases he
theorem Bz {c:Nat} (C:c < 256):∀ (l:List UInt8) (i:Nat),qL c l i=if l.idxOf (e9 c) < l.length then kI (i+l.idxOf (e9 c)) else -1
 | [],i=>by simp [qL]
 | b::l,i=>by
   have E:(e9 c).toNat=c:=by simp; omega
   simp only [qL,List.idxOf_cons];cases hb:aP b.toNat c
   · have I:(b==e9 c)=false :=by
      cases A:(b==e9 c)
      · rfl
      · have :=eq_of_beq A;subst this;rw [E] at hb; simp at hb
     rw [I];simp only [cond_false,dC,Bz C l (i+1)];by_cases h1:l.idxOf (e9 c) < l.length
     · rw [if_pos h1,if_pos ab];congr 1; omega
     · rw [if_neg h1,if_neg ab]
   · have :=bM hb;have A:(b==e9 c)=true :=by
      rw [← this]; simp
     rw [A];simp
theorem NH {f:Nat} (O:∀ l c w,(callFunc f #[str l,.int .u8 (FT c)]).run P w= .ok (.value<|.int .i64<|k0 c l) w) {xs:List AV} {h h':Hp} {v:AV} (he:yM xs h=some (v,h')):h.nx≤h'.nx∧∀ (T:Nat) (r:Rn) (w:ah) (us:List ag),h'.nx≤T→HR P G r T h w→aM r xs=some us→
 ∃ r' u w',den r' v=some u∧(callFunc f us.toArray).run P w= .ok (.value u) w'∧St P G T r h w r' h' w':=by
 unfold yM at he;split at he
 · rename_i l c;replace he:=aY he; obtain ⟨A,he⟩:=he;have A:=cB.1 A;split at he
   · rename_i ab hm;cases he;refine ⟨aQ _,fun T r w us hT hr M=> ?_⟩;obtain ⟨u,V,rfl,h1,E⟩:=dW M;obtain ⟨U,Z,rfl,I,J⟩:=dW E;obtain rfl :=kh J;obtain rfl :=gP h1;obtain rfl :=cQ I;have L:(e9 c).toNat=c:=by simp; omega
     have C:=O l (e9 c) w;rw [L] at C;refine ⟨r,_,w,?_,C,St.refl hr⟩;rw [Bz A l 0] at hm;simp only [cz] at hm;have :k0 (e9 c) l=if l.idxOf (e9 c) < l.length then kI (l.idxOf<|e9 c) else -1:=rfl
     rw [← this] at hm;rw [fP] at hm;cases hm;simp only [den]
   · cases he
 · cases he
def x2 (a b:Nat):Xt:=fun f=>cond (aP f a) (some yL)<|cond (aP f b) (some yM) none
theorem NF {a b:Nat} (h1:∀ v w,(callFunc a #[v]).run P w= .ok (.value v) w) (C:∀ l c w,(callFunc b #[str l,.int .u8 (FT c)]).run P w= .ok (.value<|.int .i64<|k0 c l) w):iJ P G (x2 a b):=by
 intro f e he xs h v h' A;unfold x2 at he;cases ha:aP f a
 · rw [ha] at he;simp only [cond_false] at he;cases hb:aP f b
   · rw [hb] at he; cases he
   · rw [hb] at he;cases he;have :=bM hb;subst this;exact NH C A
 · rw [ha] at he;cases he;have :=bM ha;subst this;exact NG h1 A
theorem Hj (h:P.funcs.toList.all (fun fn=> !(fn.name== "runtime.NumGoroutine") || fn.body.isNone)=true):gw P:=by
 intro f fn c A hb;have hm:fn∈P.funcs.toList:=by
  rw [dq] at A;obtain ⟨C,rfl⟩:=A;simp
 have :=List.all_eq_true.1 h fn hm;rw [hb] at this;simp only [Option.isNone_some,Bool.or_false,jB] at this;exact vi A this<|by rw [hb]; rfl
def sH (G T:Nat) (E:Nat→Nat):List Nat→Tr AO
 | []=> .nil
 | g::l=>(sH G T E l).set g<|.cells [.fC T (.ptr (G+g) 0)] (E g) 0 .x
theorem q9 {T:Nat} {E:Nat→Nat} :∀ {l:List Nat},(∀ g∈l,aE g cj=true)→∀ {i:Nat} {o:AO},(sH G T E l).get i=some o→i∈l∧o= .cells [.fC T (.ptr (G+i) 0)] (E i) 0 .x
 | [],_,i,o,h=>by simp only [sH] at h; cases h
 | g::l,hl,i,o,h=>by
   simp only [sH] at h;rw [Tr.kY _ _ _ _ (hl g<|ie)] at h;split at h
   · rename_i e; subst e; cases h; exact ⟨ie,rfl⟩
   · obtain ⟨h1,A⟩:=q9 (fun g C=>hl g<|ic _ C) h;exact ⟨ic _ h1,A⟩
def cP (T:Nat) (l:List Nat) (w:ah):Prop := ∀ g,g∈l→∃ (a:Addr) (e:Nat),a.spot=none∧w.heap[g]? =some (.cells #[.iface T (.pointer<|some a)] e (0,0))
theorem cP.mono {T:Nat} {l:List Nat} {w w':ah} {F:Nat→Prop} (h:cP T l w) (hm:Md F w w') (E:∀ g∈l,¬F g):cP T l w':=fun g A=>by
 obtain ⟨a,e,h1,C⟩:=h g A;exact ⟨a,e,h1,hm.ak C<|E g A⟩
theorem HR.xZ {T:Nat} {l:List Nat} (I:∀ g∈l,g < G) (ah:G≤1000) (h:cP T l w):∃ (E:Nat→Nat) (r:Rn),∀ O,HR P G r O ⟨sH G T E l,G+G⟩ w:=by
 classical
 let A:Nat→Addr:=fun g=>if C:g∈l then (h g C).choose else ⟨0,0,none⟩
 let E:Nat→Nat:=fun g=>if C:g∈l then (h g C).choose_spec.choose else 0
 have ac:∀ g,g∈l→(A g).spot=none∧w.heap[g]? =some (.cells #[.iface T (.pointer<|some<|A g)] (E g) (0,0)):=fun g C=>by
  have :=(h g C).choose_spec.choose_spec;simp only [A,E,dif_pos C];exact this
 let r:Rn:=fun i=>if i < G then some ⟨i,0,0⟩ else if i < G+G then some ⟨(A<|i - G).block,(A<|i - G).off,0⟩ else none
 have J:∀ i,i < G→r i=some ⟨i,0,0⟩:=fun i hi=>if_pos hi;have ag:∀ g,g < G→r (G+g)=some ⟨(A g).block,(A g).off,0⟩:=fun g C=>by
  show (if G+g < G then _ else _)=_;rw [if_neg ab,if_pos ab,show G+g - G=g from by omega]
 have M:∀ g∈l,aE g cj=true :=fun g C=>cB.2 (by have :=I g C; have :cj=1048574:=rfl; omega);refine ⟨E,r,fun O=>⟨fun i o hi=> ?_,fun i j o ai q q' hi ad h1 L he=> ?_,fun i h1 L=> ?_,fun g C=>⟨0,J g C⟩,Nat.le_add_right _ _⟩⟩
 · obtain ⟨hm,rfl⟩:=q9 M hi;have U:=I i hm;obtain ⟨V,Z⟩:=ac i hm;refine ⟨⟨i,0,0⟩,J i U,?_⟩;rw [Z];refine xG (us:= [.iface T (.pointer<|some<|A i)]) ?_ rfl;have e:(⟨(A i).block,(A i).off,none⟩:Addr)=A i:=by
    have :A i=⟨(A i).block,(A i).off,(A i).spot⟩:=rfl;rw [this,V]
   simp only [aM,den,ag i U,lQ,e]
 · obtain ⟨hm,rfl⟩:=q9 M hi;obtain ⟨ae,rfl⟩:=q9 M ad;rw [J i (I i hm)] at h1;rw [J j (I j ae)] at L;cases h1; cases L;exact he
 · show (if i < G then _ else _)=_;simp only at h1;rw [if_neg ab,if_neg ab]
theorem St.wk {T C:Nat} {E:Nat→Nat} {l:List Nat} {r r':Rn} {h':Hp} {w':ah} (A:∀ g∈l,g < G) (M:G≤1000) (st:St P G C r ⟨sH G T E l,G+G⟩ w r' h' w'):Wk w w':=by
 refine ⟨st.md.os,st.md.output,st.md.size,fun k L _=>st.md.dM k L fun ⟨i,o,q,h1,I,_⟩=> ?_⟩;obtain ⟨hm,_⟩:=q9 (fun g J=>cB.2 (by have :=A g J; have :cj=1048574:=rfl; omega)) I;have :=A i hm;omega
end
end Go.Hb
end
