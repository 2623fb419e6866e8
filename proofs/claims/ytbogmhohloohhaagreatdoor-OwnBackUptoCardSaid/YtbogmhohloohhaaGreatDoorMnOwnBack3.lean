/-
  Walks and plain laws that the law rests on, laid together. No conditions but those that each theorem names.
-/
import Derived.Test.YtbogmhohloohhaaGreatDoorMnOwnBack2
set_option linter.unusedVariables false
open Array renaming all_eq_true_iff_forall_mem→AW,foldl_toList→AX,getD_eq_getD_getElem?→gU,getElem?_eq_getElem→mh,getElem?_eq_some_iff→bI,getElem?_modify→rB,getElem?_push→rC,getElem?_setIfInBounds→pb,getElem?_setIfInBounds_ne→kS,getElem?_setIfInBounds_self_of_lt→mi,getElem?_toList→nM,length_toList→mj,range→kf,toList_inj→rE,toList_map→gv,toList_modify→pc,toList_push→rF
open BitVec renaming ofInt→gw
open Bool renaming and_eq_true→aU,false_eq_true→pd,noConfusion→dn,not_eq_true'→jy,or_eq_true→ml,or_eq_true_iff→A1
open Go.Builtin renaming append_→iQ,clear_→rH,delete_→nQ,firstCells→rI,zeroCells→A3
open Go.Calls renaming mono→gy
open Go renaming Code→bG,Edge→bB,Exit→aK,IntKind→bc,Oper→aq,Operand→az,Program→ak,TypeId→aj,Value→ab,World→ah
open Go.Code renaming region→A6
open Go.Deferred renaming ofValue→kg
open Go.Exit renaming inBlock→Bc
open Go.Fence renaming wide→eC
open Go.FrameMode renaming noConfusion→Be
open Go.Instr renaming alloc→rJ,buildSlice→rK,fill→iw,keyThatStays→ph,mapUpdate→nR
open Go.Lib renaming run_unsafeString_none→Bp
open Go.Op renaming equal→kU,equalIn→gC
open Go.Oper renaming semAt_eq→po,uponIn→nW
open Go.Region renaming binds→c9,ready→dB,wanted→jB
open Go.Result renaming andThen_ok→fw
open Go.Sem renaming run→iR,run_bind→fT,run_pure→iS
open Go.World renaming freeze→kh,putObj→Bw,putObj_heap_other→kW,putObj_heap_same→px
open Int renaming natCast_nonneg→eK,natCast_pos→Bx,ofNat→jE,toNat_natCast→Bz
open List.Sublist renaming map→vM
open List renaming append_assoc→kX,eq_nil_of_length_eq_zero→iU,ext_getElem?→pz,filter_cons→rS,flatten_cons→nX,getD_eq_getElem?_getD→cH,getElem?_append_left→fy,getElem?_append_right→fA,getElem?_cons_succ→fU,getElem?_cons_zero→fV,getElem?_drop→gV,getElem?_eq_getElem→bW,getElem?_eq_none→mB,getElem?_eq_some_iff→cy,getElem?_map→eX,getElem?_take→gW,getElem?_toArray→ki,length→rW,length_append→bK,length_cons→bZ,length_drop→gX,length_eq_one_iff→pC,length_nil→nY,length_take→cm,mapM_cons→BR,map_append→mC,map_cons→da,map_map→rX,mem_append→eL,mem_cons→db,mem_cons_of_mem→iV,mem_cons_self→ix,mem_filter→BU,mem_map→dO,mem_of_getElem?→jF,mem_of_mem_drop→rZ,mem_of_mem_take→r6,mem_range→BV,nodup_cons→mE,range→kj,range'→kY,replicate→dT,replicate_succ→B3,size_toArray→dP
open List.cons renaming injEq→iT
open Nat renaming add_assoc→eY,add_comm→B9,add_mul→kZ,add_zero→iX,beq→aB,ble→aG,ble_eq→pF,ble_eq_true_of_le→vX,blt→au,eq_of_beq_eq_true→bF,le_of_ble_eq_true→bp,le_refl→aO,le_succ→km,le_trans→bX,lt_of_lt_of_le→k9,lt_or_ge→dU,lt_succ_iff_lt_or_eq→Cc,lt_succ_self→kn,lt_trichotomy→pG,mul_le_mul_right→vZ,not_lt_zero→sc,pos_of_ne_zero→Ce,pow_succ→se,succ_le_iff→pI,succ_pos→Cg,testBit→pJ,zero_add→bS,zero_le→n6,zero_mul→n7
open Option renaming getD_none→n8,getD_some→gZ,map_eq_some_iff→fB,map_some→dg
open Option.some renaming inj→et,injEq→aY
open Prod renaming fst→bN,snd→lf
open Prod.mk renaming injEq→jG
open UInt8 renaming lt_iff_toNat_lt→Cj,ofNat→ee,toNat→Cm,toNat_inj→Cn
open Go.Proofs.Tryz
open Go.RowKit

section
namespace Go.Hb
inductive Tr (α:Type) | nil | nd (l:Tr α) (v:Option α) (r:Tr α)
def Tr.get {α:Type} :Tr α→Nat→Option α
 | .nil,_=>none
 | .nd _ v _,0=>v
 | .nd l _ r,n+1=>cond (aB (n % 2) 0) (l.get<|n / 2)<|r.get<|n / 2
def Tr.put {α:Type} (v:Option α):Nat→Tr α→Nat→Tr α
 | 0,t,_=>t
 | _+1,.nil,0=> .nd .nil v .nil
 | _+1,.nd l _ r,0=> .nd l v r
 | k+1,.nil,n+1=>cond (aB (n % 2) 0) (.nd (Tr.put v k .nil<|n / 2) none .nil)<|.nd .nil none<|Tr.put v k .nil<|n / 2
 | k+1,.nd l u r,n+1=>cond (aB (n % 2) 0) (.nd (Tr.put v k l<|n / 2) u r)<|.nd l u<|Tr.put v k r<|n / 2
theorem Tr.get_nil {α:Type} (n:Nat):(Tr.nil:Tr α).get n=none:=by unfold Tr.get; rfl
theorem An {n:Nat} {b:Bool} (h:aB (n % 2) 0=b):n % 2=cond b 0 1:=by
 cases b
 · have :n % 2≠0:=fun e=>by rw [e] at h; cases h
   simp only [cond_false]; omega
 · exact bF h
theorem rj {n m:Nat} {b:Bool} (hn:aB (n % 2) 0=b) (hm:aB (m % 2) 0=b) (e:m / 2=n / 2):m+1=n+1:=by
 have :=An hn;have :=An hm;omega
theorem Tr.nt {α:Type} (v:Option α):∀ (k:Nat) (t:Tr α) (n m:Nat),m≠n→(Tr.put v k t n).get m=t.get m
 | 0,t,n,m,_=>by simp [Tr.put]
 | k+1,.nil,0,m,h=>by
   obtain ⟨m,rfl⟩:∃ j,m=j+1:=⟨m - 1,ag⟩
   simp [Tr.put,Tr.get]
 | k+1,.nd l u r,0,m,h=>by
   obtain ⟨m,rfl⟩:∃ j,m=j+1:=⟨m - 1,ag⟩
   simp [Tr.put,Tr.get]
 | k+1,.nil,n+1,0,h=>by
   simp only [Tr.put];cases aB (n % 2) 0 <;> rfl
 | k+1,.nd l u r,n+1,0,h=>by
   simp only [Tr.put];cases aB (n % 2) 0 <;> rfl
 | k+1,.nil,n+1,m+1,h=>by
   simp only [Tr.put];cases hn:aB (n % 2) 0 <;> cases hm:aB (m % 2) 0 <;> simp only [cond_true,cond_false,Tr.get,hm]
   · rw [Tr.nt v k .nil _ _ (fun e=>h<|rj hn hm e)]; rfl
   · rw [Tr.nt v k .nil _ _ (fun e=>h<|rj hn hm e)]; rfl
 | k+1,.nd l u r,n+1,m+1,h=>by
   simp only [Tr.put];cases hn:aB (n % 2) 0 <;> cases hm:aB (m % 2) 0 <;> simp only [cond_true,cond_false,Tr.get,hm]
   · rw [Tr.nt v k r _ _ (fun e=>h<|rj hn hm e)]
   · rw [Tr.nt v k l _ _ (fun e=>h<|rj hn hm e)]
theorem Tr.put_eq {α:Type} (v:Option α):∀ (k:Nat) (t:Tr α) (n:Nat),n+1 < 2 ^ k→(Tr.put v k t n).get n=v
 | 0,t,n,h=>ag
 | k+1,.nil,0,_=>by simp [Tr.put,Tr.get]
 | k+1,.nd l u r,0,_=>by simp [Tr.put,Tr.get]
 | k+1,.nil,n+1,h=>by
   have A:n / 2 +1 < 2 ^ k:=by rw [se] at h; omega
   simp only [Tr.put];cases hn:aB (n % 2) 0 <;> simp only [cond_true,cond_false,Tr.get,hn] <;> exact Tr.put_eq v k _ _ A
 | k+1,.nd l u r,n+1,h=>by
   have A:n / 2 +1 < 2 ^ k:=by rw [se] at h; omega
   simp only [Tr.put];cases hn:aB (n % 2) 0 <;> simp only [cond_true,cond_false,Tr.get,hn] <;> exact Tr.put_eq v k _ _ A
def bO:Nat:=1048574
def Tr.set {α:Type} (t:Tr α) (n:Nat) (v:α):Tr α:=Tr.put (some v) 20 t n
def Tr.del {α:Type} (t:Tr α) (n:Nat):Tr α:=Tr.put none 20 t n
theorem Tr.kC {α:Type} (t:Tr α) (n m:Nat) (v:α) (h:au n bO=true):(t.set n v).get m=if m=n then some v else t.get m:=by
 have A:n < 1048574:=by simpa [bO,au,pF,pI] using h
 unfold Tr.set;split
 · rename_i e; subst e; exact Tr.put_eq _ _ _ _ ag
 · rename_i e; exact Tr.nt _ _ _ _ _ e
theorem Tr.na {α:Type} (t:Tr α) (n m:Nat) (h:au n bO=true):(t.del n).get m=if m=n then none else t.get m:=by
 have A:n < 1048574:=by simpa [bO,au,pF,pI] using h
 unfold Tr.del;split
 · rename_i e; subst e; exact Tr.put_eq _ _ _ _ ag
 · rename_i e; exact Tr.nt _ _ _ _ _ e
inductive AV
 | bool (b:Bool) | int (k:bc) (n:Int) | str (l:List UInt8)
 | ptr (b o:Nat) | fJ
 | sl (b o n c:Nat) (x:Bool)
 | dR
 | map (b:Nat) | jm
 | fn (f:Nat) (a c:List AV) | fu (l:Nat) | gO
 | gn (t:Nat) (v:AV) | dE
 | agg (l:List AV) | bL (l:List AV)
structure Loc where
 ao:Nat
 sh:Nat
 room:Nat
abbrev Rn:=Nat→Option Loc
def Rn.le (r s:Rn):Prop := ∀ i x,r i=some x→s i=some x
theorem Rn.le_refl (r:Rn):r.le r:=fun _ _ h=>h
theorem Rn.le_trans {r s t:Rn} (h:r.le s) (A:s.le t):r.le t:=fun i x C=>A i x<|h i x C
mutual
def den (r:Rn):AV→Option ab
 | .bool b=>some<|.bool b
 | .int k n=>some<|.int k n
 | .str l=>some<|Hb.str l
 | .ptr b o=>match r b with
   | some q=>some<|.pointer<|some ⟨q.ao,q.sh+o,none⟩
   | none=>none
 | .fJ=>some<|.pointer none
 | .sl b o n c x=>match r b with
   | some q=>cond x (cond (aG n c) (some<|.slice (some ⟨q.ao,q.sh+o,none⟩) n c) none)<|cond (aG (c+n) q.room) (some<|.slice (some ⟨q.ao,q.sh+o,none⟩) n<|q.room - c) none
   | none=>none
 | .dR=>some<|.slice none 0 0
 | .map b=>match r b with
   | some q=>some<|.map<|some q.ao
   | none=>none
 | .jm=>some<|.map none
 | .fn f a c=>match av r a,av r c with
   | some a,some c=>some<|.func (.func f) a.toArray c.toArray
   | _,_=>none
 | .fu l=>match r l with
   | some q=>some<|.func (.yield q.ao) #[] #[]
   | none=>none
 | .gO=>some .nilFunc
 | .gn t v=>match den r v with
   | some v=>some<|.iface t v
   | none=>none
 | .dE=>some .nilIface
 | .agg l=>match av r l with
   | some l=>some<|.agg l.toArray
   | none=>none
 | .bL l=>match av r l with
   | some l=>some<|.tuple l.toArray
   | none=>none
def av (r:Rn):List AV→Option (List ab)
 | []=>some []
 | v::l=>match den r v,av r l with
   | some v,some l=>some (v::l)
   | _,_=>none
end
mutual
theorem jO {r s:Rn} (h:r.le s):∀ {v:AV} {u:ab},den r v=some u→den s v=some u
 | .bool _,_,hu | .int _ _,_,hu | .str _,_,hu | .fJ,_,hu | .dR,_,hu | .jm,_,hu | .gO,_,hu | .dE,_,hu=>by
   simp only [den] at hu ⊢; exact hu
 | .ptr b o,u,hu | .sl b o n c x,u,hu | .map b,u,hu | .fu b,u,hu=>by
   simp only [den] at hu ⊢;cases hb:r b with
   | none=>rw [hb] at hu; cases hu
   | some q=>rw [hb] at hu; rw [h b q hb]; exact hu
 | .fn f a c,u,hu=>by
   simp only [den] at hu ⊢;cases ha:av r a with
   | none=>rw [ha] at hu; cases hu
   | some A=>
     cases hc:av r c with
     | none=>rw [ha,hc] at hu; cases hu
     | some c'=>rw [ha,hc] at hu; rw [gd h ha,gd h hc]; exact hu
 | .gn t v,u,hu=>by
   simp only [den] at hu ⊢;cases hv:den r v with
   | none=>rw [hv] at hu; cases hu
   | some E=>rw [hv] at hu; rw [jO h hv]; exact hu
 | .agg l,u,hu | .bL l,u,hu=>by
   simp only [den] at hu ⊢;cases hl:av r l with
   | none=>rw [hl] at hu; cases hu
   | some C=>rw [hl] at hu; rw [gd h hl]; exact hu
theorem gd {r s:Rn} (h:r.le s):∀ {v:List AV} {u:List ab},av r v=some u→av s v=some u
 | [],_,hu=>by simp only [av] at hu ⊢; exact hu
 | v::l,u,hu=>by
   simp only [av] at hu ⊢;cases hv:den r v with
   | none=>rw [hv] at hu; cases hu
   | some C=>
     cases hl:av r l with
     | none=>rw [hv,hl] at hu; cases hu
     | some A=>rw [hv,hl] at hu; rw [jO h hv,gd h hl]; exact hu
end
theorem dv {r:Rn} {v:AV} {l:List AV} {us:List ab} (h:av r (v::l)=some us):∃ u A,us=u::A∧den r v=some u∧av r l=some A:=by
 simp only [av] at h;split at h
 · rename_i u A C E; exact ⟨u,A,(et h).symm,C,E⟩
 · cases h
theorem jc {r:Rn} {us:List ab} (h:av r []=some us):us= []:=by simpa [av] using h.symm
theorem dh {r:Rn} {v:AV} {l:List AV} {u:ab} {us:List ab} (A:den r v=some u) (C:av r l=some us):av r (v::l)=some (u::us):=by simp only [av,A,C]
theorem cB {r:Rn} :∀ {l:List AV} {us:List ab},av r l=some us→us.length=l.length
 | [],_,h=>by rw [jc h]; rfl
 | v::l,us,h=>by obtain ⟨u,C,rfl,_,A⟩:=dv h; simp [cB A]
theorem mP {r:Rn} :∀ {l:List AV} {us:List ab} {i:Nat} {v:AV},av r l=some us→l[i]? =some v→∃ u,us[i]? =some u∧den r v=some u
 | [],_,i,v,h,hv=>by simp at hv
 | a::l,us,0,v,h,hv=>by
   obtain ⟨u,L,rfl,A,_⟩:=dv h;simp only [fV,aY] at hv;subst hv; exact ⟨u,rfl,A⟩
 | a::l,us,i+1,v,h,hv=>by
   obtain ⟨u,L,rfl,_,C⟩:=dv h;simp only [fU] at hv;obtain ⟨J,E,I⟩:=mP C hv;exact ⟨J,by simpa using E,I⟩
theorem eu {r:Rn} :∀ {l m:List AV} {us vs:List ab},av r l=some us→av r m=some vs→av r (l++m)=some (us++vs)
 | [],m,us,vs,h,h'=>by rw [jc h]; exact h'
 | a::l,m,us,vs,h,h'=>by
   obtain ⟨u,E,rfl,A,C⟩:=dv h;exact dh A<|eu C h'
theorem ib {r:Rn} :∀ {l:List AV} {us:List ab} (n:Nat),av r l=some us→av r (l.take n)=some (us.take n)
 | _,_,0,_=>by simp [av]
 | [],us,n+1,h=>by rw [jc h]; simp [av]
 | a::l,us,n+1,h=>by
   obtain ⟨u,E,rfl,A,C⟩:=dv h;exact dh A<|ib n C
theorem iF {r:Rn} :∀ {l:List AV} {us:List ab} (n:Nat),av r l=some us→av r (l.drop n)=some (us.drop n)
 | _,_,0,h=>h
 | [],us,n+1,h=>by rw [jc h]; simp [av]
 | a::l,us,n+1,h=>by
   obtain ⟨u,E,rfl,C,A⟩:=dv h;exact iF n A
inductive Ck | a | z | x
inductive AO
 | cells (l:List AV) (e:Nat) (fz:Nat) (ex:Ck)
 | map (l:List (AV×AV))
 | loop (st:LoopState) (pe:Option bG) (n:Nat) (fr:Tr AV) (ps:List Nat) (aE body:bG) (D:Nat)
 | jP (b:Bool)
 | uW (l:List UInt8) (p:Nat)
structure Hp where
 t:Tr AO
 nx:Nat
def cC (fr:Tr AV) (i:Nat):AV:=match fr.get i with
 | some v=>v
 | none=> .bL []
def dC (r:Rn) (n:Nat) (fr:Tr AV) (s:Nat→ab):Prop := ∀ i,i < n→den r (cC fr i)=some (s i)
def eT (r:Rn):List (AV×AV)→List MapEntry→Prop
 | [],[]=>True
 | p::l,m::es=>den r p.1=some m.key∧den r p.2=some m.val∧eT r l es
 | _,_=>False
def OR (P:ak) (r:Rn) (q:Loc):AO→Option Obj→Prop
 | .cells l e fz ex,o=> ∃ c fr us,o=some (.cells c e fr)∧av r l=some us∧q.sh+l.length≤c.size∧(∀ j u,us[j]? =some u→c[q.sh+j]? =some u)∧fr.2≤q.sh+fz∧
  (∀ u∈us,u.oneCell'=true)∧((ex= .x→q.sh=0∧c.size=l.length∧fr=(0,fz))∧(ex≠.a→q.sh=0))∧∀ s,cE P e=some s→q.sh+q.room*s≤c.size
 | .map l,o=> ∃ es c,o=some (.map es c)∧eT r l es.toList∧(es.toList.map fun e=>e.key).Nodup
 | .loop st E n fr ps aE body D,o=> ∃ fn A C,o=some (.loop {state:=st,pending:=E,fn:=fn,tmps:=A,params:=ps.toArray,assign:=aE,body:=body,defers:=C})∧(∃ x,r D=some x∧x.ao=C)∧A.size=n∧∀ i,i < n→den r (cC fr i)=A[i]?
 | .jP b,o=>o=some (.deferred<|cond b (some []) none)
 | .uW l p,o=>o=some (.stringIter ⟨⟨l⟩⟩ p)
end Go.Hb
namespace Go.Hb
def jn (f:ab→Option AV):List ab→Option (List AV)
 | []=>some []
 | v::l=>match f v with
   | some a=>match jn f l with
     | some b=>some (a::b)
     | none=>none
   | none=>none
def ij:Nat→ab→Option AV
 | 0,_=>none
 | d+1,v=>match v with
   | .bool b=>some<|.bool b
   | .int k n=>some<|.int k n
   | .string ⟨⟨l⟩⟩=>some<|.str l
   | .pointer none=>some .fJ
   | .slice none 0 0=>some .dR
   | .map none=>some .jm
   | .nilFunc=>some .gO
   | .nilIface=>some .dE
   | .agg ⟨l⟩=>match jn (ij d) l with
     | some l=>some<|.agg l
     | none=>none
   | .tuple ⟨l⟩=>match jn (ij d) l with
     | some l=>some<|.bL l
     | none=>none
   | _=>none
theorem nj {f:ab→Option AV} {r:Rn} (A:∀ v a,f v=some a→den r a=some v):∀ {l:List ab} {m:List AV},jn f l=some m→av r m=some l
 | [],m,h=>by simp only [jn,aY] at h; subst h; simp [av]
 | v::l,m,h=>by
   simp only [jn] at h;split at h
   · rename_i a ha;split at h
     · rename_i b hb;cases h;exact dh (A v a ha)<|nj A hb
     · cases h
   · cases h
theorem kM {r:Rn} :∀ (d:Nat) {v:ab} {a:AV},ij d v=some a→den r a=some v
 | 0,v,a,h=>by simp [ij] at h
 | d+1,v,a,h=>by
   simp only [ij] at h;split at h <;> first
    | (cases h; simp [den,str]; done)
    | (split at h
       · rename_i C A;cases h;simp only [den,nj (fun v a=>kM d) A]
       · cases h)
    | cases h
def jq (G n:Nat) (fr:Tr AV):az→Option AV
 | .tmp t=>cond (au t n) (some<|cC fr t) none
 | .const v=>ij 4 v
 | .func f=>some<|.fn f [] []
 | .global g=>cond (au g G) (some<|.ptr g 0) none
def jr (G n:Nat) (fr:Tr AV):List az→Option (List AV)
 | []=>some []
 | x::l=>match jq G n fr x with
   | some a=>match jr G n fr l with
     | some b=>some (a::b)
     | none=>none
   | none=>none
def mH (G:Nat) (r:Rn):Prop := ∀ g,g < G→∃ m,r g=some ⟨g,0,m⟩
section
variable {G:Nat} {fr:Tr AV} {r:Rn} {N:Fm} {σ:Nat→ab}
theorem oQ (C:mH G r) (A:dC r N.n fr σ) {x:az} {a:AV} (h:jq G N.n fr x=some a):den r a=some (ev N σ x):=by
 cases x with
 | tmp t=>
   simp only [jq] at h;cases hb:au t N.n
   · rw [hb] at h; cases h
   · rw [hb] at h;simp only [cond_true,aY] at h;subst h;simp only [ev,hb,cond_true];exact A t<|by simpa [au,pF,pI] using hb
 | const v=>exact kM 4 h
 | func f=>simp only [jq,aY] at h; subst h; simp [den,av,ev]
 | global g=>
   simp only [jq] at h;cases hb:au g G
   · rw [hb] at h; cases h
   · rw [hb] at h;simp only [cond_true,aY] at h;subst h;obtain ⟨m,hm⟩:=C g<|by simpa [au,pF,pI] using hb
     simp only [den,hm,ev,iX]
theorem qO (C:mH G r) (A:dC r N.n fr σ):∀ {l:List az} {m:List AV},jr G N.n fr l=some m→av r m=some (l.map<|ev N σ)
 | [],m,h=>by simp only [jr,aY] at h; subst h; simp [av]
 | x::l,m,h=>by
   simp only [jr] at h;split at h
   · rename_i a ha;split at h
     · rename_i b hb;cases h;exact dh (oQ C A ha)<|qO C A hb
     · cases h
   · cases h
end
def eU:Op→List az
 | .move x | .assign x | .box _ x | .load _ x | .nilCheck x | .unOp _ _ x | .convert _ _ x | .makeInterface _ x | .fieldAddr _ x _ | .field _ x _ | .range _ x | .next x _ | .typeAssert x _ _ _ | .extract x _=> [x]
 | .pick c a b=> [c,a,b]
 | .build _ ⟨ps⟩=>ps.map (·.2)
 | .buildSlice _ _ ⟨ps⟩=>ps.map (·.2)
 | .store _ a v | .binOp _ _ a v _ | .makeSlice _ a v | .indexAddr _ a v | .index _ a v | .lookup _ a v _=> [a,v]
 | .makeFunc _ ⟨a⟩ ⟨c⟩=>a++c
 | .slice _ x l h m=>x::(l.toList++(h.toList++m.toList))
 | .mapUpdate _ m k v | .insert _ m k v=> [m,k,v]
 | .call ⟨.value f,⟨l⟩,_⟩ | .defer ⟨.value f,⟨l⟩,_⟩=>f::l
 | .call ⟨.builtin _,⟨l⟩,_⟩=>l
 | _=> []
theorem dX {r:Rn} {a:AV} {u:ab} (h:av r [a]=some [u]):den r a=some u:=by
 obtain ⟨C,us,he,A,_⟩:=dv h;cases he; exact A
theorem ga {r:Rn} {a b:AV} {u v:ab} (h:av r [a,b]=some [u,v]):den r a=some u∧den r b=some v:=by
 obtain ⟨E,us,he,A,C⟩:=dv h;cases he; exact ⟨A,dX C⟩
theorem ky {r:Rn} {a b c:AV} {u v t:ab} (h:av r [a,b,c]=some [u,v,t]):den r a=some u∧den r b=some v∧den r c=some t:=by
 obtain ⟨E,us,he,A,C⟩:=dv h;cases he; exact ⟨A,ga C⟩
section
variable {r:Rn} {u:ab}
theorem bY {k:bc} {n:Int} (h:den r (.int k n)=some u):u= .int k n:=by simpa [den] using h.symm
theorem ic {b:Bool} (h:den r (.bool b)=some u):u= .bool b:=by simpa [den] using h.symm
theorem fH {l:List UInt8} (h:den r (.str l)=some u):u=str l:=by simpa [den] using h.symm
theorem mS (h:den r .fJ=some u):u= .pointer none:=by simpa [den] using h.symm
theorem gi (h:den r .dR=some u):u= .slice none 0 0:=by simpa [den] using h.symm
theorem xH (h:den r .jm=some u):u= .map none:=by simpa [den] using h.symm
theorem ot (h:den r .gO=some u):u= .nilFunc:=by simpa [den] using h.symm
theorem mR (h:den r .dE=some u):u= .nilIface:=by simpa [den] using h.symm
theorem gJ {b o:Nat} (h:den r (.ptr b o)=some u):∃ q,r b=some q∧u= .pointer (some ⟨q.ao,q.sh+o,none⟩):=by
 simp only [den] at h;split at h
 · rename_i q A; exact ⟨q,A,(et h).symm⟩
 · cases h
theorem lz {b:Nat} (h:den r (.map b)=some u):∃ q,r b=some q∧u= .map (some q.ao):=by
 simp only [den] at h;split at h
 · rename_i q A; exact ⟨q,A,(et h).symm⟩
 · cases h
theorem sW {b:Nat} (h:den r (.fu b)=some u):∃ q,r b=some q∧u= .func (.yield q.ao) #[] #[]:=by
 simp only [den] at h;split at h
 · rename_i q A; exact ⟨q,A,(et h).symm⟩
 · cases h
theorem xI {b o n c:Nat} (h:den r (.sl b o n c true)=some u):∃ q,r b=some q∧n≤c∧u= .slice (some ⟨q.ao,q.sh+o,none⟩) n c:=by
 simp only [den] at h;split at h
 · rename_i q A;cases hb:aG n c
   · rw [hb] at h; cases h
   · rw [hb] at h;exact ⟨q,A,bp hb,(et h).symm⟩
 · cases h
theorem pZ {b o n c:Nat} (h:den r (.sl b o n c false)=some u):∃ q,r b=some q∧c+n≤q.room∧u= .slice (some ⟨q.ao,q.sh+o,none⟩) n (q.room - c):=by
 simp only [den] at h;split at h
 · rename_i q A;cases hb:aG (c+n) q.room
   · rw [hb] at h; cases h
   · rw [hb] at h;exact ⟨q,A,bp hb,(et h).symm⟩
 · cases h
theorem gK {b o n c:Nat} {x:Bool} (h:den r (.sl b o n c x)=some u):∃ q cap,r b=some q∧n≤cap∧u= .slice (some ⟨q.ao,q.sh+o,none⟩) n cap∧(x=true→cap=c)∧(x=false→cap=q.room - c∧c+n≤q.room):=by
 cases x
 · obtain ⟨q,C,A,he⟩:=pZ h;exact ⟨q,q.room - c,C,ag,he,(fun e=>by cases e),fun _=>⟨U,A⟩⟩
 · obtain ⟨q,C,A,he⟩:=xI h;exact ⟨q,c,C,A,he,fun _=>rfl,fun e=>by cases e⟩
theorem kA {f:Nat} {a c:List AV} (h:den r (.fn f a c)=some u):∃ A c',av r a=some A∧av r c=some c'∧u= .func (.func f) A.toArray c'.toArray:=by
 simp only [den] at h;split at h
 · rename_i A c' ha C; exact ⟨A,c',ha,C,(et h).symm⟩
 · cases h
theorem pY {t:Nat} {v:AV} (h:den r (.gn t v)=some u):∃ A,den r v=some A∧u= .iface t A:=by
 simp only [den] at h;split at h
 · rename_i A C; exact ⟨A,C,(et h).symm⟩
 · cases h
theorem oq {l:List AV} (h:den r (.agg l)=some u):∃ us,av r l=some us∧u= .agg us.toArray:=by
 simp only [den] at h;split at h
 · rename_i C A; exact ⟨C,A,(et h).symm⟩
 · cases h
theorem xJ {l:List AV} (h:den r (.bL l)=some u):∃ us,av r l=some us∧u= .tuple us.toArray:=by
 simp only [den] at h;split at h
 · rename_i C A; exact ⟨C,A,(et h).symm⟩
 · cases h
end
def tE (k:bc):Int→Bool
 | .ofNat m=>match k with
   | .i64=>au m 9223372036854775808
   | .u8=>au m 256
   | .u64=>au m 18446744073709551616
   | .i32=>au m 2147483648
   | .u32=>au m 4294967296
   | .u16=>au m 65536
   | _=>false
 | .negSucc m=>match k with
   | .i64=>au m 9223372036854775808
   | .i32=>au m 2147483648
   | _=>false
def mg (k:bc) (n:Int):Int:=cond (tE k n) n<|k.wrap n
theorem bQ {a b:Nat} :au a b=true↔a < b:=by simp [au,pF,pI]
theorem u16_in (n:Int) (h:0≤n∧n≤65535):IntKind.u16.wrap n=n:=by
 unfold IntKind.wrap;simp only [IntKind.bits,IntKind.signed];simp;omega
theorem Fk {k:bc} {n:Int} (h:tE k n=true):k.wrap n=n:=by
 cases n with
 | ofNat m=>
   show k.wrap (m:Int)=(m:Int)
   cases k with
   | i64=>have :=bQ.1 (show au m 9223372036854775808=true from h); exact mc ⟨ag,ag⟩
   | u8=>have :=bQ.1 (show au m 256=true from h); exact AR ⟨ag,ag⟩
   | u64=>have :=bQ.1 (show au m 18446744073709551616=true from h); exact nL ⟨ag,ag⟩
   | i32=>have :=bQ.1 (show au m 2147483648=true from h); exact vq ⟨ag,ag⟩
   | u32=>have :=bQ.1 (show au m 4294967296=true from h); exact AQ ⟨ag,ag⟩
   | u16=>have :=bQ.1 (show au m 65536=true from h); exact u16_in _ ⟨ag,ag⟩
   | i8=>exact dn (show false =true from h)
   | i16=>exact dn (show false =true from h)
 | negSucc m=>
   rw [Int.negSucc_eq];cases k with
   | i64=>have :=bQ.1 (show au m 9223372036854775808=true from h); exact mc ⟨ag,ag⟩
   | i32=>have :=bQ.1 (show au m 2147483648=true from h); exact vq ⟨ag,ag⟩
   | _=>exact dn (show false =true from h)
theorem o7 (k:bc) (n:Int):mg k n=k.wrap n:=by
 unfold mg;cases h:tE k n
 · rfl
 · exact (Fk h).symm
def ek (k:bc):Int→Option AV
 | .ofNat 0=>some<|.int k 0
 | .ofNat (m+1)=>some<|.int k<|.ofNat<|m+1
 | .negSucc 0=>some<|.int k<|-1
 | .negSucc (m+1)=>some<|.int k<|.negSucc<|m+1
theorem eH (k:bc) (n:Int):ek k n=some (.int k n):=by
 unfold ek;split <;> rfl
def gj:List UInt8→List UInt8→Bool
 | [],[]=>true
 | a::l,b::m=>cond (aB a.toNat b.toNat) (gj l m) false
 | _,_=>false
theorem mX:∀ l m:List UInt8,gj l m=decide (l=m)
 | [],[]=>by simp [gj]
 | [],_::_=>by simp [gj]
 | _::_,[]=>by simp [gj]
 | a::l,b::m=>by
   have ih:=mX l m;simp only [gj];cases h:aB a.toNat b.toNat
   · have :a≠b:=fun e=>by subst e; simp at h
     simp [this]
   · have :a=b:=Cn.1<|bF h;simp [this,ih]
def lP:List UInt8→List UInt8→Bool
 | _,[]=>false
 | [],_::_=>true
 | a::l,b::m=>cond (au a.toNat b.toNat) true<|cond (aB a.toNat b.toNat) (lP l m) false
theorem yQ:∀ l m:List UInt8,lP l m=lX l m
 | [],[]=>rfl
 | _::_,[]=>rfl
 | [],_::_=>rfl
 | a::l,b::m=>by
   have ih:=yQ l m;rw [H8];simp only [lP];rcases pG a.toNat b.toNat with h | h | h
   · have A:a < b:=Cj.2 h;simp [bQ.2 h,A]
   · have e:a=b:=Cn.1 h;subst e;have A:¬a < a:=UInt8.lt_irrefl a;have C:au a.toNat a.toNat=false :=by cases hb:au a.toNat a.toNat; rfl; exact absurd (bQ.1 hb)<|Nat.lt_irrefl _
     simp [C,A,ih]
   · have A:¬a < b:=fun E=>by have :=Cj.1 E; omega
     have C:au a.toNat b.toNat=false :=by cases hb:au a.toNat b.toNat; rfl; exact absurd (bQ.1 hb) ag
     have I:aB a.toNat b.toNat=false :=by cases hb:aB a.toNat b.toNat; rfl; exact absurd (bF hb) ag
     have J:a≠b:=fun e=>by subst e; omega
     simp [C,I,A,J]
end Go.Hb
namespace Go.Hb
def qo (op:BinOp) (k:bc) (a b:Int):Option AV:=match op with
 | .add=>ek k<|mg k<|Int.add a b
 | .sub=>ek k<|mg k<|Int.sub a b
 | .mul=>ek k<|mg k<|Int.mul a b
 | .lss=>some<|.bool<|decide (a < b)
 | .leq=>some<|.bool<|decide (a≤b)
 | .gtr=>some<|.bool<|decide (b < a)
 | .geq=>some<|.bool<|decide (b≤a)
 | .eql=>some<|.bool<|decide (a=b)
 | .neq=>some<|.bool<|decide (a≠b)
 | .quo=>match a,b with
   | .ofNat a,.ofNat (b+1)=>ek k<|mg k<|.ofNat<|a / (b+1)
   | _,_=>none
 | .rem=>match a,b with
   | .ofNat a,.ofNat (b+1)=>ek k<|.ofNat<|a % (b+1)
   | _,_=>none
 | .or =>ek k<|k.wrap (gw k.bits a ||| gw k.bits b).toNat
 | .and =>ek k<|k.wrap (gw k.bits a &&& gw k.bits b).toNat
 | _=>none
def uI (op:BinOp) (k:bc) (a:Int) (b:Nat):Option AV:=match op with
 | .shr=>ek k<|a.fdiv<|2 ^ min b k.bits
 | .shl=>ek k<|k.wrap<|a*2 ^ min b k.bits
 | _=>none
def uV (op:BinOp) (l m:List UInt8):Option AV:=match op with
 | .eql=>some<|.bool<|gj l m
 | .neq=>some<|.bool<|!gj l m
 | .lss=>some<|.bool<|lP l m
 | .gtr=>some<|.bool<|!(lP l m || gj l m)
 | .leq=>some<|.bool (lP l m || gj l m)
 | .geq=>some<|.bool<|!lP l m
 | .add=>cond (aG (l.length+m.length) 9223372036854775807) (some<|.str<|l++m) none
 | _=>none
def oD (P:ak) (t:aj):Bool:=match P.underlying t with
 | some (.pointer e)=>(P.info? e).isSome
 | _=>false
def iL (P:ak) (t:aj):Bool:=match P.underlying t with
 | some (.slice _)=>true
 | _=>false
def qp (P:ak) (t:aj):Bool:=match P.underlying t with
 | some (.func _ _ _)=>true
 | _=>false
def tG (P:ak) (t:aj):Bool:=match P.underlying t with
 | some .bool=>true
 | _=>false
def qq (P:ak) (t:aj):Bool:=match P.underlying t with
 | some (.interface _)=>true
 | _=>false
def isStr (P:ak) (t:aj):Bool:=match P.underlying t with
 | some .string=>true
 | _=>false
def p8 (P:ak) (A:Bool) (t:aj) (x y:AV):Option Bool:=match x,y with
 | .ptr _ _,.fJ=>cond (oD P t) (some false) none
 | .fJ,.fJ=>cond (oD P t) (some true) none
 | .ptr b o,.ptr b' o'=>cond (oD P t && (aB b b' && aB o o')) (some true) none
 | .sl _ _ _ _ _,.dR=>cond (iL P t) (some false) none
 | .dR,.dR=>cond (iL P t) (some true) none
 | .fn _ _ _,.gO=>cond (qp P t) (some false) none
 | .gO,.gO=>cond (qp P t) (some true) none
 | .bool a,.bool b=>cond (tG P t) (some<|a==b) none
 | .gn _ _,.dE=>cond (qq P t) (some false) none
 | .dE,.dE=>cond (qq P t && A) (some true) none
 | _,_=>none
def sB (P:ak) (A:Bool) (op:BinOp) (t:aj) (x y:AV):Option AV:=match x,y with
 | .int k a,.int k' b=>match op with
   | .shl | .shr=>match b with
     | .ofNat b=>uI op k a b
     | _=>none
   | _=>cond (aB (de k)<|de k') (qo op k a b) none
 | .str l,.str m=>uV op l m
 | x,y=>match op with
   | .eql=>match p8 P A t x y with
     | some b=>some<|.bool b
     | none=>none
   | .neq=>match p8 P A t x y with
     | some b=>some<|.bool<|!b
     | none=>none
   | _=>none
section
variable {P:ak} {r:Rn} {N:Fm} {σ:Nat→ab} {dst:Option Nat} {ty:aj} {pos :String} {af:Array bB} {g:Option (Nat×Bool)} {x y z:az}
def YP (P:ak) (r:Rn) (N:Fm) (σ:Nat→ab) (o:aq) (v:AV):Prop := ∃ u,den r v=some u∧∀ w,(execOp (ev N σ) o).run P w= .ok (.value u) w
theorem Fo {op:BinOp} {k:bc} {a b:Int} {t E:aj} {v:AV} (h:qo op k a b=some v) (A:ev N σ x= .int k a) (C:ev N σ y= .int k b):YP P r N σ ⟨dst,.binOp op t x y E,ty,pos,af,g⟩ v:=by
 unfold qo at h;split at h
 · rw [eH,o7] at h; cases h; exact ⟨_,rfl,fun w=>wz _ A C rfl⟩
 · rw [eH,o7] at h; cases h; exact ⟨_,rfl,fun w=>zK _ A C rfl⟩
 · rw [eH,o7] at h; cases h; exact ⟨_,rfl,fun w=>y5 _ A C rfl⟩
 · cases h; exact ⟨_,rfl,fun w=>lt A C⟩
 · cases h; exact ⟨_,rfl,fun w=>le A C⟩
 · cases h; exact ⟨_,rfl,fun w=>gt A C⟩
 · cases h; exact ⟨_,rfl,fun w=>ge A C⟩
 · cases h; exact ⟨_,rfl,fun w=>xR A C⟩
 · cases h; exact ⟨_,rfl,fun w=>y7 A C⟩
 · split at h
   · rename_i a b;rw [eH,o7] at h; cases h;exact ⟨_,U,fun w=>G1 _ A C ⟨eK _,Bx.2<|Cg _⟩ U⟩
   · cases h
 · split at h
   · rename_i a b;rw [eH] at h; cases h;exact ⟨_,U,fun w=>rm A C ⟨eK _,Bx.2<|Cg _⟩⟩
   · cases h
 · rw [eH] at h; cases h; exact ⟨_,rfl,fun w=>wU A C rfl⟩
 · rw [eH] at h; cases h; exact ⟨_,rfl,fun w=>b9 A C rfl⟩
 · cases h
theorem HX {op:BinOp} {k E:bc} {a:Int} {b:Nat} {t I:aj} {v:AV} (h:uI op k a b=some v) (A:ev N σ x= .int k a) (C:ev N σ y= .int E (jE b)):YP P r N σ ⟨dst,.binOp op t x y I,ty,pos,af,g⟩ v:=by
 unfold uI at h;split at h
 · rw [eH] at h; cases h; exact ⟨_,rfl,fun w=>shr A C (eK _) rfl⟩
 · rw [eH] at h; cases h; exact ⟨_,rfl,fun w=>shl A C (eK _) rfl⟩
 · cases h
theorem IE {op:BinOp} {l m:List UInt8} {t E:aj} {v:AV} (h:uV op l m=some v) (A:ev N σ x=str l) (C:ev N σ y=str m):YP P r N σ ⟨dst,.binOp op t x y E,ty,pos,af,g⟩ v:=by
 unfold uV at h;simp only [mX,yQ] at h;split at h
 · cases h; exact ⟨_,rfl,fun w=>xT A C⟩
 · cases h; exact ⟨.bool (decide (l≠m)),by simp [den],fun w=>y9 A C⟩
 · cases h; exact ⟨_,rfl,fun w=>F8 A C⟩
 · cases h; exact ⟨_,rfl,fun w=>Fe A C⟩
 · cases h; exact ⟨_,rfl,fun w=>FU A C⟩
 · cases h; exact ⟨_,rfl,fun w=>E5 A C⟩
 · cases hb:aG (l.length+m.length) 9223372036854775807
   · rw [hb] at h; cases h
   · rw [hb] at h; cases h; exact ⟨_,rfl,fun w=>cc A C<|bp hb⟩
 · cases h
def ax:az→Bool
 | .const _=>true
 | _=>false
def si (P:ak) (t:aj) (x y:az) (u v:ab) (q:Bool):Prop :=
 (∀ w,(binOp .eql t u v).run P w= .ok (.bool q) w)∧(∀ w,(binOp .neq t u v).run P w= .ok (.bool<|!q) w)∧∀ op w,(eqGuard op t x y u v).run P w= .ok () w
theorem si.of {t:aj} {u v:ab} {q:Bool} (h:∀ d w,(gC (d+1) t u v).run P w= .ok q w) (A:∀ w,(binOp .eql t u v).run P w=((kU t u v).run P w).andThen fun q w=> .ok (.bool q) w)
 (C:∀ w,(binOp .neq t u v).run P w=((kU t u v).run P w).andThen fun q w=> .ok (.bool<|!q) w) (E:∀ op w,(eqGuard op t x y u v).run P w= .ok () w):si P t x y u v q:=by
 have e:∀ w,(kU t u v).run P w= .ok q w:=h 9999;exact ⟨fun w=>by rw [A,e]; rfl,fun w=>by rw [C,e]; rfl,E⟩
theorem xO {Z:Bool} {t:aj} {a b:AV} {u v:ab} {q:Bool} (ad:Z=true→(ax x || ax y)=true) (h:p8 P Z t a b=some q) (hu:den r a=some u) (E:den r b=some v):si P t x y u v q:=by
 have J:oD P t=true→∃ e i,P.underlying t=some (.pointer e)∧P.info? e=some i:=by
  intro hp;unfold oD at hp;split at hp
  · rename_i e he;obtain ⟨i,hi⟩:=Option.isSome_iff_exists.1 hp;exact ⟨e,i,he,hi⟩
  · cases hp
 have O:iL P t=true→∃ e,P.underlying t=some (.slice e):=by
  intro hp; unfold iL at hp; split at hp
  · exact ⟨_,by assumption⟩
  · cases hp
 have L:qp P t=true→∃ a b c,P.underlying t=some (.func a b c):=by
  intro hp; unfold qp at hp; split at hp
  · exact ⟨_,_,_,by assumption⟩
  · cases hp
 have M:qq P t=true→∃ m,P.underlying t=some (.interface m):=by
  intro hp; unfold qq at hp; split at hp
  · exact ⟨_,by assumption⟩
  · cases hp
 have B1:tG P t=true→P.underlying t=some .bool:=by
  intro hp; unfold tG at hp; split at hp
  · assumption
  · cases hp
 have I:∀ {c:Bool} {p:Option Bool} {q:Bool},cond c p none=some q→c=true∧p=some q:=by
  intro c p q h; cases c
  · cases h
  · exact ⟨U,h⟩
 unfold p8 at h;split at h
 · obtain ⟨y,V,rfl⟩:=gJ hu;obtain rfl :=mS E;obtain ⟨A,C⟩:=I h;cases C;obtain ⟨e,i,he,hi⟩:=J A;exact .of (fun d w=>sZ d he) (fun w=>by simp [binOp]) (fun w=>by simp [binOp]) fun op w=>by simp [eqGuard]
 · obtain rfl :=mS hu;obtain rfl :=mS E;obtain ⟨A,C⟩:=I h;cases C;obtain ⟨e,i,he,hi⟩:=J A;exact .of (fun d w=>sZ d he) (fun w=>by simp [binOp]) (fun w=>by simp [binOp]) fun op w=>by simp [eqGuard]
 · rename_i b o ah ak;obtain ⟨A,C⟩:=I h;cases C;simp only [aU] at A;obtain ⟨hp,aa,ac⟩:=A;obtain rfl :=bF aa;obtain rfl :=bF ac;rw [hu] at E; cases E;obtain ⟨y,V,rfl⟩:=gJ hu;obtain ⟨e,i,he,hi⟩:=J hp;exact .of (fun d w=>by simp [gC,aR he,sizeOf,cJ hi,sameAddr]) (fun w=>by simp [binOp]) (fun w=>by simp [binOp]) fun op w=>by simp [eqGuard]
 · obtain ⟨y,cap,V,_,rfl,_⟩:=gK hu;obtain rfl :=gi E;obtain ⟨A,C⟩:=I h;cases C;obtain ⟨e,he⟩:=O A;exact .of (fun d w=>xU d he) (fun w=>by simp [binOp]) (fun w=>by simp [binOp]) fun op w=>by simp [eqGuard]
 · obtain rfl :=gi hu;obtain rfl :=gi E;obtain ⟨A,C⟩:=I h;cases C;obtain ⟨e,he⟩:=O A;exact .of (fun d w=>xU d he) (fun w=>by simp [binOp]) (fun w=>by simp [binOp]) fun op w=>by simp [eqGuard]
 · obtain ⟨ag,c',ha,_,rfl⟩:=kA hu;obtain rfl :=ot E;obtain ⟨A,C⟩:=I h;cases C;obtain ⟨_,_,_,he⟩:=L A;exact .of (fun d w=>by simp [gC,aR he]) (fun w=>by simp [binOp]) (fun w=>by simp [binOp]) fun op w=>by simp [eqGuard]
 · obtain rfl :=ot hu;obtain rfl :=ot E;obtain ⟨A,C⟩:=I h;cases C;obtain ⟨_,_,_,he⟩:=L A;exact .of (fun d w=>by simp [gC,aR he]) (fun w=>by simp [binOp]) (fun w=>by simp [binOp]) fun op w=>by simp [eqGuard]
 · obtain rfl :=ic hu;obtain rfl :=ic E;obtain ⟨A,C⟩:=I h;cases C;exact .of (fun d w=>xQ d<|B1 A) (fun w=>by simp [binOp]) (fun w=>by simp [binOp]) fun op w=>by simp [eqGuard]
 · obtain ⟨al,ai,rfl⟩:=pY hu;obtain rfl :=mR E;obtain ⟨A,C⟩:=I h;cases C;obtain ⟨_,he⟩:=M A;exact .of (fun d w=>by simp [gC,aR he]) (fun w=>by simp [binOp]) (fun w=>by simp [binOp]) fun op w=>by simp [eqGuard]
 · obtain rfl :=mR hu;obtain rfl :=mR E;obtain ⟨A,C⟩:=I h;cases C;simp only [aU] at A;obtain ⟨_,he⟩:=M A.1;have ae:=ad A.2;exact .of (fun d w=>by simp [gC,aR he]) (fun w=>by simp [binOp]) (fun w=>by simp [binOp]) (fun op w=>by
    cases x <;> cases y <;> first | (cases ae; done) | simp [eqGuard])
 · cases h
theorem CU {Z:Bool} {op:BinOp} {t aa:aj} {a b v:AV} (C:Z=true→(ax x || ax y)=true) (h:sB P Z op t a b=some v) (I:den r a=some (ev N σ x)) (J:den r b=some (ev N σ y)):YP P r N σ ⟨dst,.binOp op t x y aa,ty,pos,af,g⟩ v:=by
 unfold sB at h;split at h
 · rename_i k a V b;have A:=bY I;have O:=bY J;have key:(cond (aB (de k)<|de V) (qo op k a b) none)=some v→YP P r N σ ⟨dst,.binOp op t x y aa,ty,pos,af,g⟩ v:=by
    intro E;cases C:aB (de k) (de V)
    · rw [C] at E; cases E
    · rw [C] at E;obtain rfl :=lJ C;exact Fo E A O
   cases op <;> first
    | exact key h
    | (dsimp only at h
       split at h
       · exact HX h A O
       · cases h)
 · exact IE h (fH I)<|fH J
 · split at h
   · split at h
     · rename_i q M;cases h;obtain ⟨A,_,L⟩:=xO C M I J;exact ⟨_,U,fun w=>by simp [execOp,A,L]⟩
     · cases h
   · split at h
     · rename_i q M;cases h;obtain ⟨_,A,L⟩:=xO C M I J;exact ⟨_,U,fun w=>by simp [execOp,A,L]⟩
     · cases h
   · cases h
end
def uK (e b o n c:Nat) (x:Bool) (i j:Nat):Option AV:=
 cond (aG i j) (cond x (cond (aG j c) (cond (aB c i) (some<|.sl b o (j - i) (c - i) true)<|some<|.sl b (o+i*e) (j - i) (c - i) true) none)
  (cond (aG j n && (aB i 0 || au i n)) (some<|.sl b (o+i*e) (j - i) (c+i) false) none)) none
def nE (P:ak) (t:aj) (x:AV) (lo hi:Option Nat):Option AV:=match x with
 | .str l=>cond (isStr P t && (aG (lo.getD 0) (hi.getD l.length) && aG (hi.getD l.length) l.length)) (some<|.str<|(l.take<|hi.getD l.length).drop<|lo.getD 0) none
 | .sl b o n c q=>match cO P t with
   | some e=>uK e b o n c q (lo.getD 0)<|hi.getD n
   | none=>none
 | .dR=>match cO P t with
   | some _=>cond (aB (lo.getD 0) 0 && aB (hi.getD 0) 0) (some .dR) none
   | none=>none
 | _=>none
def uJ (P:ak) (t:aj) (lo hi mx:Option az) (xs:List AV):Option AV:=match lo,hi,mx with
 | none,some _,none=>match xs with
   | [x,.int _ (.ofNat j)]=>nE P t x none<|some j
   | _=>none
 | some _,none,none=>match xs with
   | [x,.int _ (.ofNat i)]=>nE P t x (some i) none
   | _=>none
 | some _,some _,none=>match xs with
   | [x,.int _ (.ofNat i),.int _ (.ofNat j)]=>nE P t x (some i)<|some j
   | _=>none
 | none,some _,some _=>match xs with
   | [.sl b o n c q,.int _ (.ofNat j),.int _ (.ofNat m)]=>match cO P t with
     | some e=>cond (aB j m && aG m n) (some<|.sl b o j j true) none
     | none=>none
   | _=>none
 | some _,some _,some _=>match xs with
   | [.sl b o n c q,.int _ (.ofNat i),.int _ (.ofNat j),.int _ (.ofNat m)]=>match cO P t with
     | some e=>cond (aG i j && (aG j m && aG m n)) (cond (aB m i) (some<|.sl b o (j - i) (m - i) true)<|some<|.sl b (o+i*e) (j - i) (m - i) true) none
     | none=>none
   | _=>none
 | _,_,_=>none
section
variable {P:ak} {r:Rn} {N:Fm} {σ:Nat→ab} {dst:Option Nat} {ty:aj} {pos :String} {af:Array bB} {g:Option (Nat×Bool)} {x y z:az}
theorem aF {α:Type} {c:Bool} {p:Option α} {q:α} (h:cond c p none=some q):c=true∧p=some q:=by
 cases c
 · cases h
 · exact ⟨U,h⟩
theorem kz {b o n c:Nat} {q:Loc} (A:r b=some q) (h:n≤c):den r (.sl b o n c true)=some (.slice (some ⟨q.ao,q.sh+o,none⟩) n c):=by
 simp only [den,A,cond_true,vX h]
theorem mQ {b o n c:Nat} {q:Loc} (A:r b=some q) (h:c+n≤q.room):den r (.sl b o n c false)=some (.slice (some ⟨q.ao,q.sh+o,none⟩) n<|q.room - c):=by
 simp only [den,A,cond_true,cond_false,vX h]
theorem uL {e b o n c i j:Nat} {q:Bool} {v:AV} {u:ab} (h:uK e b o n c q i j=some v) (hu:den r (.sl b o n c q)=some u):
 ∃ a cap,u= .slice a n cap∧n≤cap∧i≤j∧j≤cap∧den r v=some (.slice (cF a cap i e) (j - i)<|cap - i):=by
 unfold uK at h;replace h:=aF h; obtain ⟨C,h⟩:=h;have C:=bp C;cases q
 · simp only [cond_false] at h;replace h:=aF h; obtain ⟨A,h⟩:=h;simp only [aU,ml] at A;obtain ⟨q,E,I,rfl⟩:=pZ hu;have M:=bp A.1;cases h;refine ⟨_,_,U,ag,C,ag,?_⟩;have L:cF (some ⟨q.ao,q.sh+o,none⟩) (q.room - c) i e=some ⟨q.ao,q.sh+(o+i*e),none⟩:=by
    unfold cF;rcases A.2 with A | A
    · obtain rfl :=bF A;split
      · simp
      · simp [dt]
    · have :=bQ.1 A;rw [if_neg ag];simp [dt,eY]
   rw [L,mQ E ag,show q.room - (c+i)=q.room - c - i from by omega]
 · simp only [cond_true] at h;replace h:=aF h; obtain ⟨A,h⟩:=h;have A:=bp A;obtain ⟨q,E,I,rfl⟩:=xI hu;refine ⟨_,_,U,I,C,A,?_⟩;cases hb:aB c i
   · rw [hb] at h; cases h;have J:c≠i:=fun e=>by subst e; simp at hb
     rw [kz E ag];simp only [cF,if_neg J,dg,dt,eY]
   · rw [hb] at h; cases h;obtain rfl :=bF hb;rw [kz E ag];simp only [cF,if_true]
theorem kH {t:aj} (h:isStr P t=true):P.underlying t=some .string:=by
 unfold isStr at h; split at h
 · assumption
 · cases h
theorem zW (c i e:Nat):cF none c i e=none:=by unfold cF; split <;> rfl
theorem H0 (a:Option Addr) (c e:Nat):cF a c 0 e=a:=by
 unfold cF; split
 · rfl
 · cases a <;> simp [Addr.add]
theorem H6 {t:aj} {lo hi mx:Option az} {xs:List AV} {v:AV} (h:uJ P t lo hi mx xs=some v) (V:av r xs=some ((x::(lo.toList++(hi.toList++mx.toList))).map<|ev N σ)):
 YP P r N σ ⟨dst,.slice t x lo hi mx,ty,pos,af,g⟩ v:=by
 unfold uJ at h;split at h
 · rename_i z;split at h
   · rename_i a k j;obtain ⟨C,I⟩:=ga (u:=ev N σ x) (v:=ev N σ z) V;have E:=bY I;unfold nE at h;split at h
     · replace h:=aF h; obtain ⟨A,h⟩:=h;simp only [aU,n8,gZ] at A;cases h;refine ⟨_,U,fun w=>(z1 (kH A.1) (fH C) E ⟨eK _,?_⟩).trans ?_⟩
       · have :=bp A.2.2; simp; omega
       · simp
     · split at h
       · rename_i e he;obtain ⟨a,cap,hu,aa,J,L,M⟩:=uL h C;simp only [n8,gZ] at J L M;refine ⟨_,M,fun w=>(uO he hu E ⟨eK _,by simp; omega⟩).trans ?_⟩;simp [H0]
       · cases h
     · split at h
       · rename_i e he;replace h:=aF h; obtain ⟨A,h⟩:=h;simp only [aU,n8,gZ] at A;obtain rfl :=bF A.2;cases h;exact ⟨_,U,fun w=>uO he (gi C) E ⟨eK _,by simp⟩⟩
       · cases h
     · cases h
   · cases h
 · rename_i z;split at h
   · rename_i a k j;obtain ⟨C,I⟩:=ga (u:=ev N σ x) (v:=ev N σ z) V;have E:=bY I;unfold nE at h;split at h
     · replace h:=aF h; obtain ⟨A,h⟩:=h;simp only [aU,n8,gZ] at A;cases h;refine ⟨_,U,fun w=>(H9 (kH A.1) (fH C) E ⟨eK _,?_⟩).trans ?_⟩
       · have :=bp A.2.1; simp; omega
       · simp
     · split at h
       · rename_i e he;obtain ⟨a,cap,hu,aa,J,L,M⟩:=uL h C;simp only [n8,gZ] at J L M;exact ⟨_,M,fun w=>re he hu E ⟨eK _,by simp; omega⟩⟩
       · cases h
     · split at h
       · rename_i e he;replace h:=aF h; obtain ⟨A,h⟩:=h;simp only [aU,n8,gZ] at A;obtain rfl :=bF A.1;cases h;exact ⟨_,U,fun w=>(re he (gi C) E ⟨eK _,by simp⟩).trans<|by simp [zW]⟩
       · cases h
     · cases h
   · cases h
 · rename_i y z;split at h
   · rename_i a k i ae j;obtain ⟨C,I,J⟩:=ky (u:=ev N σ x) (v:=ev N σ y) (t:=ev N σ z) V;have O:=bY I;have E:=bY J;unfold nE at h;split at h
     · replace h:=aF h; obtain ⟨A,h⟩:=h;simp only [aU,gZ] at A;cases h;have :=bp A.2.1;have :=bp A.2.2;exact ⟨_,U,fun w=>uP (kH A.1) (fH C) O E ⟨eK _,by simp; omega,by simp; omega⟩⟩
     · split at h
       · rename_i e he;obtain ⟨a,cap,hu,aa,L,M,ac⟩:=uL h C;simp only [gZ] at L M ac;exact ⟨_,ac,fun w=>q9 he hu O E ⟨eK _,by simp; omega,by simp; omega⟩⟩
       · cases h
     · split at h
       · rename_i e he;replace h:=aF h; obtain ⟨A,h⟩:=h;simp only [aU,gZ] at A;obtain rfl :=bF A.1;obtain rfl :=bF A.2;cases h;exact ⟨_,U,fun w=>(q9 he (gi C) O E ⟨eK _,by simp,by simp⟩).trans<|by simp [zW]⟩
       · cases h
     · cases h
   · cases h
 · rename_i y z;split at h
   · rename_i b o n c q k j ae m;obtain ⟨C,I,J⟩:=ky (u:=ev N σ x) (v:=ev N σ y) (t:=ev N σ z) V;have O:=bY I;have E:=bY J;split at h
     · rename_i e he;replace h:=aF h; obtain ⟨A,h⟩:=h;simp only [aU] at A;obtain rfl :=bF A.1;have :=bp A.2;cases h;obtain ⟨q,cap,ab,aa,hu,_⟩:=gK C;exact ⟨_,kz ab (aO _),fun w=>Dq he hu O E ag⟩
     · cases h
   · cases h
 · rename_i y z u;split at h
   · rename_i b o n c q k i ae j am m;obtain ⟨_,_,Z,C,L⟩:=dv V;obtain ⟨I,J,L⟩:=ky (u:=ev N σ y) (v:=ev N σ z) (t:=ev N σ u)<|by simp at Z; rw [L,← Z.2]
     have O:=bY I;have E:=bY J;have hu:=bY L;simp at Z;rw [← Z.1] at C;split at h
     · rename_i e he;replace h:=aF h; obtain ⟨A,h⟩:=h;simp only [aU] at A;have ak:=bp A.1;have al:=bp A.2.1;have an:=bp A.2.2;obtain ⟨q,cap,ab,aa,ai,_⟩:=gK C;have ad:=fun w=>zZ (dst:=dst) (ty:=ty) (pos :=pos) (af:=af) (g:=g) (w:=w) he ai O E hu ⟨ak,al,ag⟩;cases hb:aB m i
       · rw [hb] at h; cases h;have ah:m≠i:=fun e=>by subst e; simp at hb
         refine ⟨_,kz ab ag,fun w=>(ad w).trans ?_⟩;simp only [cF,if_neg ah,dg,dt,eY]
       · rw [hb] at h; cases h;obtain rfl :=bF hb;refine ⟨_,kz ab ag,fun w=>(ad w).trans ?_⟩;simp only [cF,if_true]
     · cases h
   · cases h
 · cases h
end
end Go.Hb
namespace Go.Hb
def jL:AV→List AV
 | .agg l=>l
 | v=> [v]
theorem sM {r:Rn} {v:AV} {u:ab} (h:den r v=some u):av r (jL v)=some u.cells.toList:=by
 cases v with
 | agg l=>
   obtain ⟨us,C,rfl⟩:=oq h;simpa [jL,Value.cells] using C
 | bool b=>have :=ic h; subst this; exact dh h<|by simp [av]
 | int k n=>have :=bY h; subst this; exact dh h<|by simp [av]
 | str l=>have :=fH h; subst this; exact dh h<|by simp [av]
 | ptr b o=>obtain ⟨q,A,rfl⟩:=gJ h; exact dh h<|by simp [av]
 | fJ=>have :=mS h; subst this; exact dh h<|by simp [av]
 | sl b o n c x=>obtain ⟨q,cap,A,_,rfl,_⟩:=gK h; exact dh h<|by simp [av]
 | dR=>have :=gi h; subst this; exact dh h<|by simp [av]
 | map b=>obtain ⟨q,A,rfl⟩:=lz h; exact dh h<|by simp [av]
 | jm=>have :=xH h; subst this; exact dh h<|by simp [av]
 | fn f a c=>obtain ⟨_,_,_,_,rfl⟩:=kA h; exact dh h<|by simp [av]
 | fu l=>obtain ⟨q,A,rfl⟩:=sW h; exact dh h<|by simp [av]
 | gO=>have :=ot h; subst this; exact dh h<|by simp [av]
 | gn t v=>obtain ⟨_,_,rfl⟩:=pY h; exact dh h<|by simp [av]
 | dE=>have :=mR h; subst this; exact dh h<|by simp [av]
 | bL l=>obtain ⟨_,_,rfl⟩:=xJ h; exact dh h<|by simp [av]
def qN:AV→Bool
 | .agg _ | .bL _=>false
 | _=>true
theorem GB {r:Rn} {v:AV} {u:ab} (h:den r v=some u) (C:qN v=true):u.oneCell'=true :=by
 cases v with
 | agg l=>cases C
 | bool b=>have :=ic h; subst this; rfl
 | int k n=>have :=bY h; subst this; rfl
 | str l=>have :=fH h; subst this; rfl
 | ptr b o=>obtain ⟨q,A,rfl⟩:=gJ h; rfl
 | fJ=>have :=mS h; subst this; rfl
 | sl b o n c x=>obtain ⟨q,cap,A,_,rfl,_⟩:=gK h; rfl
 | dR=>have :=gi h; subst this; rfl
 | map b=>obtain ⟨q,A,rfl⟩:=lz h; rfl
 | jm=>have :=xH h; subst this; rfl
 | fn f a c=>obtain ⟨_,_,_,_,rfl⟩:=kA h; rfl
 | fu l=>obtain ⟨q,A,rfl⟩:=sW h; rfl
 | gO=>have :=ot h; subst this; rfl
 | gn t v=>obtain ⟨_,_,rfl⟩:=pY h; rfl
 | dE=>have :=mR h; subst this; rfl
 | bL l=>cases C
def dy:List AV→Bool
 | []=>true
 | v::l=>cond (qN v) (dy l) false
theorem nk {r:Rn} :∀ {l:List AV} {us:List ab},av r l=some us→dy l=true→∀ u∈us,u.oneCell'=true
 | [],us,h,_,u,hu=>by rw [jc h] at hu; cases hu
 | v::l,us,h,h1,u,hu=>by
   obtain ⟨E,I,rfl,A,C⟩:=dv h;simp only [dy] at h1;cases hv:qN v
   · rw [hv] at h1; cases h1
   · rw [hv] at h1;rcases db.1 hu with rfl | hu
     · exact GB A hv
     · exact nk C h1 u hu
def lE (pl:Nat→Option (Nat×Nat)):List AV→List (Nat×AV)→Option (List AV)
 | A,[]=>some A
 | A,(i,v)::ps=>match pl i with
   | some (off,s)=>cond (aB (jL v).length s && aG (off+s) A.length) (lE pl (A.take off++(jL v++A.drop (off+s))) ps) none
   | none=>none
theorem xZ:∀ (l:List ab) (m off :Nat) (cs:Array ab),off+m+l.length≤cs.size→
 (l.zipIdx m).foldl (fun (cs:Array ab) (c,j)=>cs.setIfInBounds (off+j) c) cs=(cs.toList.take (off+m)++(l++cs.toList.drop (off+m+l.length))).toArray
 | [],m,off,cs,h=>by simp
 | c::l,m,off,cs,h=>by
   simp only [List.zipIdx_cons,List.foldl_cons,bZ] at h ⊢;rw [xZ l (m+1) off _ (by simp; omega)];apply rE.1;have A:off+m < cs.toList.length:=by rw [mj]; omega
   simp only [Array.toList_setIfInBounds];rw [show off+(m+1)=off+m+1 from by omega,zR A,zQ ag,show off+m+1 +l.length=off+m+(l.length+1) from by omega];simp
theorem th {r:Rn} {pl:Nat→Option (Nat×Nat)} :∀ {ps:List (Nat×AV)} {I L:List AV} {Z:List ab} {vs:List (Nat×ab)},lE pl I ps=some L→av r I=some Z→
 vs.map bN=ps.map bN→av r (ps.map lf)=some (vs.map lf)→∃ C,av r L=some C∧iw pl Z.toArray vs=some C.toArray
 | [],I,L,Z,vs,h,hz,A,E=>by
   simp only [lE,aY] at h;subst h;obtain rfl :vs= []:=by simpa using A
   exact ⟨Z,hz,U⟩
 | (i,v)::ps,I,L,Z,vs,h,hz,A,E=>by
   cases vs with
   | nil=>simp at A
   | cons p vs=>
     obtain ⟨j,u⟩:=p;simp only [da,iT] at A;obtain ⟨rfl,A⟩:=A;simp only [da] at E;obtain ⟨al,am,he,ah,E⟩:=dv E;simp only [iT] at he;obtain ⟨rfl,rfl⟩:=he;simp only [lE] at h;split at h
     · rename_i off s ag;replace h:=aF h; obtain ⟨J,h⟩:=h;simp only [aU] at J;have V:=bF J.1;have aj:=bp J.2;have M:=sM ah;have ae:=cB M;have ak:=cB hz;have ai:=eu (ib off hz)<|eu M<|iF (off+s) hz;obtain ⟨C,aa,ac⟩:=th h ai A E;refine ⟨C,aa,?_⟩;have O:u.cells.size=s:=by rw [← mj,ae,V]
       simp only [iw,ag,O];rw [if_neg (by simp; omega),← ac];congr 1;have ad:=xZ u.cells.toList 0 off Z.toArray<|by simp; omega
       rw [show u.cells.zipIdx.foldl (fun (cs:Array ab) (c,j)=>cs.setIfInBounds (off+j) c) Z.toArray=((u.cells.toList.zipIdx 0).foldl (fun (cs:Array ab) (c,j)=>cs.setIfInBounds (off+j) c) Z.toArray) from by
        rw [← AX]; simp [Array.toList_zipIdx],ad]
       simp [O]
     · cases h
def ke:List (Nat×az)→List AV→List (Nat×AV)
 | p::ps,v::vs=>(p.1,v)::ke ps vs
 | _,_=> []
theorem vz {r:Rn} {f:az→ab} :∀ {ps:List (Nat×az)} {xs:List AV},av r xs=some ((ps.map (·.2)).map f)→
 (ps.map fun p=>(p.1,f p.2)).map bN=(ke ps xs).map bN∧av r ((ke ps xs).map lf)=some ((ps.map fun p=>(p.1,f p.2)).map lf)
 | [],xs,h=>by
   have :=cB h;obtain rfl :xs= []:=iU<|by simpa using this.symm
   simp [ke,av]
 | p::ps,[],h=>by have :=cB h; simp at this
 | p::ps,v::xs,h=>by
   simp only [da] at h;obtain ⟨u,us,he,A,C⟩:=dv h;simp only [iT] at he;obtain ⟨rfl,rfl⟩:=he;obtain ⟨E,I⟩:=vz (f:=f) C;refine ⟨?_,?_⟩
   · simp only [da,ke,iT,true_and]; exact E
   · simp only [da,ke]; exact dh A I
def xr (P:ak) (t u:aj) (n:Int):Option AV:=match P.underlying u with
 | some (.int k)=>cond (P.underlying t).isSome (ek k<|mg k n) none
 | _=>none
def sC (P:ak) (b:Builtin) (A:Array aj) (xs:List AV):Option AV:=match b with
 | .len=>match xs,A with
   | [.str l],⟨[t]⟩=>cond (isStr P t) (ek .i64 l.length) none
   | [.sl _ _ n _ _],⟨[t]⟩=>cond (iL P t) (ek .i64 n) none
   | [.dR],⟨[t]⟩=>cond (iL P t) (ek .i64 0) none
   | _,_=>none
 | .min =>match xs with
   | [.int k a,.int k' b]=>cond (aB (de k)<|de k') (ek k<|min a b) none
   | _=>none
 | .max =>match xs with
   | [.int k a,.int k' b]=>cond (aB (de k)<|de k') (ek k<|max a b) none
   | _=>none
 | _=>none
def wP (P:ak) (t:aj):Option (Nat×Nat):=match P.underlying t with
 | some (.array n e)=>match P.info? e with
   | some i=>match cM P e with
     | some none=>some (n,i.size)
     | _=>none
   | none=>none
 | _=>none
def lR (P:ak) (o:Op) (xs:List AV):Option AV:=match o with
 | .move _=>match xs with
   | [x]=>some x
   | _=>none
 | .assign _=>match xs with
   | [x]=>some x
   | _=>none
 | .pick _ _ _=>match xs with
   | [.bool true,a,_]=>some a
   | [.bool false,_,b]=>some b
   | _=>none
 | .nilCheck _=>match xs with
   | [.ptr b o]=>some<|.ptr b o
   | _=>none
 | .extract _ i=>match xs with
   | [.bL l]=>l[i]?
   | _=>none
 | .fieldAddr s _ f=>match xs with
   | [.ptr b o]=>match mY P s f with
     | some n=>some<|.ptr b<|o+n
     | none=>none
   | _=>none
 | .field s _ f=>match xs with
   | [.agg l]=>match tf P s f with
     | some n=>l[n]?
     | none=>match tg P s f with
       | some (C,off)=>match cM P C with
         | some (some n)=>some<|.agg<|(l.drop off).take n
         | _=>none
       | none=>none
   | _=>none
 | .indexAddr s _ _=>match xs with
   | [.sl b o n _ _,.int _ (.ofNat i)]=>match cO P s with
     | some e=>cond (au i n) (some<|.ptr b<|o+i*e) none
     | none=>none
   | [.ptr b o,.int _ (.ofNat i)]=>match kr P s with
     | some (n,e)=>cond (au i n) (some<|.ptr b<|o+i*e) none
     | none=>none
   | _=>none
 | .index t _ _=>match xs with
   | [.str l,.int _ (.ofNat i)]=>cond (isStr P t) (match l[i]? with
     | some c=>ek .u8 c.toNat
     | none=>none) none
   | [.agg l,.int _ (.ofNat i)]=>match wP P t with
     | some (n,s)=>cond (au i n) l[i*s]? none
     | none=>none
   | _=>none
 | .binOp op t x y _=>match xs with
   | [a,b]=>sB P (ax x || ax y) op t a b
   | _=>none
 | .unOp .not _ _=>match xs with
   | [.bool b]=>some<|.bool<|!b
   | _=>none
 | .convert t u _=>match xs with
   | [.int _ n]=>xr P t u n
   | _=>none
 | .slice t _ lo hi mx=>uJ P t lo hi mx xs
 | .makeInterface t _=>match xs with
   | [x]=>cond (jk P t) (some<|.gn t x) none
   | _=>none
 | .typeAssert _ _ a true =>match xs with
   | [.dE]=>cond (jk P a) (match zeroV P a with
     | some z=>match ij 4 z with
       | some z=>some<|.bL [z,.bool false]
       | none=>none
     | none=>none) none
   | [.gn t v]=>cond (jk P a && aB t a) (some<|.bL [v,.bool true]) none
   | _=>none
 | .makeFunc (.func f) ⟨a⟩ _=>some<|.fn f (xs.take a.length)<|xs.drop a.length
 | .build t ⟨ps⟩=>match fl P t with
   | some (pl,A)=>match jn (ij 4) A with
     | some A=>match lE (fun i=>pl.toArray[i]?) A (ke ps xs) with
       | some l=>some<|.agg l
       | none=>none
     | none=>none
   | none=>none
 | .call ⟨.builtin b,_,ts⟩=>sC P b ts xs
 | _=>none
section
variable {P:ak} {r:Rn} {N:Fm} {σ:Nat→ab} {dst:Option Nat} {ty:aj} {pos :String} {af:Array bB} {g:Option (Nat×Bool)} {x y z:az}
theorem oE {t:aj} (h:iL P t=true):∃ e,P.underlying t=some (.slice e):=by
 unfold iL at h; split at h
 · exact ⟨_,by assumption⟩
 · cases h
theorem CY {b:Builtin} {l:List az} {J:Array aj} {xs:List AV} {v:AV} (h:sC P b J xs=some v) (E:av r xs=some (l.map<|ev N σ)):YP P r N σ ⟨dst,.call ⟨.builtin b,⟨l⟩,J⟩,ty,pos,af,g⟩ v:=by
 unfold sC at h;have one:∀ {a:AV},av r [a]=some (l.map<|ev N σ)→∃ x,l= [x]∧den r a=some (ev N σ x):=by
  intro a h;have :=cB h;simp at this;obtain ⟨x,rfl⟩:=pC.1 this;exact ⟨x,U,dX h⟩
 have two:∀ {a b:AV},av r [a,b]=some (l.map<|ev N σ)→∃ x y,l= [x,y]∧den r a=some (ev N σ x)∧den r b=some (ev N σ y):=by
  intro a b h;have :=cB h;simp at this;obtain ⟨x,y,rfl⟩:∃ x y,l= [x,y]:=by
   match l,this with
   | [x,y],_=>exact ⟨x,y,rfl⟩
  exact ⟨x,y,U,ga h⟩
 split at h
 · split at h
   · obtain ⟨x,rfl,C⟩:=one E;replace h:=aF h; obtain ⟨A,h⟩:=h;rw [eH] at h; cases h;exact ⟨_,U,fun w=>yM (kH A) U<|fH C⟩
   · obtain ⟨x,rfl,C⟩:=one E;replace h:=aF h; obtain ⟨A,h⟩:=h;rw [eH] at h; cases h;obtain ⟨e,he⟩:=oE A;obtain ⟨q,cap,M,_,hu,_⟩:=gK C;exact ⟨_,U,fun w=>tP he U hu⟩
   · obtain ⟨x,rfl,C⟩:=one E;replace h:=aF h; obtain ⟨A,h⟩:=h;rw [eH] at h; cases h;obtain ⟨e,he⟩:=oE A;exact ⟨_,U,fun w=>tP he U<|gi C⟩
   · cases h
 · split at h
   · rename_i k a L b;obtain ⟨x,y,rfl,C,I⟩:=two E;replace h:=aF h; obtain ⟨A,h⟩:=h;obtain rfl :=lJ A;rw [eH] at h; cases h;exact ⟨_,U,fun w=>mn (bY C)<|bY I⟩
   · cases h
 · split at h
   · rename_i k a L b;obtain ⟨x,y,rfl,C,I⟩:=two E;replace h:=aF h; obtain ⟨A,h⟩:=h;obtain rfl :=lJ A;rw [eH] at h; cases h;exact ⟨_,U,fun w=>mx (bY C)<|bY I⟩
   · cases h
 · cases h
theorem CV {t:aj} {parts:Array (Nat×az)} {pl:List (Nat×Nat)} {C L:List ab} (h:fl P t=some (pl,C)) (A:iw (pl.toArray[·]?) C.toArray (parts.toList.map fun p=>(p.1,ev N σ p.2))=some L.toArray) (w:ah):
 (execOp (ev N σ) ⟨dst,.build t parts,ty,pos,af,g⟩).run P w= .ok (.value<|.agg L.toArray) w:=by
 unfold fl at h;split at h
 · rename_i it fields hi hu;split at h
   · rename_i z I E hm;simp only [aY,jG] at h;obtain ⟨rfl,rfl⟩:=h;have hb:P.built t (parts.map fun p=>(p.1,ev N σ p.2)).toList=some L.toArray:=by
      simp only [Array.toArray_toList] at A;simp only [Program.built,hi,hu,E,hm,gv]; exact A
     simp [execOp,run_build w t _ _ hb]
   · cases h
 · cases h
theorem zl {o:Op} {xs:List AV} {v:AV} (h:lR P o xs=some v) (E:av r xs=some ((eU o).map<|ev N σ)):YP P r N σ ⟨dst,o,ty,pos,af,g⟩ v:=by
 unfold lR at h;split at h
 · split at h
   · cases h; exact ⟨_,dX E,fun w=>mv⟩
   · cases h
 · split at h
   · cases h; exact ⟨_,dX E,fun w=>aE⟩
   · cases h
 · split at h
   · cases h;obtain ⟨A,I,aa⟩:=ky E;exact ⟨_,I,fun w=>qT<|ic A⟩
   · cases h;obtain ⟨A,I,aa⟩:=ky E;exact ⟨_,aa,fun w=>zq<|ic A⟩
   · cases h
 · split at h
   · cases h;have A:=dX E;obtain ⟨q,O,hu⟩:=gJ A;exact ⟨_,A.trans (by rw [hu]),fun w=>nc hu⟩
   · cases h
 · split at h
   · obtain ⟨us,L,hu⟩:=xJ<|dX E;obtain ⟨u,V,Z⟩:=mP L h;exact ⟨u,Z,fun w=>xt hu<|by simpa using V⟩
   · cases h
 · split at h
   · split at h
     · rename_i n hn;cases h;obtain ⟨q,O,hu⟩:=gJ<|dX E;exact ⟨_,by simp only [den,O]; rfl,fun w=>(fa hn hu).trans<|by rw [eY]⟩
     · cases h
   · cases h
 · split at h
   · split at h
     · rename_i n hn;obtain ⟨us,L,hu⟩:=oq<|dX E;obtain ⟨u,V,Z⟩:=mP L h;exact ⟨u,Z,fun w=>EI hn hu<|by simpa using V⟩
     · split at h
       · rename_i ao off aj;split at h
         · rename_i n ha;cases h;obtain ⟨us,L,hu⟩:=oq<|dX E;have A:=ib n<|iF off L;exact ⟨_,by simp only [den,A],fun w=>ET aj ha hu U⟩
         · cases h
       · cases h
   · cases h
 · split at h
   · split at h
     · rename_i e he;replace h:=aF h; obtain ⟨J,h⟩:=h;cases h;obtain ⟨A,I⟩:=ga E;obtain ⟨q,cap,O,L,hu,_⟩:=gK A;have :=bQ.1 J;refine ⟨_,by simp only [den,O]; rfl,fun w=>(ia he hu (bY I) ⟨eK _,by simp; omega⟩).trans ?_⟩;simp [eY]
     · cases h
   · split at h
     · rename_i n e he;replace h:=aF h; obtain ⟨J,h⟩:=h;cases h;obtain ⟨A,I⟩:=ga E;obtain ⟨q,O,hu⟩:=gJ A;have :=bQ.1 J;refine ⟨_,by simp only [den,O]; rfl,fun w=>(qn he hu (bY I) ⟨eK _,by simp; omega⟩).trans ?_⟩;simp [eY]
     · cases h
   · cases h
 · split at h
   · rename_i t _ _ l k i;replace h:=aF h; obtain ⟨J,h⟩:=h;obtain ⟨A,I⟩:=ga E;split at h
     · rename_i c L;rw [eH] at h; cases h;obtain ⟨am,ae⟩:=cy.1 L;refine ⟨_,U,fun w=>(jW (kH J) (fH A) (bY I) am).trans ?_⟩;simp [cH,L]
     · cases h
   · rename_i l k i;split at h
     · rename_i n s M;replace h:=aF h; obtain ⟨J,h⟩:=h;have J:=bQ.1 J;obtain ⟨A,I⟩:=ga E;obtain ⟨us,L,hu⟩:=oq A;obtain ⟨u,V,Z⟩:=mP L h;have an:=bY I;unfold wP at M;split at M
       · rename_i ap e hn;split at M
         · rename_i j ak;split at M
           · rename_i ha;cases M;refine ⟨u,Z,fun w=> ?_⟩;have ae:us.toArray[i*j.size]? =some u:=by simpa using V
             have h0:(0:Int)≤jE i∧jE i < (n:Int):=⟨eK _,by simp; omega⟩
             simp only [execOp,Instr.index,hu,an,asIntOf,fT,iS,fw,aR hn,Sem.run_ite,h0,and_self,if_true,sizeOf,cJ ak,part,zH ha];simp [ae]
           · cases M
         · cases M
       · cases M
     · cases h
   · cases h
 · split at h
   · obtain ⟨A,I⟩:=ga E;exact CU (fun h=>h) h A I
   · cases h
 · split at h
   · cases h; exact ⟨_,rfl,fun w=>no<|ic<|dX E⟩
   · cases h
 · split at h
   · unfold xr at h;split at h
     · rename_i k al;replace h:=aF h; obtain ⟨J,h⟩:=h;rw [eH,o7] at h; cases h;exact ⟨_,U,fun w=>DB al J (bY<|dX E) U⟩
     · cases h
   · cases h
 · exact H6 h E
 · split at h
   · replace h:=aF h; obtain ⟨J,h⟩:=h;cases h;have A:=dX E;exact ⟨_,by simp only [den,A],fun w=>ua J U⟩
   · cases h
 · split at h
   · replace h:=aF h; obtain ⟨J,h⟩:=h;split at h
     · rename_i z ab;split at h
       · rename_i au ac;cases h;have aa:=kM (r:=r) 4 ac;exact ⟨_,by simp [den,av,aa],fun w=>Ah J ab<|mR<|dX E⟩
       · cases h
     · cases h
   · replace h:=aF h; obtain ⟨J,h⟩:=h;simp only [aU] at J;obtain rfl :=bF J.2;cases h;obtain ⟨ar,A,I⟩:=pY<|dX E;exact ⟨_,by simp [den,av,A],fun w=>Ag J.1 I⟩
   · cases h
 · rename_i f a c;cases h;simp only [eU,mC] at E;obtain ⟨c⟩:=c;simp only at E;have A:=ib a.length E;have I:=iF a.length E;rw [List.take_left' (by simp)] at A;rw [List.drop_left' (by simp)] at I;exact ⟨_,by simp only [den,A,I],fun w=>qG⟩
 · rename_i t ps;split at h
   · rename_i pl aw M;split at h
     · rename_i ax ab;split at h
       · rename_i l ah;cases h;have ac:=nj (r:=r) (fun v a=>kM 4) ab;obtain ⟨A,I⟩:=vz (f:=ev N σ) E;obtain ⟨C,ag,ai⟩:=th ah ac A I;exact ⟨.agg C.toArray,by simp only [den,ag],fun w=>CV M ai w⟩
       · cases h
     · cases h
   · cases h
 · rename_i b ad aq;obtain ⟨ad⟩:=ad;exact CY h E
 · cases h
end
end Go.Hb
namespace Go.Hb
theorem yT {r s:Rn} (h:r.le s):∀ {l:List (AV×AV)} {es:List MapEntry},eT r l es→eT s l es
 | [],[],_=>trivial
 | p::l,m::es,hm=>⟨jO h hm.1,jO h hm.2.1,yT h hm.2.2⟩
 | [],_::_,hm=>hm.elim
 | _::_,[],hm=>hm.elim
theorem OR.le {P:ak} {r s:Rn} (h:r.le s) {q:Loc} {o:AO} {ob:Option Obj} (I:OR P r q o ob):OR P s q o ob:=by
 cases o with
 | cells l e fz ex=>obtain ⟨c,fr,us,A,C,E⟩:=I; exact ⟨c,fr,us,A,gd h C,E⟩
 | map l=>obtain ⟨es,c,A,C,E⟩:=I; exact ⟨es,c,A,yT h C,E⟩
 | loop st U n fr ps aE body D=>
   obtain ⟨fn,L,O,A,⟨x,C,E⟩,h4,h5⟩:=I;refine ⟨fn,L,O,A,⟨x,h _ _ C,E⟩,h4,fun i hi=> ?_⟩;have J:=h5 i hi;have M:i < L.size:=ag;rw [mh M] at J ⊢;exact jO h J
 | jP b=>exact I
 | uW l p=>exact I
structure HR (P:ak) (G:Nat) (r:Rn) (T:Nat) (h:Hp) (w:ah):Prop where
 live:∀ i o,h.t.get i=some o→∃ q,r i=some q∧OR P r q o w.heap[q.ao]?
 inj:∀ i j o o' q q',h.t.get i=some o→h.t.get j=some o'→r i=some q→r j=some q'→q.ao=q'.ao→i=j
 new:∀ i,h.nx≤i→i < T→r i=none
 eF:mH G r
 base:G≤h.nx
def Fr (G:Nat) (r:Rn) (h:Hp) (k:Nat):Prop := ∃ i o q,G≤i∧h.t.get i=some o∧r i=some q∧q.ao=k
structure St (P:ak) (G T:Nat) (r:Rn) (h:Hp) (w:ah) (r':Rn) (h':Hp) (w':ah):Prop where
 le:r.le r'
 hr:HR P G r' T h' w'
 nx:h.nx≤h'.nx
 md:Md (Fr G r h) w w'
 dx:∀ g,g≤G→∀ k,k < w.heap.size→Fr g r' h' k→Fr g r h k
 out:∀ i,h'.nx≤i→r' i=r i
theorem St.trans {P:ak} {G T:Nat} {r r' L:Rn} {h E I:Hp} {w w' w'':ah} (a:St P G T r h w r' E w') (b:St P G T r' E w' L I w''):St P G T r h w L I w'':=
 ⟨Rn.le_trans a.le b.le,b.hr,bX a.nx b.nx,Md.trans' a.md b.md (fun k A C=>a.dx G (aO _) k A C),fun g J k A C=>a.dx g J k A (b.dx g J k (k9 A a.md.size) C),fun i hi=>(b.out i hi).trans<|a.out i<|bX b.nx hi⟩
theorem St.refl {P:ak} {G T:Nat} {r:Rn} {h:Hp} {w:ah} (hr:HR P G r T h w):St P G T r h w r h w:=⟨Rn.le_refl r,hr,aO _,Md.refl _ _,fun _ _ _ _ h=>h,fun _ _=>rfl⟩
theorem St.drew {P:ak} {G T:Nat} {r r':Rn} {h A:Hp} {w w':ah} (a:St P G T r h w.drew r' A w'):St P G T r h w r' A w':=⟨a.le,a.hr,a.nx,⟨a.md.os,a.md.output,a.md.size,a.md.cD⟩,a.dx,a.out⟩
section
variable {P:ak} {G:Nat} {r:Rn} {T:Nat} {h:Hp} {w:ah}
theorem HR.drew (hr:HR P G r T h w):HR P G r T h w.drew:=⟨hr.live,hr.inj,hr.new,hr.eF,hr.base⟩
theorem HR.cells (hr:HR P G r T h w) {b:Nat} {l:List AV} {e fz:Nat} {ex:Ck} (hb:h.t.get b=some (.cells l e fz ex)):
 ∃ q us,r b=some q∧av r l=some us∧(∀ j u,us[j]? =some u→ay w.heap q.ao (q.sh+j)=some u)∧∃ c fr,w.heap[q.ao]? =some (.cells c e fr):=by
 obtain ⟨q,J,c,fr,us,A,C,L,E,_⟩:=hr.live b _ hb;exact ⟨q,us,J,C,fun j u I=>by rw [dd A]; exact E j u I,c,fr,A⟩
def YL (P:ak) (r:Rn) (N:Fm) (σ:Nat→ab) (o:aq) (w:ah) (v:AV):Prop := ∃ u,den r v=some u∧(execOp (ev N σ) o).run P w= .ok (.value u) w
end
def l9:List AV→Option (List UInt8)
 | []=>some []
 | .int .u8 (.ofNat n)::l=>match l9 l with
   | some m=>cond (au n 256) (some (ee n::m)) none
   | none=>none
 | _=>none
theorem va {r:Rn} :∀ {l:List AV} {m:List UInt8} {us:List ab},l9 l=some m→av r l=some us→us=U8 m
 | [],m,us,h,hd=>by simp only [l9,aY] at h; subst h; rw [jc hd]; rfl
 | a::l,m,us,h,hd=>by
   unfold l9 at h;split at h
   · rename_i h0; cases h0
   · rename_i n I h0;cases h0;split at h
     · rename_i J hm;replace h:=aF h; obtain ⟨E,h⟩:=h;cases h;obtain ⟨u,L,rfl,A,C⟩:=dv hd;obtain rfl :=bY A;obtain rfl :=va hm C;have :=bQ.1 E;simp only [U8,da,iT,and_true];congr 1;exact (IW n this).symm
     · cases h
   · cases h
inductive KK | s | i (k:bc) | bs
def lN (P:ak) (k:aj) (a:AV):Option KK:=match a with
 | .str _=>cond (isStr P k) (some .s) none
 | .int q _=>match P.underlying k with
   | some (.int _)=>some<|.i q
   | _=>none
 | .agg _=>cond (lv P k) (some .bs) none
 | _=>none
def c7 (A:KK) (a:AV):Bool:=match A,a with
 | .s,.str _=>true
 | .i k,.int k' _=>aB (de k)<|de k'
 | .bs,.agg [.bool _,.str _]=>true
 | _,_=>false
def ei (A:KK):List (AV×AV)→Bool
 | []=>true
 | p::l=>cond (c7 A p.1) (ei A l) false
def nf:KK→ab→Prop
 | .s=>Fs
 | .i k=>yu k
 | .bs=>tH
where Fs (v:ab):Prop := ∃ s:List UInt8,v=str s
def eR (a b:AV):Bool:=match a,b with
 | .str l,.str m=>gj l m
 | .int _ a,.int _ b=>decide (a=b)
 | .agg [.bool a,.str l],.agg [.bool b,.str m]=>cond (a==b) (gj l m) false
 | _,_=>false
def kI (x:AV):List (AV×AV)→Option AV
 | []=>none
 | p::l=>cond (eR p.1 x) (some p.2)<|kI x l
section
variable {P:ak} {r:Rn}
theorem qt {C:KK} {a:AV} {u:ab} (h:c7 C a=true) (A:den r a=some u):nf C u:=by
 unfold c7 at h;split at h
 · exact ⟨_,fH A⟩
 · rename_i k O n;obtain rfl :=lJ h;exact ⟨_,bY A⟩
 · obtain ⟨us,E,rfl⟩:=oq A;obtain ⟨V,aa,rfl,I,J⟩:=dv E;obtain ⟨Z,ac,rfl,L,M⟩:=dv J;obtain rfl :=jc M;obtain rfl :=ic I;obtain rfl :=fH L;exact ⟨_,_,U⟩
 · cases h
theorem yC {a:AV} (h:c7 .s a=true):∃ l,a= .str l:=by
 cases a with
 | str l=>exact ⟨l,rfl⟩
 | _=>exact dn (show false =true from h)
theorem yB {k:bc} {a:AV} (h:c7 (.i k) a=true):∃ n,a= .int k n:=by
 cases a with
 | int A n=>exact ⟨n,by rw [lJ (show aB (de k) (de A)=true from h)]⟩
 | _=>exact dn (show false =true from h)
theorem yA {a:AV} (h:c7 .bs a=true):∃ f l,a= .agg [.bool f,.str l]:=by
 unfold c7 at h;split at h <;> first
  | exact ⟨_,_,rfl⟩
  | contradiction
  | (exfalso; cases h; done)
  | (rename_i A; cases A; done)
  | (rename_i A _; cases A; done)
theorem xG {f:Bool} {l:List UInt8} {u:ab} (h:den r (.agg [.bool f,.str l])=some u):u= .agg #[.bool f,str l]:=by simpa [den,av] using h.symm
theorem str_inj {l m:List UInt8} (h:str l=str m):l=m:=by unfold str at h; cases h; rfl
theorem jY {I:KK} {a b:AV} {u v:ab} (A:c7 I a=true) (C:c7 I b=true) (hu:den r a=some u) (E:den r b=some v):eR a b=true↔u=v:=by
 cases I with
 | s=>
   obtain ⟨l,rfl⟩:=yC A;obtain ⟨m,rfl⟩:=yC C;rw [fH hu,fH E];simp only [eR,mX,decide_eq_true_iff];exact ⟨fun h=>by rw [h],str_inj⟩
 | i k=>
   obtain ⟨l,rfl⟩:=yB A;obtain ⟨m,rfl⟩:=yB C;rw [bY hu,bY E];simp only [eR,decide_eq_true_iff];exact ⟨fun h=>by rw [h],fun h=>by cases h; rfl⟩
 | bs=>
   obtain ⟨f,l,rfl⟩:=yA A;obtain ⟨g,m,rfl⟩:=yA C;rw [xG hu,xG E];simp only [eR,mX];cases hab:(f==g)
   · have :f≠g:=by simpa using hab
     exact ⟨fun h=>dn h,fun h=>by simp at h; exact absurd h.1 this⟩
   · obtain rfl :f=g:=by simpa using hab
     simp only [cond_true,decide_eq_true_iff];exact ⟨fun h=>by rw [h],fun h=>by simp at h; exact str_inj h⟩
theorem tK {k:aj} {a:AV} {C:KK} (h:lN P k a=some C):mI P k (nf C):=by
 unfold lN at h;split at h
 · replace h:=aF h; obtain ⟨A,h⟩:=h;cases h;exact (tJ<|kH A).key
 · split at h
   · cases h; exact (yy<|by assumption).key
   · cases h
 · replace h:=aF h; obtain ⟨A,h⟩:=h;cases h;exact FC A
 · cases h
theorem qE {A:KK} :∀ {l:List (AV×AV)} {es:List MapEntry},eT r l es→ei A l=true→∀ p∈es.map (fun e=>(e.key,e.val)),nf A p.1
 | [],[],_,_,p,hp=>by simp at hp
 | q::l,m::es,hm,hk,p,hp=>by
   simp only [ei] at hk;cases h1:c7 A q.1
   · rw [h1] at hk; cases hk
   · rw [h1] at hk;rcases db.1 hp with rfl | hp
     · exact qt h1 hm.1
     · exact qE hm.2.2 hk p hp
 | [],_::_,hm,_,_,_=>hm.elim
 | _::_,[],hm,_,_,_=>hm.elim
theorem yx {E:KK} {x v:AV} {kx:ab} (C:c7 E x=true) (A:den r x=some kx):∀ {l:List (AV×AV)} {es:List MapEntry},eT r l es→ei E l=true→kI x l=some v→∃ u,den r v=some u∧(kx,u)∈es.map (fun e=>(e.key,e.val))
 | [],_,_,_,h=>by cases h
 | q::l,[],hm,_,_=>hm.elim
 | q::l,m::es,hm,hk,h=>by
   simp only [ei] at hk;cases h1:c7 E q.1
   · rw [h1] at hk; cases hk
   · rw [h1] at hk;simp only [kI] at h;cases he:eR q.1 x
     case true =>
      have he:=(jY h1 C hm.1 A).1 he;rw [(jY h1 C hm.1 A).2 he] at h;cases h;exact ⟨m.val,hm.2.1,by rw [← he]; exact ix⟩
     case false =>
      rw [he] at h;obtain ⟨u,I,J⟩:=yx C A hm.2.2 hk h;exact ⟨u,I,iV _ J⟩
theorem tI {C:KK} {x:AV} {kx:ab} (I:c7 C x=true) (E:den r x=some kx):∀ {l:List (AV×AV)} {es:List MapEntry},eT r l es→ei C l=true→kI x l=none→∀ v,(kx,v)∉es.map (fun e=>(e.key,e.val))
 | [],[],_,_,_,v=>by simp
 | [],_::_,hm,_,_,_=>hm.elim
 | q::l,[],hm,_,_,_=>hm.elim
 | q::l,m::es,hm,hk,h,v=>by
   simp only [ei] at hk;cases h1:c7 C q.1
   · rw [h1] at hk; cases hk
   · rw [h1] at hk;simp only [kI] at h;cases he:eR q.1 x
     case true =>rw [he] at h; cases h
     case false =>
      rw [he] at h;intro J;rcases db.1 J with A | A
      · cases A; have :=(jY h1 I hm.1 E).2 rfl; rw [he] at this; cases this
      · exact tI I E hm.2.2 hk h v A
end
end Go.Hb
namespace Go.Hb
def xu (P:ak) (t u:aj) (x:AV) (h:Hp):Option AV:=match x with
 | .sl _ _ 0 _ _=>match P.underlying t with
   | some (.slice e)=>cond (ku P t e u) (some<|.str []) none
   | _=>none
 | .sl b o n _ _=>match h.t.get b with
   | some (.cells l e _ _)=>cond (ku P t e u && aG (o+n) l.length) (match l9 ((l.drop o).take n) with
     | some m=>some<|.str m
     | none=>none) none
   | _=>none
 | .dR=>match P.underlying t with
   | some (.slice e)=>cond (ku P t e u) (some<|.str []) none
   | _=>none
 | .ptr b 0=>match h.t.get b with
   | some (.cells l e 0 .x)=>cond (ma P t u e l.length || ma P u t e l.length) (some<|.ptr b 0) none
   | _=>none
 | _=>none
def qv (P:ak) (t:aj) (x:AV) (h:Hp):Option AV:=match x with
 | .ptr b o=>match h.t.get b with
   | some (.cells l _ _ _)=>match cM P t with
     | some none=>l[o]?
     | some (some n)=>cond (aG (o+n) l.length) (some<|.agg<|(l.drop o).take n) none
     | none=>none
   | _=>none
 | _=>none
def im (P:ak) (o:Op) (xs:List AV) (h:Hp):Option AV:=match o with
 | .load t _=>match xs with
   | [x]=>qv P t x h
   | _=>none
 | .lookup t _ _ ok=>match xs with
   | [.map b,k]=>match h.t.get b with
     | some (.map l)=>match P.underlying t with
       | some (.map kt e)=>match lN P kt k with
         | some A=>cond (c7 A k && ei A l) (match kI k l with
           | some v=>some<|cond ok (.bL [v,.bool true]) v
           | none=>match zeroV P e with
             | some z=>match ij 4 z with
               | some z=>some<|cond ok (.bL [z,.bool false]) z
               | none=>none
             | none=>none) none
         | none=>none
       | _=>none
     | _=>none
   | _=>none
 | .convert t u _=>match xs with
   | [x]=>xu P t u x h
   | _=>none
 | .slice t _ none none none=>match xs with
   | [.ptr b 0]=>match h.t.get b with
     | some (.cells _ _ _ .x)=>match kr P t with
       | some (n,_)=>some<|.sl b 0 n n true
       | none=>none
     | _=>none
   | _=>none
 | .call ⟨.builtin .len,_,⟨[t]⟩⟩=>match xs with
   | [.map b]=>match h.t.get b with
     | some (.map l)=>match P.underlying t with
       | some (.map _ _)=>ek .i64 l.length
       | _=>none
     | _=>none
   | _=>none
 | _=>none
section
variable {P:ak} {G:Nat} {r:Rn} {T:Nat} {h:Hp} {w:ah} {N:Fm} {σ:Nat→ab} {dst:Option Nat} {ty:aj} {pos :String} {af:Array bB} {g:Option (Nat×Bool)} {x y z:az}
theorem yU:∀ {l:List (AV×AV)} {es:List MapEntry},eT r l es→es.length=l.length
 | [],[],_=>rfl
 | p::l,m::es,hm=>by simp [yU hm.2.2]
 | [],_::_,hm=>hm.elim
 | _::_,[],hm=>hm.elim
theorem HR.map (hr:HR P G r T h w) {b:Nat} {l:List (AV×AV)} (hb:h.t.get b=some (.map l)):∃ q es c,r b=some q∧w.heap[q.ao]? =some (.map es c)∧eT r l es.toList∧(es.toList.map fun e=>e.key).Nodup:=by
 obtain ⟨q,I,es,c,A,C,E⟩:=hr.live b _ hb;exact ⟨q,es,c,I,A,C,E⟩
theorem yG (hr:HR P G r T h w) {t:aj} {a v:AV} {v0:ab} (A:qv P t a h=some v) (V:den r a=some v0):∃ b off u,v0= .pointer (some ⟨b,off,none⟩)∧den r v=some u∧
 ((cM P t=some none∧ay w.heap b off =some u)∨∃ (n:Nat) (cs:List ab),cM P t=some (some n)∧u= .agg cs.toArray∧cs.length=n∧∀ j,j < n→ay w.heap b (off+j)=cs[j]?):=by
 unfold qv at A;split at A
 · rename_i b o;split at A
   · rename_i l _ _ _ hb;obtain ⟨q,us,aa,E,I,_⟩:=hr.cells hb;obtain ⟨q',L,rfl⟩:=gJ V;rw [aa] at L; cases L;split at A
     · rename_i ha;obtain ⟨u,C,M⟩:=mP E A;exact ⟨_,_,u,U,M,.inl ⟨ha,I _ _ C⟩⟩
     · rename_i n ha;replace A:=aF A; obtain ⟨O,A⟩:=A;have hle:=bp O;cases A;have C:=ib n<|iF o E;have hlen:=cB E;refine ⟨_,_,.agg ((us.drop o).take n).toArray,U,by simp only [den,C],.inr ⟨n,_,ha,U,by simp; omega,fun j Z=> ?_⟩⟩;rw [gW,if_pos Z,gV];have J:o+j < us.length:=ag;rw [eY,bW J];exact I _ _<|bW J
     · cases A
   · cases A
 · cases A
theorem zk (hr:HR P G r T h w) {o:Op} {xs:List AV} {v:AV} (A:im P o xs h=some v) (Z:av r xs=some ((eU o).map<|ev N σ)):YL P r N σ ⟨dst,o,ty,pos,af,g⟩ w v:=by
 unfold im at A;split at A
 · split at A
   · obtain ⟨b,off,u,O,hu,J⟩:=yG hr A<|dX Z;rcases J with ⟨ha,E⟩ | ⟨n,cs,ha,rfl,aa,E⟩
     · exact ⟨u,hu,ld ha O E⟩
     · exact ⟨_,hu,jZ ha O aa E⟩
   · cases A
 · rename_i t a b ok;split at A
   · rename_i b k;split at A
     · rename_i l hb;obtain ⟨q,es,c,L,hw,hm,hn⟩:=hr.map hb;obtain ⟨J,M⟩:=ga Z;obtain ⟨q',C,hu⟩:=lz J;rw [L] at C; cases C;split at A
       · rename_i kt e ae;split at A
         · rename_i aA au;replace A:=aF A; obtain ⟨E,A⟩:=A;simp only [aU] at E;have aj:=tK au;have al:iZ w.heap q.ao (es.toList.map fun e=>(e.key,e.val)):=⟨es,c,hw,rfl⟩
           have ak:=qE hm E.2;have hi:=qt E.1 M;split at A
           · rename_i aB ai;cases A;obtain ⟨u,V,ab⟩:=yx E.1 M hm E.2 ai;refine ⟨if ok then .tuple #[u,.bool true] else u,?_,yI ae aj al ak hu U hi (by rw [rX]; exact hn) ab⟩;cases ok
             · exact V
             · simp [den,av,V]
           · rename_i ai;have ab:=tI E.1 M hm E.2 ai;split at A
             · rename_i z ax;split at A
               · rename_i aC az;cases A;have V:=kM (r:=r) 4 az;refine ⟨if ok then .tuple #[z,.bool false] else z,?_,yJ ae ax aj al ak hu U hi ab⟩;cases ok
                 · exact V
                 · simp [den,av,V]
               · cases A
             · cases A
         · cases A
       · cases A
     · cases A
   · cases A
 · rename_i t u a;split at A
   · rename_i x;have O:=dX Z;unfold xu at A;split at A
     · split at A
       · rename_i e he;replace A:=aF A; obtain ⟨I,A⟩:=A;cases A;obtain ⟨q',cap,C,hn,hu,_⟩:=gK O;exact ⟨_,U,sT I hu (bh.nil _ _) U⟩
       · cases A
     · rename_i b o n c q _;split at A
       · rename_i l e _ _ hb;obtain ⟨q,us,L,aa,E,_⟩:=hr.cells hb;obtain ⟨q',cap,C,hn,hu,_⟩:=gK O;rw [L] at C; cases C;replace A:=aF A; obtain ⟨I,A⟩:=A;simp only [aU] at I;have hle:=bp I.2;split at A
         · rename_i m hm;cases A;have J:=ib n<|iF o aa;have M:=va hm J;have hlen:=cB aa;have aw:m.length=n:=by
            have :=congrArg rW M;simp [ss] at this;omega
           refine ⟨_,U,sT I.1 hu ⟨fun _=>rfl,fun j u ac=> ?_⟩ aw⟩;rw [← M,gW] at ac;split at ac
           · rw [gV] at ac;show ay w.heap q.ao (q.sh+o+j)=some u;rw [eY]; exact E _ _ ac
           · cases ac
         · cases A
       · cases A
     · split at A
       · rename_i e he;replace A:=aF A; obtain ⟨I,A⟩:=A;cases A;exact ⟨_,U,sT I (gi O) (bh.nil _ _) U⟩
       · cases A
     · rename_i b;split at A
       · rename_i l e hb;replace A:=aF A; obtain ⟨I,A⟩:=A;cases A;obtain ⟨q,L,c,fr,us,J,M,V,ab,an,ap,ah,aq⟩:=hr.live b _ hb;obtain ⟨ad,am,rfl⟩:=ah.1 rfl;obtain ⟨q',C,hu⟩:=gJ O;rw [L] at C; cases C;rw [ad] at hu;have ar:c=c.toList.toArray:=by simp
         rw [ar] at J;refine ⟨_,O.trans (congrArg some hu),?_⟩;rcases A1.1 I with I | I
         · exact Am I hu J<|by simpa using am
         · exact yi I hu J<|by simpa using am
       · cases A
     · cases A
   · cases A
 · split at A
   · rename_i b;split at A
     · rename_i hb;split at A
       · rename_i n _ hn;cases A;obtain ⟨q,L,c,fr,us,J,M,V,ab,an,ap,ah,aq⟩:=hr.live b _ hb;obtain ⟨ad,_,_⟩:=ah.1 rfl;obtain ⟨q',C,hu⟩:=gJ<|dX Z;rw [L] at C; cases C;rw [ad] at hu;exact ⟨_,by rw [kz L (aO _),ad],CN hn hu⟩
       · cases A
     · cases A
   · cases A
 · rename_i ag t;split at A
   · rename_i b;split at A
     · rename_i l hb;obtain ⟨q,es,c,L,hw,hm,hn⟩:=hr.map hb;split at A
       · rename_i ae;rw [eH] at A; cases A;obtain ⟨ag⟩:=ag;have aa:=cB Z;obtain ⟨x,rfl⟩:∃ x,ag= [x]:=pC.1<|by simpa [eU] using aa
         obtain ⟨q',C,hu⟩:=lz<|dX Z;rw [L] at C; cases C;refine ⟨_,U,?_⟩;have :=yL (dst:=dst) (ty:=ty) (pos :=pos) (af:=af) (g:=g) (P:=P) ae rfl hu hw;rw [this];have :=yU hm;rw [mj] at this;rw [this]
       · cases A
     · cases A
   · cases A
 · cases A
end
end Go.Hb
namespace Go.Hb
def Rn.ext (r:Rn) (i:Nat) (q:Loc):Rn:=fun k=>if k=i then some q else r k
theorem Rn.fI (r:Rn) (i:Nat) (q:Loc):r.ext i q i=some q:=if_pos rfl
theorem Rn.iI (r:Rn) {i k:Nat} (q:Loc) (h:k≠i):r.ext i q k=r k:=if_neg h
theorem Rn.oH {r:Rn} {i:Nat} (q:Loc) (h:r i=none):r.le (r.ext i q):=fun k x A=>by
 by_cases e:k=i
 · subst e; rw [h] at A; cases A
 · rw [Rn.iI r q e]; exact A
theorem OR.obj {P:ak} {r:Rn} {q:Loc} {o:AO} {ob:Option Obj} (h:OR P r q o ob):∃ b,ob=some b:=by
 cases o with
 | cells l e fz ex=>obtain ⟨c,fr,us,A,_⟩:=h; exact ⟨_,A⟩
 | map l=>obtain ⟨es,c,A,_⟩:=h; exact ⟨_,A⟩
 | loop st C n fr ps aE body D=>obtain ⟨_,_,_,A,_⟩:=h; exact ⟨_,A⟩
 | jP b=>exact ⟨_,h⟩
 | uW l p=>exact ⟨_,h⟩
section
variable {P:ak} {G:Nat} {r:Rn} {T:Nat} {h:Hp} {w:ah}
theorem mH.le {r s:Rn} (A:mH G r) (h:r.le s):mH G s:=fun g C=>let ⟨m,hm⟩:=A g C; ⟨m,h _ _ hm⟩
theorem HR.lt (hr:HR P G r T h w) {i:Nat} {o:AO} {q:Loc} (hi:h.t.get i=some o) (E:r i=some q):q.ao < w.heap.size:=by
 obtain ⟨q',A,C⟩:=hr.live i o hi;rw [E] at A; cases A;obtain ⟨b,hb⟩:=C.obj;exact (bI.1 hb).1
theorem HR.put (hr:HR P G r T h w) {i aa:Nat} {o:AO} {q:Loc} {r':Rn} {w':ah} (hle:r.le r') (hi:au i bO=true) (Z:r' i=some q) (ae:OR P r' q o w'.heap[q.ao]?)
 (hw:∀ k,k≠q.ao→k < w.heap.size→w'.heap[k]? =w.heap[k]?) (V:∀ j M q',j≠i→h.t.get j=some M→r j=some q'→q'.ao≠q.ao)
 (ad:h.nx≤aa) (ac:∀ k,aa≤k→k < T→r' k=none):HR P G r' T ⟨h.t.set i o,aa⟩ w':=by
 refine ⟨fun j M A=> ?_,fun j k O U ai aj A I C J he=> ?_,ac,hr.eF.le hle,bX hr.base ad⟩
 · rw [Tr.kC _ _ _ _ hi] at A;split at A
   · rename_i e; subst e; cases A; exact ⟨q,Z,ae⟩
   · rename_i e;obtain ⟨q',C,E⟩:=hr.live j M A;refine ⟨q',hle _ _ C,?_⟩;rw [hw _ (V j M q' e A C) (hr.lt A C)];exact E.le hle
 · simp only [Tr.kC _ _ _ _ hi] at A I;split at A
   · rename_i e;split at I
     · rename_i L; rw [e,L]
     · rename_i L;exfalso;subst e;rw [Z] at C; cases C;obtain ⟨q',E,_⟩:=hr.live k U I;rw [hle _ _ E] at J; cases J;exact V k U _ L I E he.symm
   · rename_i e;split at I
     · rename_i L;exfalso;subst L;rw [Z] at J; cases J;obtain ⟨q',E,_⟩:=hr.live j O A;rw [hle _ _ E] at C; cases C;exact V j O _ e A E he
     · obtain ⟨q',E,_⟩:=hr.live j O A;obtain ⟨ag,ab,_⟩:=hr.live k U I;rw [hle _ _ E] at C; cases C;rw [hle _ _ ab] at J; cases J;exact hr.inj j k O U _ _ A I E ab he
theorem HR.del (hr:HR P G r T h w) {i:Nat} (hi:au i bO=true):HR P G r T ⟨h.t.del i,h.nx⟩ w:=by
 refine ⟨fun j o A=> ?_,fun j k E I J L A C=> ?_,hr.new,hr.eF,hr.base⟩
 · rw [Tr.na _ _ _ hi] at A;split at A
   · cases A
   · exact hr.live j o A
 · simp only [Tr.na _ _ _ hi] at A C;split at A
   · cases A
   · split at C
     · cases C
     · exact hr.inj j k E I J L A C
theorem Fr.set {g:Nat} {r':Rn} {i O:Nat} {o:AO} {q:Loc} (hi:au i bO=true) (M:r' i=some q) (hle:r.le r') (hr:HR P G r T h w) {k:Nat} (L:Fr g r' ⟨h.t.set i o,O⟩ k):k=q.ao∨Fr g r h k:=by
 obtain ⟨j,I,q',J,A,C,rfl⟩:=L;rw [Tr.kC _ _ _ _ hi] at A;split at A
 · rename_i e; subst e; rw [M] at C; cases C; exact .inl rfl
 · obtain ⟨V,E,_⟩:=hr.live j I A;have :=hle _ _ E;rw [C] at this; cases this;exact .inr ⟨j,I,_,J,A,E,U⟩
def YM (P:ak) (G:Nat) (r:Rn) (T:Nat) (N:Fm) (σ:Nat→ab) (o:aq) (h:Hp) (w:ah) (v:AV) (A:Hp):Prop :=
 ∃ r' u w',den r' v=some u∧((execOp (ev N σ) o).run P w= .ok (.value u) w'∨(execOp (ev N σ) o).run P w= .ok .skip w'∧u=undef)∧St P G T r h w r' A w'
def cj (h:Hp) (o:AO):Option Hp:=cond (au h.nx bO) (some ⟨h.t.set h.nx o,h.nx+1⟩) none
theorem Gj (w:ah) (ob:Obj) (F:Nat→Prop):Md F w {w with heap:=w.heap.push ob} :=
 ⟨rfl,rfl,by simp,fun k A _=>by simp only [rC]; rw [if_neg ag]⟩
theorem HR.cj (hr:HR P G r T h w) {o:AO} {C:Hp} (hn:cj h o=some C) (hT:C.nx≤T) (room:Nat) {w':ah} {ob:Obj} (I:w'.heap=w.heap.push ob) (aa:w'.os=w.os) (ab:w'.output=w.output) (Z:∀ r',r.le r'→r' h.nx=some ⟨w.heap.size,0,room⟩→OR P r' ⟨w.heap.size,0,room⟩ o (some ob)):
 ∃ r',r' h.nx=some ⟨w.heap.size,0,room⟩∧St P G T r h w r' C w':=by
 unfold Hb.cj at hn;replace hn:=aF hn; obtain ⟨J,hn⟩:=hn;cases hn;simp only at hT;have hle:=Rn.oH (i:=h.nx) ⟨w.heap.size,0,room⟩<|hr.new h.nx (aO _) ag;have L:∀ k,k < w.heap.size→w'.heap[k]? =w.heap[k]? :=fun k A=>by rw [I,rC,if_neg ag]
 refine ⟨r.ext h.nx ⟨w.heap.size,0,room⟩,Rn.fI _ _ _,hle,hr.put hle J (Rn.fI _ _ _) ?_ (fun k _ V=>L k V) (fun j ae q' ad O ac=> ?_) (km _) (fun k A U=> ?_),km _,⟨aa,ab,by rw [I]; simp,fun k A _=>L k A⟩,fun g _ k A M=> ?_,fun k A=>Rn.iI _ _<|by simp only at A; omega⟩
 · rw [I]; simp only [rC,if_true]; exact Z _ hle<|Rn.fI _ _ _
 · have :=hr.lt O ac; simp only; omega
 · rw [Rn.iI _ _ ag]; exact hr.new k ag U
 · rcases Fr.set J (Rn.fI _ _ _) hle hr M with E | E
   · simp only at E; omega
   · exact E
theorem uj {r':Rn} {l:List AV} {us:List ab} {e b:Nat} (A:av r' l=some us) (C:dy l=true):OR P r' ⟨b,0,0⟩ (.cells l e 0 .x) (some<|.cells us.toArray e (0,0)):=
 ⟨us.toArray,(0,0),us,rfl,A,by simp [cB A],fun j u E=>by simpa using E,aO _,nk A C,⟨fun _=>⟨rfl,by simp [cB A],rfl⟩,fun _=>rfl⟩,fun s _=>by simp⟩
variable {N:Fm} {σ:Nat→ab} {dst:Option Nat} {ty:aj} {pos :String} {af:Array bB} {g:Option (Nat×Bool)} {x y z:az}
theorem YM.new (hr:HR P G r T h w) {o:aq} {l:List AV} {us:List ab} {e:Nat} {A:Hp} {v:AV} {f:Nat→ab} (hn:Hb.cj h (.cells l e 0 .x)=some A) (hT:A.nx≤T) (E:av r l=some us) (C:dy l=true)
 (L:(execOp (ev N σ) o).run P w= .ok (.value<|f w.heap.size) {w with heap:=w.heap.push<|.cells us.toArray e (0,0)}) (M:∀ r':Rn,r' h.nx=some ⟨w.heap.size,0,0⟩→den r' v=some (f w.heap.size)):YM P G r T N σ o h w v A:=by
 obtain ⟨r',I,J⟩:=hr.cj hn hT 0 (w':= {w with heap:=w.heap.push<|.cells us.toArray e (0,0)}) rfl rfl rfl fun r' hle _=>uj (gd hle E) C;exact ⟨r',_,_,M r' I,.inl L,J⟩
theorem HR.j5 (hr:HR P G r T h w) {i:Nat} {o L:AO} {q:Loc} {w':ah} (hi:h.t.get i=some L) (hb:au i bO=true) (E:r i=some q) (M:G≤i) (Z:OR P r q o w'.heap[q.ao]?) (hm:Md (fun k=>k=q.ao) w w'):
 St P G T r h w r ⟨h.t.set i o,h.nx⟩ w':=by
 have J:∀ g,g≤G→Fr g r h q.ao:=fun g C=>⟨i,L,q,bX C M,hi,E,rfl⟩
 refine ⟨Rn.le_refl r,hr.put (Rn.le_refl r) hb E Z (fun k I V=>hm.cD k V I) (fun j aa ab U C A he=>U<|hr.inj j i _ _ _ _ C hi A E he) (aO _) hr.new,aO _,hm.mono fun k _ I=>by rw [I]; exact J G (aO _),fun g C k _ O=> ?_,fun _ _=>rfl⟩;rcases Fr.set hb E (Rn.le_refl r) hr O with A | A
 · rw [A]; exact J g C
 · exact A
end
end Go.Hb
namespace Go.Hb
def lM (x v:AV):List (AV×AV)→List (AV×AV)
 | []=> [(x,v)]
 | p::l=>cond (eR p.1 x) ((p.1,v)::l) (p::lM x v l)
def yD:KK→Bool
 | .bs=>false
 | _=>true
def ns (P:ak) (t:aj) (b:Nat) (k v:AV) (h:Hp):Option Hp:=match h.t.get b with
 | some (.map l)=>match P.underlying t with
   | some (.map kt e)=>match lN P kt k with
     | some A=>cond (au b bO && (aG h.nx b==false) && (c7 A k && ei A l) && (yD A || (kI k l).isNone)) (some ⟨h.t.set b (.map<|lM k v l),h.nx⟩) none
     | none=>none
   | _=>none
 | _=>none
section
variable {P:ak} {G:Nat} {r:Rn} {T:Nat} {h:Hp} {w:ah}
theorem yV {x v:AV} {kx u:ab} {C:KK} (J:c7 C x=true) (A:den r x=some kx) (I:den r v=some u) {m:MapEntry} (oB:m.key=kx) (E:m.val=u):∀ {l:List (AV×AV)} {es:List MapEntry},eT r l es→ei C l=true→(∀ e∈es,e.key≠kx)→eT r (lM x v l) (es++ [m])
 | [],[],_,_,_=>⟨by rw [oB]; exact A,by rw [E]; exact I,trivial⟩
 | [],_::_,hm,_,_=>hm.elim
 | _::_,[],hm,_,_=>hm.elim
 | q::l,e::es,hm,hk,hn=>by
   simp only [ei] at hk;cases h1:c7 C q.1
   · rw [h1] at hk; cases hk
   · rw [h1] at hk;have he:eR q.1 x=false :=by
      cases hq:eR q.1 x
      · rfl
      · exact absurd ((jY h1 J hm.1 A).1 hq)<|hn e ix
     simp only [lM,he,cond_false];exact ⟨hm.1,hm.2.1,yV J A I oB E hm.2.2 hk fun e he=>hn e<|iV _ he⟩
theorem yW {x v:AV} {kx u:ab} {C:KK} (I:c7 C x=true) (E:den r x=some kx) (L:den r v=some u) {f:MapEntry→MapEntry} (J:∀ e,e.key=kx→(f e).key=kx∧(f e).val=u):∀ {l:List (AV×AV)} {es:List MapEntry} {j:Nat} {A:MapEntry},eT r l es→ei C l=true→
 es[j]? =some A→A.key=kx→(es.map fun e=>e.key).Nodup→eT r (lM x v l) (es.modify j f)
 | [],[],j,A,_,_,hj,_,_=>by simp at hj
 | [],_::_,_,_,hm,_,_,_,_=>hm.elim
 | _::_,[],_,_,hm,_,_,_,_=>hm.elim
 | q::l,e::es,0,A,hm,hk,hj,hk',_=>by
   simp only [ei] at hk;cases h1:c7 C q.1
   · rw [h1] at hk; cases hk
   · simp only [fV,aY] at hj;subst hj;simp only [lM,(jY h1 I hm.1 E).2 hk',cond_true];obtain ⟨M,O⟩:=J e hk';exact ⟨by show den r q.1=some (f e).key; rw [hm.1,M,hk'],by show den r v=some (f e).val; rw [O]; exact L,hm.2.2⟩
 | q::l,e::es,j+1,A,hm,hk,hj,hk',hn=>by
   simp only [ei] at hk;cases h1:c7 C q.1
   · rw [h1] at hk; cases hk
   · rw [h1] at hk;simp only [fU] at hj;simp only [da,mE] at hn;have he:eR q.1 x=false :=by
      cases hq:eR q.1 x
      · rfl
      · have :=(jY h1 I hm.1 E).1 hq;exact absurd (dO.2 ⟨A,jF hj,hk'.trans this.symm⟩) hn.1
     simp only [lM,he,cond_false];exact ⟨hm.1,hm.2.1,yW I E L J hm.2.2 hk hj hk' hn.2⟩
theorem FH {k:aj} {a:AV} {A:KK} (h:lN P k a=some A) (E:yD A=true):∀ w v,nf A v→(ph v v).run P w= .ok v w:=by
 unfold lN at h;split at h
 · replace h:=aF h; obtain ⟨C,h⟩:=h;cases h;exact (tJ<|kH C).stays
 · split at h
   · cases h; exact (yy<|by assumption).stays
   · cases h
 · replace h:=aF h; obtain ⟨C,h⟩:=h;cases h;cases E
 · cases h
theorem zu (hr:HR P G r T h w) {t:aj} {b:Nat} {k v:AV} {Z:Hp} {q:Loc} {kx u:ab} (aa:G≤b) (hp:ns P t b k v h=some Z) (V:r b=some q) (E:den r k=some kx) (an:den r v=some u):
 ∃ w',(nR t (.map<|some q.ao) kx u).run P w= .ok () w'∧St P G T r h w r Z w':=by
 unfold ns at hp;split at hp
 · rename_i l hb;split at hp
   · rename_i kt e am;split at hp
     · rename_i aw ah;replace hp:=aF hp; obtain ⟨ae,hp⟩:=hp;simp only [aU] at ae;obtain ⟨⟨⟨ad,_⟩,hka,hkl⟩,hstay⟩:=ae;cases hp;obtain ⟨q',es,c,al,hw,hm,hn⟩:=hr.map hb;rw [V] at al; cases al;have J:=tK ah;have hi:=qt hka E;have aq:∀ e∈es.toList,nf aw e.key:=qa rfl (qE hm hkl);have ai:=(bI.1 hw).1;rcases J.find w kx es.toList hi aq with ⟨M,ak⟩ | ⟨j,L,M,C,A⟩
       · refine ⟨{w with heap:=w.heap.setIfInBounds q.ao<|.map (es.push {key:=kx,val:=u,born:=c})<|c+1},by simp [nR,aR am,run_getObj_map hw,J.check _ w kx hi,M,setObj,iR,hw],?_⟩;refine hr.j5 hb ad V aa ?_ ⟨U,U,by simp,fun i _ O=>by simp only; rw [kS (fun e=>O e.symm)]⟩;refine ⟨_,_,by simp only; rw [mi ai],?_,?_⟩
         · simp only [rF];exact yV hka E an U U hm hkl ak
         · simp only [rF,mC,da,List.map_nil];rw [List.nodup_append];refine ⟨hn,by simp,?_⟩;intro a ha ax ac ap;simp at ac;subst ap ac;obtain ⟨p,hp,av⟩:=dO.1 ha;exact ak p hp av
       · have au:(ph kx kx).run P w= .ok kx w:=by
          rcases A1.1 hstay with I | I
          · exact FH ah I w kx hi
          · exfalso;cases hg:kI k l with
            | none=>exact tI hka E hm hkl hg L.val<|by rw [← A]; exact dO.2 ⟨L,jF C,rfl⟩
            | some v=>rw [hg] at I; cases I
         have ar:es[j]? =some L:=by simpa using C
         refine ⟨{w with heap:=w.heap.setIfInBounds q.ao<|.map (es.modify j fun e=> {e with key:=kx,val:=u}) c},?_,?_⟩
         · simp [nR,aR am,run_getObj_map hw,J.check _ w kx hi,M,ar,A,au,setObj,iR,hw]
         · refine hr.j5 hb ad V aa ?_ ⟨U,U,by simp,fun i _ O=>by simp only; rw [kS (fun e=>O e.symm)]⟩;refine ⟨_,_,by simp only; rw [mi ai],?_,?_⟩
           · rw [pc];exact yW hka E an (fun e _=>⟨U,U⟩) hm hkl C A hn
           · rw [pc];have :(es.toList.modify j fun e=> {e with key:=kx,val:=u}).map (fun e=>e.key)=es.toList.map fun e=>e.key:=by
              apply pz;intro i;simp only [eX,List.getElem?_modify];by_cases ag:j=i
              · subst ag; rw [C]; simp [A]
              · simp [ag]
             rw [this]; exact hn
     · cases hp
   · cases hp
 · cases hp
end
def js (A:List AV):Nat→List AV
 | 0=> []
 | n+1=>A++js A n
def o4 (P:ak) (G:Nat) (t:aj) (b o:Nat) (v:AV) (h:Hp):Option Hp:=match h.t.get b with
 | some (.cells l e fz ex)=>match cE P t with
   | some n=>cond ((aB (jL v).length n && aG (o+n) l.length) && (aG fz o && (dy (jL v) && (aG G b && au b bO)))) (some ⟨h.t.set b (.cells (l.take o++(jL v++l.drop (o+n))) e fz ex),h.nx⟩) none
   | none=>none
 | _=>none
def nF (P:ak) (t:aj):Option (Nat×Nat×Nat×List AV):=match P.underlying t with
 | some (.slice e)=>match P.info? e with
   | some i=>match i.zero with
     | some z=>match jn (ij 4) z.cells.toList with
       | some A=>cond (aB A.length i.size && (au 0 i.size && dy A)) (some (e,i.size,i.bytes,A)) none
       | none=>none
     | none=>none
   | none=>none
 | _=>none
def nq (P:ak) (G:Nat) (o:Op) (xs:List AV) (h:Hp):Option (AV×Hp):=match o with
 | .alloc e=>match zeroOf P e with
   | some (some C)=>match jn (ij 4) C with
     | some l=>cond (dy l) (match cj h (.cells l e 0 .x) with
       | some A=>some (.ptr h.nx 0,A)
       | none=>none) none
     | none=>none
   | _=>none
 | .box e _=>match xs with
   | [x]=>cond (dy<|jL x) (match cj h (.cells (jL x) e 0 .x) with
     | some A=>some (.ptr h.nx 0,A)
     | none=>none) none
   | _=>none
 | .makeMap _ none=>match cj h (.map []) with
   | some A=>some (.map h.nx,A)
   | none=>none
 | .buildSlice t n ⟨ps⟩=>match nF P t with
   | some (e,s,_,C)=>cond (aG (n*s) 16777216) (match lE (fun i=>some (i*s,s)) (js C n) (ke ps xs) with
     | some l=>cond (dy l) (match cj h (.cells l e 0 .x) with
       | some A=>some (.sl h.nx 0 n n true,A)
       | none=>none) none
     | none=>none) none
   | none=>none
 | .makeSlice t _ _=>match xs with
   | [.int .i64 (.ofNat n),.int .i64 (.ofNat c)]=>match nF P t with
     | some (e,s,by_,C)=>cond (aG n c && (aG (by_*c) 281474976710656 && au c 9223372036854775808)) (match cj h (.cells (js C c) e 0 .x) with
       | some A=>some (.sl h.nx 0 n c true,A)
       | none=>none) none
     | none=>none
   | _=>none
 | .store t _ _=>match xs with
   | [.ptr b o,v]=>match o4 P G t b o v h with
     | some A=>some (.bL [],A)
     | none=>none
   | _=>none
 | .mapUpdate t _ _ _=>match xs with
   | [.map b,k,v]=>cond (aG G b) (match ns P t b k v h with
     | some A=>some (.bL [],A)
     | none=>none) none
   | _=>none
 | .insert t _ _ _=>match xs with
   | [.map b,k,v]=>cond (aG G b) (match ns P t b k v h with
     | some A=>some (.bL [],A)
     | none=>none) none
   | _=>none
 | _=>none
section
variable {P:ak} {G:Nat} {r:Rn} {T:Nat} {h:Hp} {w:ah} {N:Fm} {σ:Nat→ab} {dst:Option Nat} {ty:aj} {pos :String} {af:Array bB} {g:Option (Nat×Bool)} {x y z:az}
theorem gI (r:Rn):den r (.bL [])=some undef:=by simp [den,av]; rfl
theorem qV {r:Rn} {A:List AV} {Z:List ab} (h:av r A=some Z):∀ n,av r (js A n)=some ((dT n Z).flatten)
 | 0=>by simp [js,av]
 | n+1=>by simp only [js,B3,nX]; exact eu h<|qV h n
theorem zi:∀ {l m:List AV},dy l=true→dy m=true→dy (l++m)=true
 | [],m,_,h=>h
 | a::l,m,h,h'=>by
   simp only [dy,List.cons_append] at h ⊢;cases ha:qN a
   · rw [ha] at h; cases h
   · rw [ha] at h; exact zi h h'
theorem uu {A:List AV} (h:dy A=true):∀ n,dy (js A n)=true
 | 0=>rfl
 | n+1=>zi h<|uu h n
theorem uq (Z:Array ab) (A:0 < Z.size):∀ n,(kf<|n*Z.size).map (Z[· % Z.size]!)=((dT n Z.toList).flatten).toArray:=by
 intro n;apply rE.1;simp only [gv,Array.toList_range]
 induction n with
 | zero=>simp
 | succ n ih=>
   rw [Nat.succ_mul,B9,List.range_add,mC,B3,nX,rX];congr 1
   · apply pz;intro i;simp only [eX];by_cases hi:i < Z.size
     · rw [List.getElem?_range hi,dg,Nat.mod_eq_of_lt hi];rw [getElem!_pos Z i hi];simp [hi]
     · rw [mB (by simp; omega),mB (by simp; omega)]; rfl
   · rw [← ih];apply List.map_congr_left;intro i _;simp
theorem q8 {r:Rn} {t e s E:Nat} {C:List AV} (h:nF P t=some (e,s,E,C)):∃ i z,P.underlying t=some (.slice e)∧P.info? e=some i∧i.zero=some z∧i.size=s∧i.bytes=E∧z.cells.size=s∧0 < s∧av r C=some z.cells.toList∧dy C=true∧C.length=s:=by
 unfold nF at h;split at h
 · rename_i O hu;split at h
   · rename_i i hi;split at h
     · rename_i z L;split at h
       · rename_i V M;replace h:=aF h; obtain ⟨A,h⟩:=h;simp only [aU] at A;cases h;have I:=nj (r:=r) (fun v a=>kM 4) M;have J:=bF A.1;have :=cB I;exact ⟨i,z,hu,hi,L,U,U,by rw [← mj]; omega,bQ.1 A.2.1,I,A.2.2,J⟩
       · cases h
     · cases h
   · cases h
 · cases h
theorem Iq (hr:HR P G r T h w) {t b o:Nat} {v:AV} {aa:Hp} {u:ab} (A:o4 P G t b o v h=some aa) (ay:den r v=some u) (az:den r (.ptr b o)=some (ev N σ x)) (aA:ev N σ y=u):YM P G r T N σ ⟨dst,.store t x y,ty,pos,af,g⟩ h w (.bL []) aa:=by
 unfold o4 at A;split at A
 · rename_i l e fz ex hb;split at A
   · rename_i n hn;replace A:=aF A; obtain ⟨ai,A⟩:=A;simp only [aU] at ai;obtain ⟨⟨I,c2⟩,c3,c4,J,c6⟩:=ai;have I:=bF I;have c2:=bp c2;have c3:=bp c3;have J:=bp J;cases A;obtain ⟨q,ak,c,fr,us,ac,M,aC,ad,aq,ae,ah,ar⟩:=hr.live b _ hb;obtain ⟨q',al,hu⟩:=gJ az;rw [ak] at al; cases al;have V:=sM ay;have aw:=cB V;have aE:=cB M;have aj:=nk V c4;have hlen:u.cells.toList.length=n:=by rw [aw,I]
     have bu:=run_storeCells_atF P q.ao (q.sh+o) e fr u.cells.toList 0 c w ac ag ag aj;unfold cE at hn;simp only [fB] at hn;obtain ⟨i,hi,A⟩:=hn;have ax:u.cells.size=n:=by rw [← mj,hlen]
     obtain ⟨L,O⟩:∃ L,c.toList.take (q.sh+o+0)++u.cells.toList++c.toList.drop (q.sh+o+0 +u.cells.toList.length)=L:=⟨_,rfl⟩
     rw [O] at bu;have aD:L.length=c.size:=by rw [← O]; simp; omega
     have au:∀ k,L[k]? =if k < q.sh+o then c[k]? else if k < q.sh+o+n then u.cells.toList[k - (q.sh+o)]? else c[k]? :=by
      intro k;rw [← O,iX];by_cases E:k < q.sh+o
      · rw [if_pos E,kX,fy (by simp; omega),gW,if_pos E]; simp
      · rw [if_neg E];by_cases Z:k < q.sh+o+n
        · rw [if_pos Z,fy (by simp; omega),fA (by simp; omega)];congr 1; simp; omega
        · rw [if_neg Z,fA (by simp; omega),gV];simp only [bK,cm,mj,nM];congr 1; omega
     refine ⟨r,undef,w.setRow q.ao L.toArray,gI r,.inr ⟨?_,U⟩,?_⟩
     · simp [execOp,Instr.storeAt,hu,aA,Instr.sureAddr,storeVar,sizeOf,cJ hi,A,ax,bu]
     · refine hr.j5 hb c6 ak J ?_ ⟨U,U,by simp,fun k _ av=>setRow_other w q.ao k _ av⟩;rw [setRow_heap w q.ao _ _ e _ ac];refine ⟨L.toArray,fr,us.take o++(u.cells.toList++us.drop (o+n)),U,eu (ib o M) (eu V<|iF (o+n) M),?_,fun j a C=> ?_,aq,?_,⟨fun hex=> ?_,ah.2⟩,fun s A=> ?_⟩
       · simp only [bK,cm,gX,dP]; omega
       · rw [ki,au];by_cases E:j < o
         · rw [fy (by simp; omega),gW,if_pos E] at C;rw [if_pos ag]; exact ad _ _ C
         · rw [fA (by simp; omega)] at C;rw [if_neg ag];have am:(us.take o).length=o:=by simp; omega
           rw [am] at C;by_cases Z:j < o+n
           · rw [fy ag] at C;rw [if_pos ag,show q.sh+j - (q.sh+o)=j - o from by omega]; exact C
           · rw [fA ag,gV,hlen] at C;rw [if_neg ag];refine ad j a ?_;rw [← C]; congr 1; omega
       · intro a ha;rcases eL.1 ha with ha | ha
         · exact ae a<|r6 ha
         · rcases eL.1 ha with ha | ha
           · exact aj a ha
           · exact ae a<|rZ ha
       · obtain ⟨an,aB,ap⟩:=ah.1 hex;refine ⟨an,?_,ap⟩;simp only [bK,cm,gX,dP]; omega
       · have :=ar s A;simp only [dP]; omega
   · cases A
 · cases A
end
end Go.Hb
namespace Go.Hb
section
variable {P:ak} {G:Nat} {r:Rn} {T:Nat} {h:Hp} {w:ah} {N:Fm} {σ:Nat→ab} {dst:Option Nat} {ty:aj} {pos :String} {af:Array bB} {g:Option (Nat×Bool)} {x y z:az}
theorem xD {r':Rn} {i b room n c:Nat} (hi:r' i=some ⟨b,0,room⟩) (hn:n≤c):den r' (.sl i 0 n c true)=some (.slice (some ⟨b,0,none⟩) n c):=by
 rw [kz hi hn]
theorem EL {t e s n:Nat} {A L:List AV} {Z:ab} {ps:List (Nat×az)} {xs:List AV} (ac:0 < s) (aa:Z.cells.size=s) (V:av r A=some Z.cells.toList) (O:lE (fun i=>some (i*s,s)) (js A n) (ke ps xs)=some L) (M:av r xs=some ((ps.map (·.2)).map<|ev N σ)):
 ∃ C,av r L=some C∧iw (fun i=>some (i*s,s)) ((kf<|n*s).map (Z.cells[· % Z.cells.size]!)) (ps.map fun p=>(p.1,ev N σ p.2))=some C.toArray:=by
 obtain ⟨E,I⟩:=vz (f:=ev N σ) M;obtain ⟨C,J,U⟩:=th O (qV V n) E I;refine ⟨C,J,?_⟩;rw [← U];congr 1;have :=uq Z.cells ag n;rw [aa] at this ⊢;exact this
theorem GH (hr:HR P G r T h w) {o:Op} {xs:List AV} {v:AV} {aa:Hp} (A:nq P G o xs h=some (v,aa)) (hT:aa.nx≤T) (V:av r xs=some ((eU o).map<|ev N σ)):YM P G r T N σ ⟨dst,o,ty,pos,af,g⟩ h w v aa:=by
 unfold nq at A;split at A
 · rename_i e;split at A
   · rename_i ap O;split at A
     · rename_i l az;replace A:=aF A; obtain ⟨E,A⟩:=A;split at A
       · rename_i L hn;cases A;have ax:=nj (r:=r) (fun v a=>kM 4) az;unfold zeroOf at O;simp only [fB] at O;obtain ⟨i,hi,zv,aH,rfl⟩:=O;refine YM.new hr (f:=fun b=> .pointer<|some ⟨b,0,none⟩) hn hT ax E ?_ fun r' I=>by simp only [den,I]
         simp [execOp,rJ,zeroValue,cJ hi,aH,newVar,newRow]
       · cases A
     · cases A
   · cases A
 · rename_i e _;split at A
   · rename_i x;replace A:=aF A; obtain ⟨E,A⟩:=A;split at A
     · rename_i L hn;cases A;have J:=dX V;refine YM.new hr (f:=fun b=> .pointer<|some ⟨b,0,none⟩) hn hT (sM J) E ?_ fun r' I=>by simp only [den,I]
       simp [execOp,Instr.box,newVar,newRow]
     · cases A
   · cases A
 · split at A
   · rename_i L hn;cases A;obtain ⟨r',aB,I⟩:=hr.cj hn hT 0 (w':= {w with heap:=w.heap.push<|.map #[] 0}) rfl rfl rfl fun r' hle _=>⟨#[],0,rfl,trivial,by simp⟩
     refine ⟨r',.map (some w.heap.size),_,by simp only [den,aB],.inl ?_,I⟩;simp [execOp,Instr.makeMap]
   · cases A
 · rename_i t n ps;split at A
   · rename_i e s aq ap O;replace A:=aF A; obtain ⟨E,A⟩:=A;have E:=bp E;split at A
     · rename_i l ay;replace A:=aF A; obtain ⟨J,A⟩:=A;split at A
       · rename_i L hn;cases A;obtain ⟨i,zv,hu,hi,ai,rfl,rfl,Z,am,aj,ao,aG⟩:=q8 (r:=r) O;obtain ⟨C,aw,ad⟩:=EL (N:=N) (σ:=σ) (t:=t) (e:=e) am Z aj ay V;refine YM.new hr (f:=fun b=> .slice (some ⟨b,0,none⟩) n n) hn hT aw J ?_ fun r' I=>xD I<|aO _;have aI:(ps.toArray.map fun p=>(p.1,ev N σ p.2)).toList=ps.map fun p=>(p.1,ev N σ p.2):=by simp
         by_cases al:n*i.size=0
         · have aA:n=0:=by rcases Nat.mul_eq_zero.1 al with h | h; exact h; omega
           subst aA;have ak:∀ f:Nat→ab,Array.map f (kf 0)= #[]:=fun f=>Array.eq_empty_of_size_eq_zero<|by simp
           rw [n7,ak] at ad;simp [execOp,rK,aR hu,sizeOf,cJ hi,ak,ad,newRow]
         · simp only [execOp,rK,fT,aR hu,fw,sizeOf,cJ hi,iS,Sem.run_ite,zeroValue,ai,gv,ad];rw [if_neg (by rw [show (2:Nat) ^ 24=16777216 from rfl]; omega),if_neg al];simp [newRow]
       · cases A
     · cases A
   · cases A
 · rename_i t _ _;split at A
   · rename_i n c;split at A
     · rename_i e s aq ap O;replace A:=aF A; obtain ⟨E,A⟩:=A;simp only [aU] at E;have ar:=bp E.1;have c2:=bp E.2.1;have c3:=bQ.1 E.2.2;split at A
       · rename_i L hn;cases A;obtain ⟨i,zv,hu,hi,ai,rfl,rfl,Z,am,aj,ao,aG⟩:=q8 (r:=r) O;have an:=run_make (P:=P) w t e i zv hu hi ai .i64 .i64 n c ag ag (by rw [← Int.natCast_mul]; omega) ag;have au:madeCells zv.cells (c*i.size)=((dT c zv.cells.toList).flatten).toArray:=by
          have :=uq zv.cells ag c;rw [Z] at this;rw [← this]; unfold madeCells; rw [Z]
         rw [Bz,Bz,au] at an;refine YM.new hr (f:=fun b=> .slice (some ⟨b,0,none⟩) n c) hn hT (qV aj c) (uu ao c) ?_ fun r' I=>xD I ar;obtain ⟨J,M⟩:=ga V;have aD:=bY J;have aE:=bY M;simp [execOp,aD,aE,an]
       · cases A
     · cases A
   · cases A
 · split at A
   · split at A
     · rename_i L aC;cases A;obtain ⟨J,M⟩:=ga V;exact Iq hr aC M J U
     · cases A
   · cases A
 · split at A
   · replace A:=aF A; obtain ⟨E,A⟩:=A;split at A
     · rename_i L hp;cases A;obtain ⟨J,M,ac⟩:=ky V;obtain ⟨q,ae,hu⟩:=lz J;obtain ⟨w',ah,I⟩:=zu hr (bp E) hp ae M ac;exact ⟨r,undef,w',gI r,.inr ⟨by simp [execOp,hu,ah],U⟩,I⟩
     · cases A
   · cases A
 · split at A
   · replace A:=aF A; obtain ⟨E,A⟩:=A;split at A
     · rename_i L hp;cases A;obtain ⟨J,M,ac⟩:=ky V;obtain ⟨q,ae,hu⟩:=lz J;obtain ⟨w',ah,I⟩:=zu hr (bp E) hp ae M ac;exact ⟨r,undef,w',gI r,.inr ⟨by simp [execOp,hu,ah],U⟩,I⟩
     · cases A
   · cases A
 · cases A
end
end Go.Hb
namespace Go.Hb
def rl:List UInt8→List AV
 | []=> []
 | c::l=> .int .u8 (jE c.toNat)::rl l
def oo (o:Nat):Ck→Ck
 | .a=> .a
 | _=>match o with
   | 0=> .z
   | _=> .a
theorem xn {o:Nat} {e:Ck} :oo o e≠.x:=by
 cases e <;> simp only [oo] <;> first | (intro h; cases h; done) | (split <;> intro h <;> cases h)
theorem Dn {o:Nat} {e:Ck} (h:oo o e≠.a):e≠.a∧o=0:=by
 cases e with
 | a=>exact absurd rfl h
 | _=>
   refine ⟨fun h=>(by cases h),?_⟩;simp only [oo] at h;split at h
   · rfl
   · exact absurd U h
def uS (P:ak) (s:Nat) (A:aj) (x:AV) (h:Hp):Option (Nat×List AV):=match x with
 | .sl b o n _ _=>match h.t.get b with
   | some (.cells l _ _ _)=>cond (iL P A && aG (o+n*s) l.length) (some (n,(l.drop o).take (n*s))) none
   | _=>none
 | .dR=>cond (iL P A) (some (0,[])) none
 | .str l=>cond (isStr P A && aB s 1) (some (l.length,rl l)) none
 | _=>none
def su (P:ak) (G:Nat) (t I:aj) (E J:AV) (h:Hp):Option (AV×Hp):=match nF P t with
 | some (e,s,by_,_)=>match uS P s I J h with
   | some (m,news)=>cond (dy news) (match E with
     | .dR=>match m with
       | 0=>some (.dR,h)
       | _=>cond (aG (m*by_) 140737488355328 && aG m 1000000000) (match cj h (.cells news e 0 .z) with
         | some A=>some (.sl h.nx 0 m 0 false,A)
         | none=>none) none
     | .sl b o n c x=>match m with
       | 0=>some (.sl b o n c x,h)
       | _=>match h.t.get b with
         | some (.cells l C fz ex)=>cond ((aB e C && (aG ((n+m)*by_) 140737488355328 && aG (n+m) 1000000000)) && (aG (o+n*s) l.length && (aG G b && au b bO)))
           (cond x (cond (aG (n+m) c)
            (cond (aG (o+(n+m)*s) l.length && aG fz (o+n*s)) (some (.sl b o (n+m) c true,⟨h.t.set b (.cells (l.take (o+n*s)++(news++l.drop (o+(n+m)*s))) e fz ex),h.nx⟩)) none)
            (match cj h (.cells ((l.drop o).take (n*s)++news) e 0 .z) with
             | some A=>some (.sl h.nx 0 (n+m) 0 false,A)
             | none=>none))
            (cond (aB o (c*s) && aG fz (o+n*s)) (match cj ⟨h.t.del b,h.nx⟩ (.cells ((l.drop o).take (n*s)++news) e (fz - o)<|oo o ex) with
             | some A=>some (.sl h.nx 0 (n+m) 0 false,A)
             | none=>none) none)) none
         | _=>none
     | _=>none) none
   | none=>none
 | none=>none
section
variable {P:ak} {G:Nat} {r:Rn} {T:Nat} {h:Hp} {w:ah} {N:Fm} {σ:Nat→ab} {dst:Option Nat} {ty:aj} {pos :String} {af:Array bB} {g:Option (Nat×Bool)} {x y z:az}
theorem Aw:∀ l:List UInt8,av r (rl l)=some (U8 l)
 | []=>by simp [rl,av,U8]
 | c::l=>dh rfl (Aw l)
theorem If (hr:HR P G r T h w) {s m:Nat} {M:aj} {x:AV} {news:List AV} {u:ab} (he:uS P s M x h=some (m,news)) (U:dy news=true) (hu:den r x=some u):∃ N,av r news=some N∧Src P s M u m N w:=by
 unfold uS at he;split at he
 · rename_i b o n aa ac;split at he
   · rename_i l _ _ _ hb;replace he:=aF he; obtain ⟨A,he⟩:=he;simp only [aU] at A;cases he;obtain ⟨q,us,Z,J,V,_⟩:=hr.cells hb;obtain ⟨q',cap,L,hn,rfl,_⟩:=gK hu;rw [Z] at L; cases L;obtain ⟨O,E⟩:=oE A.1;have hle:=bp A.2;have hlen:=cB J;have I:=ib (m*s)<|iF o J;refine ⟨_,I,Src.ofSlice w E _ _ _ _ (by simp; omega) (fun j u C=> ?_)<|nk I U⟩;rw [dt,fZ,eY];rw [gW] at C;split at C
     · rw [gV] at C; exact V _ _ C
     · cases C
   · cases he
 · replace he:=aF he; obtain ⟨A,he⟩:=he;cases he;obtain rfl :=gi hu;obtain ⟨O,E⟩:=oE A;exact ⟨[],by simp [av],Src.ofNil w E 0⟩
 · replace he:=aF he; obtain ⟨A,he⟩:=he;simp only [aU] at A;cases he;obtain rfl :=fH hu;obtain rfl :=bF A.2;exact ⟨_,Aw _,Src.ofString w (kH A.1) ⟨⟨_⟩⟩⟩
 · cases he
theorem wL {t J ty e:aj} {i:TypeInfo} (I:P.underlying t=some (.slice e)) (hi:P.info? e=some i) {x:ab} {news:List ab} (A:Src P i.size J x 0 news w) {base:Option Addr} {n c:Nat} (hn:n≤c):
 (iQ #[t,J] ty #[.slice base n c,x]).run P w= .ok (.slice base n c) w:=by
 have M:news= []:=iU<|by rw [A.newsLen]; simp
 subst M;have E:=A.cells;cases base with
 | none=>rcases A.kind with ⟨L,C⟩ | C <;> simp [iQ,run_underlying I,run_underlying C,sizeOf,typeInfo,hi,A.len,hn,E]
 | some a=>rcases A.kind with ⟨L,C⟩ | C <;> simp [iQ,run_underlying I,run_underlying C,sizeOf,typeInfo,hi,A.len,hn,E,storeCells]
theorem wN {t E ty e:aj} {i:TypeInfo} (I:P.underlying t=some (.slice e)) (hi:P.info? e=some i) {x:ab} {m:Nat} {news:List ab} (A:Src P i.size E x m news w) {b off n c:Nat} {cur:Array ab} {fz:Nat×Nat} (hn:n+m≤c)
 (hb:w.heap[b]? =some (.cells cur e fz)) (L:fz.2≤off+n*i.size) (M:off+n*i.size+news.length≤cur.size):
 (iQ #[t,E] ty #[.slice (some ⟨b,off,none⟩) n c,x]).run P w= .ok (.slice (some ⟨b,off,none⟩) (n+m) c) (w.setRow b (cur.toList.take (off+n*i.size)++news++cur.toList.drop (off+n*i.size+news.length)).toArray):=by
 have bu:=run_storeCells_atF P b (off+n*i.size) e fz news 0 cur w hb ag ag A.one;simp only [iX] at bu;rcases A.kind with ⟨J,C⟩ | C <;> simp [iQ,run_underlying I,run_underlying C,sizeOf,typeInfo,hi,A.len,hn,A.cells,Addr.add_lit,bu]
theorem uE (L X:List ab) (a:Nat) (h:a+X.length≤L.length) (k:Nat):(L.take a++X++L.drop (a+X.length))[k]? =if k < a then L[k]? else if k < a+X.length then X[k - a]? else L[k]? :=by
 by_cases A:k < a
 · rw [if_pos A,kX,fy (by simp; omega),gW,if_pos A]
 · rw [if_neg A];by_cases C:k < a+X.length
   · rw [if_pos C,fy (by simp; omega),fA (by simp; omega)];congr 1; simp; omega
   · rw [if_neg C,fA (by simp; omega),gV];simp only [bK,cm];congr 1; omega
theorem wH {t A ty e:aj} {i:TypeInfo} {z:ab} (L:P.underlying t=some (.slice e)) (hi:P.info? e=some i) (M:i.zero=some z) (O:z.cells.size=i.size) (Z:0 < i.size) {x:ab} {m:Nat} {olds news:List ab} (I:Src P i.size A x m news w) {base:Option Addr} {n c:Nat}
 (J:olds.length=n*i.size) (hold:(rI i.size n<|.slice base n c).run P w.drew= .ok olds.toArray w.drew) (V:∀ u∈olds,u.oneCell'=true) (C:c < n+m) (U:n+m≤1000000000) (hb:(n+m)*i.bytes≤140737488355328):
 ∃ (cap:Nat) (cs:Array ab),n+m≤cap∧cap*i.size=cs.size∧(∀ (j:Nat) (u:ab),(olds++news)[j]? =some u→cs[j]? =some u)∧(iQ #[t,A] ty #[.slice base n c,x]).run P w= .ok (.slice (some ⟨w.heap.size,0,none⟩) (n+m) cap) {w.drew with heap:=w.heap.push<|.cells cs e (0,0)} :=by
 have hr:=run_append_grow_src (P:=P) w t A ty e i z L hi M base n c olds hold x m news I C ag<|growslice_fits C hb;refine ⟨_,_,grownCap_ge w (n+m) c e,?_,?_,hr⟩
 · have :=grownCap_ge w (n+m) c e;simp only [Array.size_append,dP,size_zeroCells,O,bK,J,I.newsLen,← kZ];congr 1; omega
 · intro j u E;rw [Array.getElem?_append_left (by have :=(cy.1 E).1; simpa using this)];simpa using E
theorem EN (hr:HR P G r T h w) {b o n c s:Nat} {x:Bool} {l:List AV} {e fz:Nat} {ex:Ck} {us:List ab} {q:Loc} (hb:h.t.get b=some (.cells l e fz ex)) (L:r b=some q) (C:av r l=some us) (hle:o+n*s≤l.length) (cap:Nat):
 (rI s n<|.slice (some ⟨q.ao,q.sh+o,none⟩) n cap).run P w.drew= .ok ((us.drop o).take<|n*s).toArray w.drew:=by
 obtain ⟨q',M,I,E,J,_⟩:=hr.cells hb;rw [L] at I; cases I;rw [C] at E; cases E;have hlen:=cB C;refine run_firstCells_some (P:=P) w.drew s n _ n cap _ (by simp; omega) fun j u A=> ?_;rw [dt,fZ,eY];rw [gW] at A;split at A
 · rw [gV] at A; exact J _ _ A
 · cases A
theorem CK (hr:HR P G r T h w) {t ap:aj} {a1 a3 v:AV} {az:Hp} (ha:su P G t ap a1 a3 h=some (v,az)) (hT:az.nx≤T) (aw:den r a1=some (ev N σ x)) (br:den r a3=some (ev N σ y)):YM P G r T N σ ⟨dst,.call ⟨.builtin .append,#[x,y],#[t,ap]⟩,ty,pos,af,g⟩ h w v az:=by
 have ai:∀ {u:ab} {w':ah},(iQ #[t,ap] ty #[ev N σ x,ev N σ y]).run P w= .ok u w'→(execOp (ev N σ) ⟨dst,.call ⟨.builtin .append,#[x,y],#[t,ap]⟩,ty,pos,af,g⟩).run P w= .ok (.value u) w':=by
  intro u w' h;simp [execOp,resolve,invoke,builtin,h]
 unfold su at ha;split at ha
 · rename_i e s bx bN bt;obtain ⟨i,zv,hu,hi,aY,rfl,rfl,aZ,aW,bH,bJ,bI⟩:=q8 (r:=r) bt;split at ha
   · rename_i m news bo;replace ha:=aF ha; obtain ⟨aT,ha⟩:=ha;obtain ⟨Nw,am,V⟩:=If hr bo aT br;have bb:=cB am;have aK:=nk am aT;split at ha
     · have ac:=gi aw;split at ha
       · cases ha;exact ⟨r,_,w,aw,.inl (ai<|by rw [ac]; exact wL hu hi V<|aO _),St.refl hr⟩
       · rename_i aI;replace ha:=aF ha; obtain ⟨C,ha⟩:=ha;simp only [aU] at C;have ax:=bp C.1;have c2:=bp C.2;have hm:0 < m:=Ce fun e=>aI<|by rw [e]
         split at ha
         · rename_i Z hn;cases ha;obtain ⟨cap,cs,g1,g2,g3,g4⟩:=wH (w:=w) (ty:=ty) (base:=none) (n:=0) (c:=0) (olds:= []) hu hi aY aZ aW V (by simp) (run_firstCells_none (P:=P) w.drew i.size 0 0 0) (by simp) ag ag<|by rw [bS]; exact ax
           rw [bS] at g1 g4;rw [List.nil_append] at g3;obtain ⟨r',au,bu⟩:=hr.cj hn hT cap (w':= {w.drew with heap:=w.heap.push<|.cells cs e (0,0)}) rfl rfl rfl fun r' hle _=>by
            refine ⟨cs,(0,0),Nw,U,gd hle am,?_,fun j u A=>by rw [bS]; exact g3 j u A,by simp,aK,⟨(fun h=>by cases h),fun _=>rfl⟩,fun s E=> ?_⟩
            · rw [bS,← bb,V.newsLen,← g2]; exact vZ _ g1
            · have :s=i.size:=by unfold cE at E; rw [hi] at E; simpa using E.symm
              rw [this,bS,g2]; exact aO _
           refine ⟨r',_,_,?_,.inl (ai<|by rw [ac]; exact g4),bu⟩;rw [mQ au (by simpa using g1)]; simp
         · cases ha
     · rename_i b o n c a2;obtain ⟨q,cap,ad,bl,ac,bf,bd⟩:=gK aw;split at ha
       · cases ha;exact ⟨r,_,w,aw,.inl (ai<|by rw [ac]; exact wL hu hi V bl),St.refl hr⟩
       · rename_i aI;have hm:0 < m:=Ce fun e=>aI<|by rw [e]
         split at ha
         · rename_i l bz fz ex hb;replace ha:=aF ha; obtain ⟨C,ha⟩:=ha;simp only [aU] at C;obtain ⟨⟨ax,c2,c3⟩,ay,aq,c6⟩:=C;obtain rfl :=bF ax;have c2:=bp c2;have c3:=bp c3;have ay:=bp ay;have aq:=bp aq;obtain ⟨q',ae,cc,fr,us,O,aa,bB,aA,a8,aB,aC,aN⟩:=hr.live b _ hb;rw [ad] at ae; cases ae;have bG:=cB aa;have bh:=EN (s:=i.size) (x:=a2) (c:=c) hr hb ad aa ay;have holds:=ib (n*i.size)<|iF o aa;have aJ:((us.drop o).take<|n*i.size).length=n*i.size:=by simp; omega
           have aV:∀ u∈(us.drop o).take (n*i.size),u.oneCell'=true :=fun u hu=>aB u<|rZ<|r6 hu;have ar:=eu holds am;have aQ:∀ u∈(us.drop o).take (n*i.size)++Nw,u.oneCell'=true :=fun u hu=>(eL.1 hu).elim (aV u)<|aK u;have aR:∀ s,cE P e=some s→s=i.size:=fun s E=>by unfold cE at E; rw [hi] at E; simpa using E.symm
           have aS:((us.drop o).take (n*i.size)++Nw).length=(n+m)*i.size:=by rw [bK,aJ,V.newsLen,kZ]
           have grow:∀ {h0 Z:Hp} {aM:Nat} {ck:Ck},ck≠.x→HR P G r T h0 w→St P G T r h w r h0 w→h0.nx=h.nx→cap < n+m→Hb.cj h0 (.cells ((l.drop o).take (n*i.size)++news) e aM ck)=some Z→Z.nx≤T→
            YM P G r T N σ ⟨dst,.call ⟨.builtin .append,#[x,y],#[t,ap]⟩,ty,pos,af,g⟩ h w (.sl h.nx 0 (n+m) 0 false) Z:=by
            intro h0 Z aM ck bc bn bq bm J hn hT;obtain ⟨a4,cs,g1,g2,g3,g4⟩:=wH (w:=w) (ty:=ty) (base:=some ⟨q.ao,q.sh+o,none⟩) (n:=n) (c:=cap) hu hi aY aZ aW V aJ (bh cap) aV J c3 c2;obtain ⟨r',au,bu⟩:=bn.cj hn hT a4 (w':= {w.drew with heap:=w.heap.push<|.cells cs e (0,0)}) rfl rfl rfl fun r' hle _=>by
             refine ⟨cs,(0,0),_,U,gd hle ar,?_,fun j u A=>by rw [bS]; exact g3 j u A,by simp,aQ,⟨fun h=>absurd h bc,fun _=>rfl⟩,fun s E=> ?_⟩
             · rw [bS,← cB ar,aS,← g2]; exact vZ _ g1
             · rw [aR s E,bS,g2]; exact aO _
            rw [bm] at au;refine ⟨r',_,_,?_,.inl (ai<|by rw [ac]; exact g4),St.trans bq bu⟩;rw [mQ au (by simpa using g1)]; simp
           cases a2
           · obtain ⟨rfl,bD⟩:=bd rfl;simp only [cond_false] at ha;replace ha:=aF ha; obtain ⟨C,ha⟩:=ha;simp only [aU] at C;have d1:=bF C.1;have d2:=bp C.2;split at ha
             · rename_i Z hn;cases ha;have av:=hr.del c6;have aX:St P G T r h w r ⟨h.t.del b,h.nx⟩ w:=⟨Rn.le_refl r,av,aO _,Md.refl _ _,fun g _ k _ aE=>by
                obtain ⟨j,a0,q',a9,A,ae,rfl⟩:=aE;rw [Tr.na _ _ _ c6] at A;split at A
                · cases A
                · exact ⟨j,a0,q',a9,A,ae,U⟩,fun _ _=>rfl⟩
               by_cases M:n+m≤q.room - c
               ·
                have bC:=aN i.size<|by unfold cE; rw [hi]; rfl
                have bA:q.sh+o+(n+m)*i.size≤cc.size:=by
                 have :(c+(n+m))*i.size≤q.room*i.size:=vZ _ ag;rw [kZ] at this;omega
                have a5:Nw.length=m*i.size:=V.newsLen;have a6:(n+m)*i.size=n*i.size+m*i.size:=kZ _ _ _;have an:=wN (w:=w) (ty:=ty) (off :=q.sh+o) hu hi V M O ag ag;unfold Hb.cj at hn;replace hn:=aF hn; obtain ⟨aD,hn⟩:=hn;cases hn;simp only at hT aD;have hle:=Rn.oH (i:=h.nx) ⟨q.ao,q.sh+o,q.room - c⟩<|hr.new h.nx (aO _) ag;obtain ⟨L,ak⟩:∃ L,cc.toList.take (q.sh+o+n*i.size)++Nw++cc.toList.drop (q.sh+o+n*i.size+Nw.length)=L:=⟨_,rfl⟩
                have al:=uE cc.toList Nw (q.sh+o+n*i.size)<|by simp; omega
                rw [ak] at an al;have ba:L.length=cc.size:=by rw [← ak]; simp; omega
                have aH:=setRow_heap w q.ao _ L.toArray e _ O;have aP:∀ g,g≤G→Fr g r h q.ao:=fun g J=>⟨b,_,q,bX J aq,hb,ad,rfl⟩
                refine ⟨r.ext h.nx ⟨q.ao,q.sh+o,q.room - c⟩,_,w.setRow q.ao L.toArray,?_,.inl (ai<|by rw [ac]; exact an),⟨hle,av.put hle aD (Rn.fI _ _ _) ?_ (fun k I _=>setRow_other w q.ao k _ I) ?_ (km _) (fun k I bj=> ?_),km _,⟨U,U,by simp,fun k _ I=>setRow_other w q.ao k _ fun e=>I<|by rw [e]; exact aP G<|aO _⟩,fun g J k I aE=> ?_,fun k I=>Rn.iI _ _<|by simp only at I; omega⟩⟩
                · rw [mQ (Rn.fI _ _ _) (by simpa using M)]; simp
                · rw [aH];refine ⟨L.toArray,fr,_,U,gd hle ar,?_,fun j u A=> ?_,by simp only; omega,aQ,⟨fun h=>absurd h xn,fun h=>by obtain ⟨O,aa⟩:=Dn h; simp only; rw [aC.2 O,aa]⟩,fun s E=> ?_⟩
                  · rw [← cB ar,aS]; simp only [dP]; omega
                  · simp only [ki];rw [al];by_cases aL:j < n*i.size
                    · rw [fy ag,gW,if_pos aL,gV] at A;rw [if_pos ag,nM,eY]; exact aA _ _ A
                    · rw [fA ag,aJ] at A;have :=(cy.1 A).1;rw [if_neg ag,if_pos ag,show q.sh+o+j - (q.sh+o+n*i.size)=j - n*i.size from by omega]; exact A
                  · rw [aR s E];simp only [dP];have :(c+(q.room - c))*i.size=q.room*i.size:=by congr 1; omega
                    rw [kZ] at this;omega
                · intro j a0 q' A J ae he;rw [Tr.na _ _ _ c6] at J;split at J
                  · cases J
                  · rename_i bi;exact bi<|hr.inj j b _ _ _ _ J hb ae ad he
                · rw [Rn.iI _ _ (by simp only at I; omega)]; exact hr.new k (by simp only at I; omega) bj
                · rcases Fr.set aD (Rn.fI _ _ _) hle av aE with O | O
                  · rw [O]; exact aP g J
                  · exact aX.dx g J k I O
               · exact grow xn av aX U ag hn hT
             · cases ha
           · obtain rfl :=bf rfl;simp only [cond_true] at ha;cases M:aG (n+m) cap
             · rw [M] at ha;simp only [cond_false] at ha;split at ha
               · rename_i Z hn;cases ha;exact grow (fun h=>by cases h) hr (St.refl hr) U (by
                  rcases dU cap (n+m) with h | h
                  · exact h
                  · rw [vX h] at M; cases M) hn hT
               · cases ha
             · rw [M] at ha;simp only [cond_true] at ha;replace ha:=aF ha; obtain ⟨C,ha⟩:=ha;simp only [aU] at C;have d1:=bp C.1;have d2:=bp C.2;have M:=bp M;cases ha;have a5:Nw.length=m*i.size:=V.newsLen;have a6:(n+m)*i.size=n*i.size+m*i.size:=kZ _ _ _;have an:=wN (w:=w) (ty:=ty) (off :=q.sh+o) hu hi V M O ag ag;obtain ⟨L,ak⟩:∃ L,cc.toList.take (q.sh+o+n*i.size)++Nw++cc.toList.drop (q.sh+o+n*i.size+Nw.length)=L:=⟨_,rfl⟩
               have al:=uE cc.toList Nw (q.sh+o+n*i.size)<|by simp; omega
               rw [ak] at an al;have ba:L.length=cc.size:=by rw [← ak]; simp; omega
               have aH:=setRow_heap w q.ao _ L.toArray e _ O;refine ⟨r,_,w.setRow q.ao L.toArray,kz ad M,.inl (ai<|by rw [ac]; exact an),hr.j5 hb c6 ad aq ?_ ⟨U,U,by simp,fun k _ I=>setRow_other w q.ao k _ I⟩⟩;rw [aH];have bg:=eu (ib (o+n*i.size) aa)<|eu am<|iF (o+(n+m)*i.size) aa;refine ⟨L.toArray,fr,_,U,bg,?_,fun j u A=> ?_,a8,?_,⟨fun hex=> ?_,aC.2⟩,fun s E=> ?_⟩
               · simp only [bK,cm,gX,dP]; omega
               · simp only [ki];rw [al];by_cases aL:j < o+n*i.size
                 · rw [fy (by simp; omega),gW,if_pos aL] at A;rw [if_pos ag,nM]; exact aA _ _ A
                 · rw [fA (by simp; omega)] at A;have a7:(us.take<|o+n*i.size).length=o+n*i.size:=by simp; omega
                   rw [a7] at A;rw [if_neg ag];by_cases bM:j < o+(n+m)*i.size
                   · rw [fy ag] at A;rw [if_pos ag,show q.sh+j - (q.sh+o+n*i.size)=j - (o+n*i.size) from by omega]; exact A
                   · rw [fA ag,gV] at A;rw [if_neg ag,nM];refine aA j u ?_;rw [← A]; congr 1; omega
               · intro a ha;rcases eL.1 ha with ha | ha
                 · exact aB a<|r6 ha
                 · rcases eL.1 ha with ha | ha
                   · exact aK a ha
                   · exact aB a<|rZ ha
               · obtain ⟨bv,x2,bw⟩:=aC.1 hex;refine ⟨bv,?_,bw⟩;simp only [bK,cm,gX,dP]; omega
               · have :=aN s E;simp only [dP]; omega
         · cases ha
     · cases ha
   · cases ha
 · cases ha
end
end Go.Hb
namespace Go.Hb
def uY (P:ak) (G:Nat) (t:aj) (b o n c i:Nat) (h:Hp):Option (AV×Hp):=match cO P t with
 | some e=>cond (aB i n && (aG G b && au b bO)) (match h.t.get b with
   | some (.cells l A fz ex)=>match cE P A with
     | some C=>cond (aB e C && (aB o (c*e) && aG (o+n*e) l.length)) (match cj ⟨h.t.del b,h.nx⟩ (.cells [] A fz .a) with
       | some E=>some (.sl h.nx 0 0 0 false,E)
       | none=>none) none
     | none=>none
   | _=>none) none
 | none=>none
def ue (P:ak) (t:aj) (n i j:Nat) (h:Hp):Option (AV×Hp):=match cO P t with
 | some _=>cond (aB i n && (aB j n && au h.nx bO)) (some (.sl h.nx 0 0 0 false,⟨h.t,h.nx+1⟩)) none
 | none=>none
def sO (P:ak) (G:Nat) (t:aj) (x:AV) (h:Hp):Option (AV×Hp):=match x with
 | .dR=>cond (iL P t) (some (.bL [],h)) none
 | .sl b o n c q=>match nF P t with
   | some (e,s,_,zs)=>match n with
     | 0=>some (.bL [],h)
     | _=>match h.t.get b with
       | some (.cells l A fz ex)=>cond ((aG (o+n*s) l.length && aG fz o) && (aG G b && au b bO)) (some (.bL [],⟨h.t.set b (.cells (l.take o++(js zs n++l.drop (o+n*s))) A fz ex),h.nx⟩)) none
       | _=>none
   | none=>none
 | _=>none
def jX (x:AV):List (AV×AV)→List (AV×AV)
 | []=> []
 | p::l=>cond (eR p.1 x) l (p::jX x l)
def sV (P:ak) (G:Nat) (t:aj) (b:Nat) (k:AV) (h:Hp):Option (AV×Hp):=match h.t.get b with
 | some (.map l)=>match P.underlying t with
   | some (.map kt e)=>match lN P kt k with
     | some A=>cond ((aG G b && au b bO) && (c7 A k && ei A l)) (some (.bL [],⟨h.t.set b (.map<|jX k l),h.nx⟩)) none
     | none=>none
   | _=>none
 | _=>none
def vk (P:ak) (G:Nat) (A:aj) (x y:AV) (h:Hp):Option (AV×Hp):=match x,y with
 | .ptr _ _,.int .i64 0=>some (.str [],h)
 | .fJ,.int .i64 0=>some (.str [],h)
 | .ptr b 0,.int .i64 (.ofNat n)=>match h.t.get b with
   | some (.cells l e fz ex)=>match ex with
     | .a=>none
     | _=>cond ((ptrTo P A e && (aG n l.length && (au 0 n && au n 1000000000))) && (aG G b && au b bO)) (match l9 (l.take n) with
       | some m=>some (.str m,⟨h.t.set b (.cells l e (max fz n) .z),h.nx⟩)
       | none=>none) none
   | _=>none
 | _,_=>none
def qQ (P:ak) (G:Nat) (o:Op) (xs:List AV) (h:Hp):Option (AV×Hp):=match o with
 | .call ⟨.builtin .append,_,⟨[t,tx]⟩⟩=>match xs with
   | [s,x]=>su P G t tx s x h
   | _=>none
 | .call ⟨.builtin .clear,_,⟨[t]⟩⟩=>match xs with
   | [x]=>sO P G t x h
   | _=>none
 | .call ⟨.builtin .delete,_,⟨[t,_]⟩⟩=>match xs with
   | [.map b,k]=>sV P G t b k h
   | _=>none
 | .call ⟨.builtin .unsafeSliceData,_,_⟩=>match xs with
   | [.dR]=>some (.fJ,h)
   | [.sl b o n c x]=>cond (au 0 n) (some (.ptr b o,h)) none
   | _=>none
 | .call ⟨.builtin .unsafeString,_,⟨[pt,_]⟩⟩=>match xs with
   | [x,y]=>vk P G pt x y h
   | _=>none
 | .slice t _ (some _) none none=>match xs with
   | [.sl b o n c false,.int _ (.ofNat i)]=>uY P G t b o n c i h
   | _=>none
 | .slice t _ (some _) (some _) none=>match xs with
   | [.sl b o n c false,.int _ (.ofNat i),.int _ (.ofNat j)]=>ue P t n i j h
   | _=>none
 | _=>none
inductive AD | mark (D:Nat) | fn (f:Nat) (args:List AV)
inductive EX | bE | ret | ext (id:Nat)
inductive Tk
 | cd (rd:Option Nat) (n:Nat) (c:bG) (fr:Tr AV) (D:List AD) (h:Hp)
 | lp (rd:Option Nat) (n:Nat) (c:bG) (fr:Tr AV) (D:List AD) (h:Hp)
 | cl (f:Nat) (args:List AV) (h:Hp)
 | yl (l:Nat) (args:List AV) (h:Hp)
 | df (f:Nat) (args:List AV) (h:Hp)
inductive Rs | no | cd (e:EX) (fr:Tr AV) (D:List AD) (h:Hp) | rv (v:AV) (h:Hp)
inductive Ro | no | v (x:AV) (h:Hp) | d (a:AD)
abbrev Xt:=Nat→Option (List AV→Hp→Option (AV×Hp))
def eI (n:Nat) (fr:Tr AV) (d:Option Nat) (v:AV):Option (Tr AV):=match d with
 | none=>some fr
 | some d=>cond (au d n && au d bO) (some<|fr.set d v) none
def pS (X:Xt) (ih:Tk→Rs) (f:AV) (args:List AV) (h:Hp):Ro:=match f with
 | .fn f a c=>match X f with
   | some e=>match e (a++(args++c)) h with
     | some (v,h)=> .v v h
     | none=> .no
   | none=>match ih (.cl f (a++(args++c)) h) with
     | .rv v h=> .v v h
     | _=> .no
 | .fu l=>match ih (.yl l args h) with
   | .rv v h=> .v v h
   | _=> .no
 | _=> .no
def oR (P:ak) (G:Nat) (X:Xt) (ih:Tk→Rs) (o:Op) (xs:List AV) (h:Hp):Ro:=match lR P o xs with
 | some v=> .v v h
 | none=>match im P o xs h with
   | some v=> .v v h
   | none=>match o with
     | .call ⟨.value _,_,_⟩=>match xs with
       | f::args=>pS X ih f args h
       | []=> .no
     | .defer ⟨.value _,_,_⟩=>match xs with
       | .fn f a c::args=> .d<|.fn f<|a++(args++c)
       | _=> .no
     | _=>match nq P G o xs h with
       | some (v,h)=> .v v h
       | none=>match qQ P G o xs h with
         | some (v,h')=>cond (aG h.nx h'.nx) (.v v h') .no
         | none=> .no
inductive Gd | y | n | no
def iJ (n:Nat) (ops:List aq) (fr:Tr AV) (g:Option (Nat×Bool)):Gd:=match g with
 | none=> .y
 | some (j,want)=>match ops[j]? with
   | some o=>match o.dst with
     | some t=>cond (au t n) (match cC fr t with
       | .bool b=>cond (b==want) .y .n
       | .bL []=> .n
       | _=> .no) .no
     | none=> .no
   | none=> .no
def iO (P:ak) (G:Nat) (X:Xt) (ih:Tk→Rs) (rd:Option Nat) (n:Nat) (ops:List aq):List aq→Tr AV→List AD→Hp→Rs
 | [],fr,D,h=> .cd .bE fr D h
 | o::l,fr,D,h=>match iJ n ops fr o.guard with
   | .y=>match jr G n fr (eU o.op) with
     | some xs=>match oR P G X ih o.op xs h with
       | .v v h=>match eI n fr o.dst v with
         | some fr=>iO P G X ih rd n ops l fr D h
         | none=> .no
       | .d a=>match rd with
         | none=>match eI n fr o.dst (.bL []) with
           | some fr=>iO P G X ih rd n ops l fr (a::D) h
           | none=> .no
         | some _=> .no
       | .no=> .no
     | none=> .no
   | .n=>match eI n fr o.dst (.bL []) with
     | some fr=>iO P G X ih rd n ops l fr D h
     | none=> .no
   | .no=> .no
def gM:Nat→List AV→Tr AV→Tr AV
 | _,[],fr=>fr
 | i,v::l,fr=>gM (i+1) l<|fr.set i v
def lV (n:Nat):List Nat→List AV→Tr AV→Option (Tr AV)
 | [],[],fr=>some fr
 | p::ps,v::vs,fr=>match eI n fr (some p) v with
   | some fr=>lV n ps vs fr
   | none=>none
 | _,_,_=>none
def gP (P:ak) (n:Nat) (fr:Tr AV) (h:Hp):List ResultVar→Option (List AV)
 | []=>some []
 | .tmp t::l=>match gP P n fr h l with
   | some vs=>cond (au t n) (some (cC fr t::vs)) none
   | none=>none
 | .cell a t::l=>match gP P n fr h l with
   | some vs=>cond (au a n) (match qv P t (cC fr a) h with
     | some v=>some (v::vs)
     | none=>none) none
   | none=>none
def lS:List AV→AV
 | [v]=>v
 | vs=> .bL vs
def iM (G:Nat) (ih:Tk→Rs):List AD→Hp→Option Hp
 | [],h=>some h
 | .mark d::l,h=>match h.t.get d with
   | some (.jP true)=>cond (aG G d && au d bO) (iM G ih l ⟨h.t.set d (.jP false),h.nx⟩) none
   | _=>none
 | .fn f args::l,h=>match ih (.df f args h) with
   | .rv _ h=>iM G ih l h
   | _=>none
def xX:EX→Option bG
 | .bE=>none
 | .ret=>some .ret
 | .ext i=>some<|.exit i
def mV (G:Nat) (ih:Tk→Rs) (rd:Option Nat) (n:Nat) (fr:Tr AV) (D:List AD) (l:Nat) (h:Hp):Rs:=match h.t.get l with
 | some (.loop st A m C ps aE body d)=>match st with
   | .busy=> .no
   | _=>cond (aG G l && au l bO) (match A with
     | none=> .cd .bE fr D ⟨h.t.set l (.loop .exhausted A m C ps aE body d),h.nx⟩
     | some c=>ih (.cd rd n c fr D ⟨h.t.set l (.loop .exhausted A m C ps aE body d),h.nx⟩)) .no
 | _=> .no
def nw (ih:Tk→Rs) (G:Nat) (rd:Option Nat) (n:Nat) (g:az) (ps:List Nat) (aE body:bG) (fr:Tr AV) (D:List AD) (h:Hp):Rs:=match jq G n fr g with
 | some (.fn f a c)=>match rd with
   | none=>match cj h (.jP true) with
     | some A=>match cj A (.loop .ready none n fr ps aE body h.nx) with
       | some C=>match ih (.cl f (a++(.fu A.nx::c)) C) with
         | .rv _ E=>mV G ih rd n fr (.mark h.nx::D) A.nx E
         | _=> .no
       | none=> .no
     | none=> .no
   | some I=>match h.t.get I with
     | some (.loop _ _ _ _ _ _ _ d)=>match cj h (.loop .ready none n fr ps aE body d) with
       | some C=>match ih (.cl f (a++(.fu h.nx::c)) C) with
         | .rv _ E=>mV G ih rd n fr D h.nx E
         | _=> .no
       | none=> .no
     | _=> .no
 | _=> .no
def o8 (G:Nat) (ih:Tk→Rs) (l:Nat) (args:List AV) (h:Hp):Rs:=match h.t.get l with
 | some (.loop .ready J n fr ps aE body d)=>match lV n ps args fr with
   | some fr=>match ih (.cd (some l) n aE fr [] h) with
     | .cd .bE fr [] h=>match h.t.get l with
       | some (.loop .ready L C A M E I d1)=>cond (aG G l && au l bO) (match ih (.cd (some l) n body fr [] ⟨h.t.set l (.loop .busy L C A M E I d1),h.nx⟩) with
         | .cd e fr [] h=>match h.t.get l with
           | some (.loop .busy J C A ps aE body d)=>match e with
             | .bE=> .rv (.bool true) ⟨h.t.set l (.loop .ready none C A ps aE body d),h.nx⟩
             | e=> .rv (.bool false) ⟨h.t.set l (.loop .done (xX e) C A ps aE body d),h.nx⟩
           | _=> .no
         | _=> .no) .no
       | _=> .no
     | _=> .no
   | none=> .no
 | _=> .no
mutual
def fh:AV→AV→Bool
 | .bool a,.bool b=>a==b
 | .int k a,.int k' b=>cond (aB (de k)<|de k') (decide (a=b)) false
 | .str l,.str m=>gj l m
 | .ptr b o,.ptr b' o'=>aB b b' && aB o o'
 | .fJ,.fJ=>true
 | .sl b o n c x,.sl b' o' n' c' x'=>(aB b b' && aB o o') && (aB n n' && (aB c c' && (x==x')))
 | .dR,.dR=>true
 | .map b,.map b'=>aB b b'
 | .jm,.jm=>true
 | .fn f a c,.fn f' a' c'=>aB f f' && (jR a a' && jR c c')
 | .fu l,.fu l'=>aB l l'
 | .gO,.gO=>true
 | .gn t v,.gn t' v'=>aB t t' && fh v v'
 | .dE,.dE=>true
 | .agg l,.agg m=>jR l m
 | .bL l,.bL m=>jR l m
 | _,_=>false
def jR:List AV→List AV→Bool
 | [],[]=>true
 | a::l,b::m=>cond (fh a b) (jR l m) false
 | _,_=>false
end
def nG:List az→List Nat
 | []=> []
 | .tmp t::l=>t::nG l
 | _::l=>nG l
def tv (ops:List aq) (g:Option (Nat×Bool)):List Nat:=match g with
 | none=> []
 | some (j,_)=>match ops[j]? with
   | some q=>match q.dst with
     | some t=> [t]
     | none=> []
   | none=> []
def nv (ops:List aq) (o:aq):List Nat:=tv ops o.guard++nG (eU o.op)
def oM (t:Nat):List Nat→Bool
 | []=>false
 | u::l=>cond (aB t u) true<|oM t l
def qF (d:Option Nat) (l:List Nat):Bool:=match d with
 | some t=>oM t l
 | none=>false
def kL (l:List Nat) (i:Nat):Nat:=j2 l i 0
def kK (acc:List Nat):List bB→Nat
 | []=>0
 | e::l=>cond (c9 .any e && au e.on acc.length) (Nat.lor (Nat.lor (Nat.pow 2 e.on)<|kL acc e.on)<|kK acc l)<|kK acc l
def gh:List aq→List Nat→List Nat
 | [],acc=>acc
 | o::l,acc=>gh l<|acc++ [kK acc o.after.toList]
def iB (A:List Nat) (i j:Nat):Bool:=pJ (kL A i) j
def ou (i:Nat):List bB→Bool
 | []=>true
 | e::l=>cond (c9 .any e && !(au e.on i)) false<|ou i l
def xN (a b:Option Nat):Bool:=match a,b with
 | some a,some b=>aB a b
 | _,_=>false
def pT (ops:List aq) (E:List Nat) (i:Nat) (A:aq):Nat→List aq→Bool
 | _,[]=>true
 | j,C::l=>cond (au j i) ((!(xN A.dst C.dst) && (iB E i j || (!(qF C.dst<|nv ops A) && !(qF A.dst<|nv ops C)))) && pT ops E i A (j+1) l) true
def mO (ops:List aq) (A:List Nat):Nat→List aq→Bool
 | _,[]=>true
 | i,C::l=>(ou i C.after.toList && pT ops A i C 0 ops) && mO ops A (i+1) l
inductive Cs | s | p | l | a | c
structure Rec where
 k:Cs
 xs:List AV
 v:AV
 hb:Hp
 ha:Hp
def pP (P:ak) (e:aj):Option (List AV):=match zeroOf P e with
 | some (some A)=>match jn (ij 4) A with
   | some l=>cond (dy l) (some l) none
   | none=>none
 | _=>none
def early (A:List Nat) (i:Nat) (last:Option Nat):Bool:=match last with
 | some c=> !(iB A i c)
 | none=>false
def ur (P:ak) (G:Nat) (X:Xt) (ih:Tk→Rs) (fr:Bool) (o:Op) (xs:List AV) (h:Hp):Option Rec:=match lR P o xs with
 | some v=>some ⟨.p,xs,v,h,h⟩
 | none=>match im P o xs h with
   | some v=>some ⟨.l,xs,v,h,h⟩
   | none=>match fr,o with
     | true,.alloc e=>match pP P e with
       | some l=>match cj h (.cells l e 0 .x) with
         | some A=>some ⟨.a,xs,.ptr h.nx 0,h,A⟩
         | none=>none
       | none=>none
     | _,_=>match oR P G X ih o xs h with
       | .v v A=>some ⟨.c,xs,v,h,A⟩
       | _=>none
def FL (i:Nat) (last:Option Nat):Cs→Option Nat
 | .c=>some i
 | _=>last
def j7 (P:ak) (G:Nat) (X:Xt) (ih:Tk→Rs) (n:Nat) (ops:List aq) (A:List Nat):Nat→Option Nat→List aq→Tr AV→Hp→Option (List Rec×Tr AV×Hp)
 | _,_,[],fr,h=>some ([],fr,h)
 | i,last,o::l,fr,h=>match iJ n ops fr o.guard with
   | .y=>match jr G n fr (eU o.op) with
     | some xs=>match ur P G X ih (early A i last) o.op xs h with
       | some r=>match eI n fr o.dst r.v with
         | some fr=>match j7 P G X ih n ops A (i+1) (FL i last r.k) l fr r.ha with
           | some (rs,fr,h)=>some (r::rs,fr,h)
           | none=>none
         | none=>none
       | none=>none
     | none=>none
   | .n=>match eI n fr o.dst (.bL []) with
     | some fr=>match j7 P G X ih n ops A (i+1) last l fr h with
       | some (rs,fr,h')=>some (⟨.s,[],.bL [],h,h⟩::rs,fr,h')
       | none=>none
     | none=>none
   | .no=>none
def sY (a:Option AV) (v:AV):Bool:=match a with
 | some a=>fh a v
 | none=>false
def oP (P:ak) (A:List Nat) (i:Nat) (o:Op) (xs:List AV) (v:AV):Nat→List Rec→Bool
 | _,[]=>true
 | j,q::l=>cond (match q.k with
   | .c=>cond (au j i) (iB A i j || sY (im P o xs q.hb) v) (iB A j i || sY (im P o xs q.ha) v)
   | .a=> !(au j i)
   | _=>true) (oP P A i o xs v (j+1) l) false
def oO (A:List Nat) (i:Nat):Nat→List Rec→Bool
 | _,[]=>true
 | j,q::l=>cond (match q.k with
   | .c=>cond (au j i) (iB A i j) true
   | .a=>cond (au j i) (iB A i j) true
   | _=>true) (oO A i (j+1) l) false
def j4 (P:ak) (A:List Nat) (rs:List Rec):Nat→List aq→List Rec→Bool
 | _,[],[]=>true
 | i,o::l,q::m=>cond (match q.k with
   | .l=>oP P A i o.op q.xs q.v 0 rs
   | .c=>oO A i 0 rs
   | _=>true) (j4 P A rs (i+1) l m) false
 | _,_,_=>false
def p6 (P:ak) (G:Nat) (X:Xt) (ih:Tk→Rs) (n:Nat) (ops:List aq) (fr:Tr AV) (D:List AD) (h:Hp):Rs:=match gh ops [] with
 | A=>cond (mO ops A 0 ops) (match j7 P G X ih n ops A 0 none ops fr h with
   | some (rs,fr,h)=>cond (j4 P A rs 0 ops rs) (.cd .bE fr D h) .no
   | none=> .no) .no
def eA (P:ak) (G:Nat) (X:Xt) (ih:Tk→Rs):Tk→Rs
 | .cd rd n c fr D h=>match c with
   | .skip => .cd .bE fr D h
   | .region _ ⟨ops⟩ draw=>cond draw (p6 P G X ih n ops fr D h)<|iO P G X ih rd n ops ops fr D h
   | .seq a b=>match ih (.cd rd n a fr D h) with
     | .cd .bE fr D h=>ih<|.cd rd n b fr D h
     | r=>r
   | .cond x a b=>match jq G n fr x with
     | some (.bool true)=>ih<|.cd rd n a fr D h
     | some (.bool false)=>ih<|.cd rd n b fr D h
     | _=> .no
   | .block id c=>match ih (.cd rd n c fr D h) with
     | .cd (.ext j) fr D h=>cond (aB j id) (.cd .bE fr D h)<|.cd (.ext j) fr D h
     | r=>r
   | .loop c=>ih<|.lp rd n c fr D h
   | .rangeFunc g ⟨ps⟩ aE body=>nw ih G rd n g ps aE body fr D h
   | .exit id=> .cd (.ext id) fr D h
   | .ret=> .cd .ret fr D h
   | _=> .no
 | .lp rd n c fr D h=>match ih (.cd rd n c fr D h) with
   | .cd .bE fr D h=>ih<|.lp rd n c fr D h
   | r=>r
 | .cl f args h=>match P.funcs[f]? with
   | some fn=>match fn.body with
     | some c=>cond (aG args.length fn.ntmps && au fn.ntmps bO) (match ih (.cd none fn.ntmps c (gM 0 args .nil) [] h) with
       | .cd (.ext _) _ _ _=> .no
       | .cd _ fr D h=>match iM G ih D h with
         | some h=>match gP P fn.ntmps fr h fn.results.toList with
           | some vs=> .rv (lS vs) h
           | none=> .no
         | none=> .no
       | _=> .no) .no
     | none=> .no
   | none=> .no
 | .yl l args h=>o8 G ih l args h
 | .df f args h=>match P.funcs[f]? with
   | some fn=>match fn.body with
     | some c=>cond (aG args.length fn.ntmps && au fn.ntmps bO) (match (match c with
       | .seq (.region _ ⟨⟨some d,.call ⟨.builtin .recover,⟨[]⟩,⟨[]⟩⟩,ty,pos,af,none⟩::rest⟩ false) y=>match eI fn.ntmps (gM 0 args .nil) (some d) .dE with
         | some fr=>match iO P G X ih none fn.ntmps (⟨some d,.call ⟨.builtin .recover,⟨[]⟩,⟨[]⟩⟩,ty,pos,af,none⟩::rest) rest fr [] h with
           | .cd .bE fr [] h=>ih<|.cd none fn.ntmps y fr [] h
           | _=> .no
         | none=> .no
       | c=>ih (.cd none fn.ntmps c (gM 0 args .nil) [] h)) with
       | .cd (.ext _) _ _ _=> .no
       | .cd _ fr [] h=>match gP P fn.ntmps fr h fn.results.toList with
         | some vs=> .rv (lS vs) h
         | none=> .no
       | _=> .no) .no
     | none=> .no
   | none=> .no
def gk (P:ak) (G:Nat) (X:Xt):Nat→Tk→Rs
 | 0,_=> .no
 | n+1,t=>eA P G X (gk P G X n) t
def oC (c:Nat):List UInt8→Nat→Int
 | [],_=> -1
 | b::l,i=>cond (aB b.toNat c) (jE i)<|oC c l<|i+1
def vx (xs:List AV) (h:Hp):Option (AV×Hp):=match xs with
 | [.str l,.int .u8 (.ofNat c)]=>cond (au c 256) (match ek .i64 (oC c l 0) with
   | some v=>some (v,h)
   | none=>none) none
 | _=>none
def vw (xs:List AV) (h:Hp):Option (AV×Hp):=match xs with
 | [x]=>some (x,h)
 | _=>none
end Go.Hb
namespace Go.Hb
section
variable {P:ak} {G:Nat} {r:Rn} {T:Nat} {h:Hp} {w:ah} {N:Fm} {σ:Nat→ab} {dst:Option Nat} {ty:aj} {pos :String} {af:Array bB} {g:Option (Nat×Bool)} {x y z:az}
theorem HR.zM (hr:HR P G r T h w) {b o:Nat} {l news:List AV} {e fz:Nat} {ex:Ck} {q:Loc} {Nw:List ab} (hb:h.t.get b=some (.cells l e fz ex)) (ak:aG G b=true) (al:au b bO=true) (O:r b=some q) (E:av r news=some Nw) (aj:dy news=true) (hle:o+news.length≤l.length) (ax:fz≤o):
 ∃ c fr,w.heap[q.ao]? =some (.cells c e fr)∧fr.2≤q.sh+o∧q.sh+o+Nw.length≤c.size∧(∀ u∈Nw,u.oneCell'=true)∧
   St P G T r h w r ⟨h.t.set b (.cells (l.take o++(news++l.drop (o+news.length))) e fz ex),h.nx⟩ (w.setRow q.ao (c.toList.take (q.sh+o)++Nw++c.toList.drop (q.sh+o+Nw.length)).toArray):=by
 obtain ⟨q',V,c,fr,us,Z,I,aA,aa,ap,ac,ad,aq⟩:=hr.live b _ hb;rw [O] at V; cases V;have ay:=cB E;have az:=cB I;have M:=nk E aj;obtain ⟨L,C⟩:∃ L,c.toList.take (q.sh+o)++Nw++c.toList.drop (q.sh+o+Nw.length)=L:=⟨_,rfl⟩
 have J:=uE c.toList Nw (q.sh+o)<|by have :=mj (xs:=c); omega
 rw [C] at J;have aw:L.length=c.size:=by rw [← C]; simp; omega
 refine ⟨c,fr,Z,ag,ag,M,?_⟩;rw [C];refine hr.j5 hb al O (bp ak) ?_ ⟨U,U,by simp,fun k _ am=>setRow_other w q.ao k _ am⟩;rw [setRow_heap w q.ao _ _ e _ Z];refine ⟨L.toArray,fr,_,U,eu (ib o I) (eu E<|iF (o+news.length) I),?_,fun j a A=> ?_,ap,?_,⟨fun hex=> ?_,ad.2⟩,fun s an=> ?_⟩
 · simp only [bK,cm,gX,dP]; omega
 · rw [ki,J];have ae:(us.take o).length=o:=by simp; omega
   by_cases m1:j < o
   · rw [fy ag,gW,if_pos m1] at A;rw [if_pos ag,nM]; exact aa _ _ A
   · rw [fA ag,ae] at A;rw [if_neg ag];by_cases aB:j < o+Nw.length
     · rw [fy ag] at A;rw [if_pos ag,show q.sh+j - (q.sh+o)=j - o from by omega]; exact A
     · rw [fA ag,gV] at A;rw [if_neg ag,nM];refine aa j a ?_;rw [← A]; congr 1; omega
 · intro a ha;rcases eL.1 ha with ha | ha
   · exact ac a<|r6 ha
   · rcases eL.1 ha with ha | ha
     · exact M a ha
     · exact ac a<|rZ ha
 · obtain ⟨ah,ar,ai⟩:=ad.1 hex;refine ⟨ah,?_,ai⟩;simp only [bK,cm,gX,dP]; omega
 · have :=aq s an;simp only [dP]; omega
theorem Gz (hr:HR P G r T h w) {t b o n c i j:Nat} {L:Hp} {v:AV} {k an:bc} (hn:ue P t n i j h=some (v,L)) (hT:L.nx≤T) (ak:den r (.sl b o n c false)=some (ev N σ x)) (al:ev N σ y= .int k (jE i)) (am:ev N σ z= .int an (jE j)):YM P G r T N σ ⟨dst,.slice t x (some y) (some z) none,ty,pos,af,g⟩ h w v L:=by
 unfold ue at hn;split at hn
 · rename_i e he;replace hn:=aF hn; obtain ⟨M,hn⟩:=hn;simp only [aU] at M;obtain rfl :=bF M.1;obtain rfl :=bF M.2.1;cases hn;simp only at hT;obtain ⟨q,au,ar,hu⟩:=pZ ak;have aj:=q9 (dst:=dst) (ty:=ty) (pos :=pos) (af:=af) (g:=g) (w:=w) he hu al am ⟨eK _,Int.le_refl _,by simp; omega⟩;obtain ⟨ad,ac⟩:∃ ad:Nat,cF (some ⟨q.ao,q.sh+o,none⟩) (q.room - c) j e=some ⟨q.ao,ad,none⟩:=by
    unfold cF; split
    · exact ⟨_,U⟩
    · exact ⟨_,by rw [dg,dt]⟩
   have hle:=Rn.oH (i:=h.nx) ⟨q.ao,ad,q.room - c - j⟩<|hr.new h.nx (aO _) ag;refine ⟨r.ext h.nx ⟨q.ao,ad,q.room - c - j⟩,_,w,?_,.inl aj,hle,⟨fun j J C=> ?_,fun j k Z aa aw ap C E I A he=> ?_,fun k E ah=> ?_,hr.eF.le hle,bX hr.base<|km _⟩,km _,Md.refl _ _,fun g aq k E ae=> ?_,fun k E=>Rn.iI _ _<|by simp only at E; omega⟩
   · rw [mQ (Rn.fI _ _ _) (by simp)];simp [ac]
   · obtain ⟨q',I,A⟩:=hr.live j J C;exact ⟨q',hle _ _ I,A.le hle⟩
   · obtain ⟨q',O,_⟩:=hr.live j Z C;obtain ⟨av,V,_⟩:=hr.live k aa E;rw [hle _ _ O] at I; cases I;rw [hle _ _ V] at A; cases A;exact hr.inj j k Z aa _ _ C E O V he
   · simp only at E; rw [Rn.iI _ _ ag]; exact hr.new k ag ah
   · obtain ⟨j,J,q',ab,C,ai,rfl⟩:=ae;obtain ⟨ap,A,_⟩:=hr.live j J C;have :=hle _ _ A;rw [ai] at this; cases this;exact ⟨j,J,_,ab,C,A,U⟩
 · cases hn
theorem HR.Ea (hr:HR P G r T h w) {b:Nat} (hb:au b bO=true):St P G T r h w r ⟨h.t.del b,h.nx⟩ w:=
 ⟨Rn.le_refl r,hr.del hb,aO _,Md.refl _ _,fun g _ k _ E=>by
  obtain ⟨j,J,q',C,A,I,rfl⟩:=E;rw [Tr.na _ _ _ hb] at A;split at A
  · cases A
  · exact ⟨j,J,q',C,A,I,U⟩,fun _ _=>rfl⟩
theorem HR.Gm (hr:HR P G r T h w) {b:Nat} {o:AO} {q q':Loc} {E:Hp} {ob:AO} (hb:h.t.get b=some ob) (L:au b bO=true) (O:r b=some q) (Z:aG G b=true) (J:q'.ao=q.ao) (hn:Hb.cj ⟨h.t.del b,h.nx⟩ o=some E) (hT:E.nx≤T) (ad:∀ r',r.le r'→OR P r' q' o w.heap[q.ao]?):
 ∃ r',r' h.nx=some q'∧St P G T r h w r' E w:=by
 have U:=hr.del L;have ah:=hr.Ea L;unfold Hb.cj at hn;replace hn:=aF hn; obtain ⟨M,hn⟩:=hn;cases hn;simp only at hT M;have hle:=Rn.oH (i:=h.nx) q'<|hr.new h.nx (aO _) ag;have V:∀ g,g≤G→Fr g r h q.ao:=fun g A=>⟨b,_,q,bX A (bp Z),hb,O,rfl⟩
 refine ⟨r.ext h.nx q',Rn.fI _ _ _,hle,U.put hle M (Rn.fI _ _ _) (by rw [J]; exact ad _ hle) (fun _ _ _=>rfl) (fun j aj ak ai A ae he=> ?_) (km _) (fun k C ac=> ?_),km _,Md.refl _ _,fun g A k C aa=> ?_,fun k C=>Rn.iI _ _<|by simp only at C; omega⟩
 · rw [Tr.na _ _ _ L] at A;split at A
   · cases A
   · rename_i ab;exact ab<|hr.inj j b _ _ _ _ A hb ae O<|by rw [he,J]
 · simp only at C; rw [Rn.iI _ _ ag]; exact hr.new k ag ac
 · rcases Fr.set M (Rn.fI _ _ _) hle U aa with I | I
   · rw [I,J]; exact V g A
   · exact ah.dx g A k C I
theorem IG (hr:HR P G r T h w) {t b o n c i:Nat} {C:Hp} {v:AV} {k:bc} (hn:uY P G t b o n c i h=some (v,C)) (hT:C.nx≤T) (aj:den r (.sl b o n c false)=some (ev N σ x)) (ak:ev N σ y= .int k (jE i)):YM P G r T N σ ⟨dst,.slice t x (some y) none none,ty,pos,af,g⟩ h w v C:=by
 unfold uY at hn;split at hn
 · rename_i e he;replace hn:=aF hn; obtain ⟨E,hn⟩:=hn;simp only [aU] at E;obtain rfl :=bF E.1;obtain ⟨_,O,V⟩:=E;split at hn
   · rename_i l aC fz ex hb;split at hn
     · rename_i an I;replace hn:=aF hn; obtain ⟨A,hn⟩:=hn;simp only [aU] at A;obtain rfl :=bF A.1;have d1:=bF A.2.1;have d2:=bp A.2.2;split at hn
       · rename_i ap ac;cases hn;obtain ⟨q,J,ar,hu⟩:=pZ aj;obtain ⟨q',L,cc,fr,us,al,au,aw,ax,ay,az,aA,am⟩:=hr.live b _ hb;rw [J] at L; cases L;have aB:=am e I;have ai:=re (dst:=dst) (ty:=ty) (pos :=pos) (af:=af) (g:=g) (w:=w) he hu ak ⟨eK _,Int.le_refl _⟩;have ah:(c+i+(q.room - c - i))*e=q.room*e:=by congr 1; omega
         rw [kZ,kZ] at ah;obtain ⟨ad,Z,aq,aa⟩:∃ ad:Nat,cF (some ⟨q.ao,q.sh+o,none⟩) (q.room - c) i e=some ⟨q.ao,ad,none⟩∧q.sh≤ad∧ad+(q.room - c - i)*e≤cc.size:=by
          unfold cF; split
          · rename_i h0;refine ⟨_,U,ag,?_⟩;rw [show q.room - c - i=0 from by omega,n7]; omega
          · exact ⟨q.sh+o+i*e,by rw [dg,dt],ag,ag⟩
         obtain ⟨r',ae,bu⟩:=hr.Gm (q':=⟨q.ao,ad,q.room - c - i⟩) hb V J O rfl ac hT fun r' hle=>by
          refine ⟨cc,fr,[],al,by simp [av],by simp only [nY,iX]; omega,fun j u ab=>by simp at ab,by simp only; omega,fun u hu=>by simp at hu,⟨(fun h=>by cases h),fun h=>absurd U h⟩,fun s M=> ?_⟩;rw [I] at M; cases M;exact aa
         refine ⟨r',_,w,?_,.inl ai,bu⟩;rw [mQ ae (by simp)];simp [Z]
       · cases hn
     · cases hn
   · cases hn
 · cases hn
theorem Dp (hr:HR P G r T h w) {t:aj} {a v:AV} {I:Hp} (hn:sO P G t a h=some (v,I)) (O:den r a=some (ev N σ x)):YM P G r T N σ ⟨dst,.call ⟨.builtin .clear,#[x],#[t]⟩,ty,pos,af,g⟩ h w v I:=by
 have E:∀ {u:ab} {w':ah},(rH #[t] ty #[ev N σ x]).run P w= .ok u w'→(execOp (ev N σ) ⟨dst,.call ⟨.builtin .clear,#[x],#[t]⟩,ty,pos,af,g⟩).run P w= .ok (.value u) w':=by
  intro u w' h;simp [execOp,resolve,invoke,builtin,h]
 unfold sO at hn;split at hn
 · replace hn:=aF hn; obtain ⟨A,hn⟩:=hn;cases hn;obtain ⟨e,he⟩:=oE A;have hu:=gi O;exact ⟨r,undef,w,gI r,.inl (E<|by rw [hu]; simp [rH,aR he]; rfl),St.refl hr⟩
 · rename_i b o n c q;split at hn
   · rename_i e s ar aq ad;obtain ⟨i,zv,hu,hi,ae,rfl,rfl,am,aw,ak,al,ax⟩:=q8 (r:=r) ad;obtain ⟨V,cap,ac,au,U,_⟩:=gK O;split at hn
     · cases hn;exact ⟨r,undef,w,gI r,.inl (E<|by rw [U]; simp [rH,aR hu]; rfl),St.refl hr⟩
     · rename_i aa;split at hn
       · rename_i l Z fz ex hb;replace hn:=aF hn; obtain ⟨A,hn⟩:=hn;simp only [aU] at A;obtain ⟨⟨C,c2⟩,c3,c4⟩:=A;have C:=bp C;have c2:=bp c2;cases hn;have J:=qV ak n;have hlen:=cB J;have L:(js aq n).length=n*i.size:=by
          rw [← hlen]; simp [List.length_flatten,am]
         obtain ⟨cc,fr,an,ay,az,ap,bu⟩:=hr.zM (o:=o) hb c3 c4 ac J (uu al n) (by rw [L]; exact C) c2;have M:=run_storeCells_atF P V.ao (V.sh+o) Z fr _ 0 cc w an ag ag ap;simp only [iX] at M;rw [L] at bu;refine ⟨r,undef,_,gI r,.inl (E ?_),bu⟩;rw [U];have ai:(A3 zv.cells n).toList=(dT n zv.cells.toList).flatten:=by
          have :=uq zv.cells ag n;have :=congrArg Array.toList this;simpa [A3] using this
         have av:n≠0:=fun h=>aa<|by rw [h]
         obtain ⟨m,rfl⟩:∃ m,n=m+1:=⟨n - 1,ag⟩
         simp [rH,aR hu,zeroValue,cJ hi,ae,ai,M];rfl
       · cases hn
   · cases hn
 · cases hn
theorem yS {x:AV} {kx:ab} {C:KK} (I:c7 C x=true) (E:den r x=some kx):∀ {l:List (AV×AV)} {es:List MapEntry} {j:Nat} {A:MapEntry},eT r l es→ei C l=true→
 es[j]? =some A→A.key=kx→(es.map fun e=>e.key).Nodup→eT r (jX x l) (es.eraseIdx j)
 | [],[],j,A,_,_,hj,_,_=>by simp at hj
 | [],_::_,_,_,hm,_,_,_,_=>hm.elim
 | _::_,[],_,_,hm,_,_,_,_=>hm.elim
 | q::l,e::es,0,A,hm,hk,hj,hk',_=>by
   simp only [ei] at hk;cases h1:c7 C q.1
   · rw [h1] at hk; cases hk
   · simp only [fV,aY] at hj;subst hj;simp only [jX,(jY h1 I hm.1 E).2 hk',cond_true];exact hm.2.2
 | q::l,e::es,j+1,A,hm,hk,hj,hk',hn=>by
   simp only [ei] at hk;cases h1:c7 C q.1
   · rw [h1] at hk; cases hk
   · rw [h1] at hk;simp only [fU] at hj;simp only [da,mE] at hn;have he:eR q.1 x=false :=by
      cases hq:eR q.1 x
      · rfl
      · have :=(jY h1 I hm.1 E).1 hq;exact absurd (dO.2 ⟨A,jF hj,hk'.trans this.symm⟩) hn.1
     simp only [jX,he,cond_false];exact ⟨hm.1,hm.2.1,yS I E hm.2.2 hk hj hk' hn.2⟩
theorem yw {x:AV} {kx:ab} {A:KK} (E:c7 A x=true) (C:den r x=some kx):∀ {l:List (AV×AV)} {es:List MapEntry},eT r l es→ei A l=true→(∀ e∈es,e.key≠kx)→jX x l=l
 | [],_,_,_,_=>rfl
 | q::l,[],hm,_,_=>hm.elim
 | q::l,e::es,hm,hk,hn=>by
   simp only [ei] at hk;cases h1:c7 A q.1
   · rw [h1] at hk; cases hk
   · rw [h1] at hk;have he:eR q.1 x=false :=by
      cases hq:eR q.1 x
      · rfl
      · exact absurd ((jY h1 E hm.1 C).1 hq)<|hn e ix
     simp only [jX,he,cond_false,yw E C hm.2.2 hk (fun e he=>hn e<|iV _ he)]
theorem D8 (hr:HR P G r T h w) {t I:aj} {b:Nat} {k v:AV} {J:Hp} (hp:sV P G t b k h=some (v,J)) (an:den r (.map b)=some (ev N σ x)) (E:den r k=some (ev N σ y)):YM P G r T N σ ⟨dst,.call ⟨.builtin .delete,#[x,y],#[t,I]⟩,ty,pos,af,g⟩ h w v J:=by
 have Z:∀ {u:ab} {w':ah},(nQ #[t,I] ty #[ev N σ x,ev N σ y]).run P w= .ok u w'→(execOp (ev N σ) ⟨dst,.call ⟨.builtin .delete,#[x,y],#[t,I]⟩,ty,pos,af,g⟩).run P w= .ok (.value u) w':=by
  intro u w' h;simp [execOp,resolve,invoke,builtin,h]
 unfold sV at hp;split at hp
 · rename_i l hb;split at hp
   · rename_i kt e aa;split at hp
     · rename_i ap ai;replace hp:=aF hp; obtain ⟨L,hp⟩:=hp;simp only [aU] at L;obtain ⟨⟨ad,ae⟩,hka,hkl⟩:=L;cases hp;obtain ⟨q,es,c,U,hw,hm,hn⟩:=hr.map hb;obtain ⟨q',V,hu⟩:=lz an;rw [U] at V; cases V;have A:=tK ai;have hi:=qt hka E;have ag:∀ e∈es.toList,nf ap e.key:=qa rfl (qE hm hkl);have ak:=(bI.1 hw).1;have st:∀ (es':Array MapEntry),eT r (jX k l) es'.toList→(es'.toList.map fun e=>e.key).Nodup→St P G T r h w r ⟨h.t.set b (.map<|jX k l),h.nx⟩ {w with heap:=w.heap.setIfInBounds q.ao<|.map es' c} :=fun es' g1 g2=>
        hr.j5 hb ae U (bp ad) ⟨es',c,by simp only; rw [mi ak],g1,g2⟩ ⟨rfl,rfl,by simp,fun i _ al=>by simp only; rw [kS (fun e=>al e.symm)]⟩
       rcases A.find w (ev N σ y) es.toList hi ag with ⟨C,am⟩ | ⟨j,aq,C,O,ac⟩
       · refine ⟨r,undef,_,gI r,.inl (Z ?_),st es (by rw [yw hka E hm hkl am]; exact hm) hn⟩;rw [hu];simp [nQ,aR aa,run_getObj_map hw,A.check _ w _ hi,C,setObj,iR,hw];rfl
       · have ar:=(cy.1 O).1;have M:(es.eraseIdxIfInBounds j).toList=es.toList.eraseIdx j:=by simp
         refine ⟨r,undef,_,gI r,.inl (Z ?_),st (es.eraseIdxIfInBounds j) (by rw [M]; exact yS hka E hm hkl O ac hn) (by
          rw [M];exact List.Nodup.sublist (vM _<|List.eraseIdx_sublist _ _) hn)⟩
         rw [hu];simp [nQ,aR aa,run_getObj_map hw,A.check _ w _ hi,C,setObj,iR,hw];rfl
     · cases hp
   · cases hp
 · cases hp
theorem I8 (hr:HR P G r T h w) {A it:aj} {a b v:AV} {J:Hp} (hp:vk P G A a b h=some (v,J)) (ac:den r a=some (ev N σ x)) (ad:den r b=some (ev N σ y)):YM P G r T N σ ⟨dst,.call ⟨.builtin .unsafeString,#[x,y],#[A,it]⟩,ty,pos,af,g⟩ h w v J:=by
 have Z:∀ {u:ab} {w':ah},(Builtin.unsafeString_ #[A,it] ty #[ev N σ x,ev N σ y]).run P w= .ok u w'→(execOp (ev N σ) ⟨dst,.call ⟨.builtin .unsafeString,#[x,y],#[A,it]⟩,ty,pos,af,g⟩).run P w= .ok (.value u) w':=by
  intro u w' h;simp [execOp,resolve,invoke,builtin,h]
 have an:den r (.str [])=some (.string .empty):=rfl;unfold vk at hp;split at hp
 · cases hp;obtain ⟨q,V,hu⟩:=gJ ac;have E:=bY ad;exact ⟨r,_,w,an,.inl (Z<|by rw [hu,E]; exact Bp w A it ty _),St.refl hr⟩
 · cases hp;have hu:=mS ac;have E:=bY ad;exact ⟨r,_,w,an,.inl (Z<|by rw [hu,E]; exact Bp w A it ty _),St.refl hr⟩
 · rename_i I n _;split at hp
   · rename_i l e fz ex hb;have key:ex≠.a→cond ((ptrTo P A e && (aG n l.length && (au 0 n && au n 1000000000))) && (aG G I && au I bO)) (match l9 (l.take n) with
      | some m=>some (AV.str m,(⟨h.t.set I (.cells l e (max fz n) .z),h.nx⟩:Hp))
      | none=>none) none=some (v,J)→YM P G r T N σ ⟨dst,.call ⟨.builtin .unsafeString,#[x,y],#[A,it]⟩,ty,pos,af,g⟩ h w v J:=by
      intro hex hp;replace hp:=aF hp; obtain ⟨am,hp⟩:=hp;simp only [aU] at am;obtain ⟨⟨C,ak,c2,c3⟩,hG,hbm⟩:=am;have ak:=bp ak;have c2:=bQ.1 c2;have c3:=bQ.1 c3;split at hp
      · rename_i m hm;cases hp;obtain ⟨q,V,cc,fr,us,ae,ai,aE,ar,aH,aI,aJ,aK⟩:=hr.live I _ hb;have aa:=aJ.2 hex;obtain ⟨q',aq,hu⟩:=gJ ac;rw [V] at aq; cases aq;have E:=bY ad;rw [aa] at hu;have ay:=ib n ai;have al:=va hm ay;have aL:=cB ai;have M:m.length=n:=by
         have :=congrArg rW al;simp [ss] at this;omega
        unfold ptrTo at C;split at C
        · rename_i L az;simp only [aU,beq_iff_eq] at C;obtain ⟨rfl,aw⟩:=C;have aD:w.shape? q.ao=some (L,cc.size):=by simp [World.shape?,ae]
          have O:m≠[]:=fun h=>by rw [h] at M; simp at M; omega
          have ax:=Lib.run_unsafeString_row (P:=P) w A it ty L az aw q.ao cc.size aD m O ag ag (fun j u aA=>by
           have av:us[j]? =some (.int .u8 u.toNat):=by
            have :(us.take n)[j]? =some (.int .u8 u.toNat):=by rw [al]; simp [U8,aA]
            rw [gW] at this;split at this
            · exact this
            · cases this
           rw [dt,fZ,dd ae,bS];have :=ar j _ av;rwa [aa,bS] at this)
          have ap:kh w ⟨q.ao,0,none⟩ m.length= {w with heap:=w.heap.modify q.ao fun
           | .cells c elem (lo,hi)=> .cells c elem (if lo==hi then (0,0 +m.length) else (min lo 0,max hi (0 +m.length)))
           | o=>o} :=by
           unfold kh;rw [if_neg ag];rfl
          obtain ⟨lo,hi⟩:=fr;have aC:(kh w ⟨q.ao,0,none⟩ m.length).heap[q.ao]? =some (.cells cc L (if lo==hi then (0,0 +m.length) else (min lo 0,max hi (0 +m.length)))):=by
           rw [ap];simp only [rB,if_true,ae];rfl
          refine ⟨r,.string ⟨m.toArray⟩,kh w ⟨q.ao,0,none⟩ m.length,U,.inl (Z ?_),hr.j5 hb hbm V (bp hG) ?_ ?_⟩
          · rw [hu,E,← M]; exact ax
          · rw [aC];refine ⟨cc,_,us,U,ai,aE,ar,?_,aI,⟨(fun h=>by cases h),fun _=>aa⟩,aK⟩;simp only at aH;split <;> simp only <;> omega
          · rw [ap];exact ⟨U,U,by simp,fun k _ aB=>by simp only [rB]; rw [if_neg (fun e=>aB e.symm)]⟩
        · cases C
      · cases hp
     split at hp
     · cases hp
     · rename_i O;exact key O hp
   · cases hp
 · cases hp
theorem GI (hr:HR P G r T h w) {o:Op} {xs:List AV} {v:AV} {L:Hp} (A:qQ P G o xs h=some (v,L)) (hT:L.nx≤T) (I:av r xs=some ((eU o).map<|ev N σ)):YM P G r T N σ ⟨dst,o,ty,pos,af,g⟩ h w v L:=by
 have two:∀ {a b:AV} {l:List az},av r [a,b]=some (l.map<|ev N σ)→∃ x y,l= [x,y]∧den r a=some (ev N σ x)∧den r b=some (ev N σ y):=by
  intro a b l h;have :=cB h;simp at this;obtain ⟨x,y,rfl⟩:∃ x y,l= [x,y]:=by
   match l,this with
   | [x,y],_=>exact ⟨x,y,rfl⟩
  exact ⟨x,y,U,ga h⟩
 have one:∀ {a:AV} {l:List az},av r [a]=some (l.map<|ev N σ)→∃ x,l= [x]∧den r a=some (ev N σ x):=by
  intro a l h;have :=cB h;simp at this;obtain ⟨x,rfl⟩:=pC.1 this;exact ⟨x,U,dX h⟩
 unfold qQ at A;split at A
 · rename_i C t ad;split at A
   · obtain ⟨C⟩:=C;obtain ⟨x,y,rfl,E,J⟩:=two I;exact CK hr A hT E J
   · cases A
 · rename_i C t;split at A
   · obtain ⟨C⟩:=C;obtain ⟨x,rfl,E⟩:=one I;exact Dp hr A E
   · cases A
 · rename_i C t kt;split at A
   · obtain ⟨C⟩:=C;obtain ⟨x,y,rfl,E,J⟩:=two I;exact D8 hr A E J
   · cases A
 · rename_i C ac;obtain ⟨C⟩:=C;split at A
   · cases A;obtain ⟨x,rfl,E⟩:=one I;exact ⟨r,_,w,U,.inl (vj (v:= .nilFunc) (gi E)<|.inl U),St.refl hr⟩
   · replace A:=aF A; obtain ⟨V,A⟩:=A;have V:=bQ.1 V;cases A;obtain ⟨x,rfl,E⟩:=one I;obtain ⟨q,cap,aa,hn,hu,_⟩:=gK E;exact ⟨r,_,w,by simp only [den,aa],.inl (vj (v:= .nilFunc) hu<|.inr ag),St.refl hr⟩
   · cases A
 · rename_i C ab it;split at A
   · obtain ⟨C⟩:=C;obtain ⟨x,y,rfl,E,J⟩:=two I;exact I8 hr A E J
   · cases A
 · split at A
   · obtain ⟨M,O⟩:=ga I;exact IG hr A hT M<|bY O
   · cases A
 · split at A
   · obtain ⟨M,O,Z⟩:=ky I;exact Gz hr A hT M (bY O)<|bY Z
   · cases A
 · cases A
end
end Go.Hb
namespace Go.Hb
def iH:EX→aK
 | .bE=> .normal
 | .ret=> .ret
 | .ext i=> .exit i
def iG (r:Rn):List AD→List Deferred→Prop
 | [],[]=>True
 | .mark d::l,x::m=>(∃ q,r d=some q∧x= {target:= .collected q.ao,args:= #[]})∧iG r l m
 | .fn f args::l,x::m=>(∃ (a:List ab) (cap A:Array ab),av r args=some a∧x= {target:= .fn (.func f) cap,args:=A}∧A++cap=a.toArray)∧iG r l m
 | _,_=>False
def oW (r:Rn):Option Nat→Option Nat→Prop
 | none,none=>True
 | some l,some k=> ∃ q,r l=some q∧q.ao=k
 | _,_=>False
theorem ly {r s:Rn} (h:r.le s):∀ {D:List AD} {m:List Deferred},iG r D m→iG s D m
 | [],[],_=>trivial
 | [],_::_,h'=>h'.elim
 | .mark d::l,[],h'=>h'.elim
 | .fn f args::l,[],h'=>h'.elim
 | .mark d::l,x::m,⟨⟨q,h1,h2⟩,h3⟩=>⟨⟨q,h _ _ h1,h2⟩,ly h h3⟩
 | .fn f args::l,x::m,⟨⟨a,cap,as_,h1,h2⟩,h3⟩=>⟨⟨a,cap,as_,gd h h1,h2⟩,ly h h3⟩
theorem zx {r s:Rn} (h:r.le s) {a b:Option Nat} (hr:oW r a b):oW s a b:=by
 cases a <;> cases b
 · trivial
 · exact hr.elim
 · exact hr.elim
 · obtain ⟨q,A,C⟩:=hr; exact ⟨q,h _ _ A,C⟩
theorem dC.le {r s:Rn} (h:r.le s) {n:Nat} {fr:Tr AV} {σ:Nat→ab} (A:dC r n fr σ):dC s n fr σ:=fun i hi=>jO h<|A i hi
def cQ (P:ak) (G:Nat) (rd:Option Nat) (n:Nat) (W:Option Nat→(aK→Act→ah→Prop)→Act→ah→Prop) (fr:Tr AV) (D:List AD) (h:Hp) (e:EX) (I:Tr AV) (E:List AD) (A:Hp):Prop :=
 h.nx≤A.nx∧∀ (T:Nat) (r:Rn) (w:ah) (σ:Nat→ab) (Dl:List Deferred) (rr:Option Nat) (Q:aK→Act→ah→Prop),A.nx≤T→HR P G r T h w→dC r n fr σ→iG r D Dl→oW r rd rr→
  (∀ (r':Rn) (w':ah) (σ':Nat→ab) (C:List Deferred),St P G T r h w r' A w'→dC r' n I σ'→iG r' E C→Q (iH e) (act ⟨n,C,[],rr⟩ σ') w')→W rr Q (act ⟨n,Dl,[],rr⟩ σ) w
def wu (P:ak) (G:Nat) (f:Nat) (args:List AV) (h:Hp) (v:AV) (A:Hp):Prop :=
 h.nx≤A.nx∧∀ (T:Nat) (r:Rn) (w:ah) (L:List ab),A.nx≤T→HR P G r T h w→av r args=some L→bf P f L.toArray w fun u w'=> ∃ r',den r' v=some u∧St P G T r h w r' A w'
def sr (P:ak) (G:Nat) (l:Nat) (args:List AV) (h:Hp) (v:AV) (A:Hp):Prop :=
 h.nx≤A.nx∧∀ (T:Nat) (r:Rn) (w:ah) (L:List ab) (q:Loc),A.nx≤T→HR P G r T h w→av r args=some L→r l=some q→YieldAt eC 0 P q.ao L.toArray w fun e w'=> ∃ u r',e= .returned u∧den r' v=some u∧St P G T r h w r' A w'
def Ct (P:ak) (G:Nat) (f:Nat) (args:List AV) (h A:Hp):Prop :=
 h.nx≤A.nx∧∀ (T:Nat) (r:Rn) (w:ah) (L:List ab),A.nx≤T→HR P G r T h w→av r args=some L→CallsDIn eC 0 P f L.toArray .returning w fun e C w'=> ∃ v,e= .returned v∧C= .returning∧∃ r',St P G T r h w r' A w'
def rq (P:ak) (c:bG) (rr:Option Nat) (Q:aK→Act→ah→Prop) (a:Act) (w:ah):Prop :=
 ∀ (b:Frame) (k:List Item) (cs:List Frame),b.roundOf=(fe rr).round→(fe rr).fn b.fn→(fe rr).room (cs.length+1 +0)→
   ∃ e A w',Q e A w'∧ArrivesIn (Machine.fenced P<|fe rr) P (lone (b.atR a (.code c:: .inLoop c::k)) cs w) b k cs e A w'
def kq (P:ak) (G:Nat):Tk→Rs→Prop
 | .cd rd n c fr D h,.cd e fr' D' h'=>cQ P G rd n (fun rr Q a w=>c.wpIn (fe rr) 0 P Q a w) fr D h e fr' D' h'
 | .lp rd n c fr D h,.cd e fr' D' h'=>cQ P G rd n (rq P c) fr D h e fr' D' h'
 | .cl f args h,.rv v h'=>wu P G f args h v h'
 | .yl l args h,.rv v h'=>sr P G l args h v h'
 | .df f args h,.rv v h'=>Ct P G f args h h'
 | _,.no=>True
 | _,_=>False
def Good (P:ak) (G:Nat) (ih:Tk→Rs):Prop := ∀ t,kq P G t (ih t)
def gH (P:ak) (G:Nat) (X:Xt):Prop := ∀ f e,X f=some e→∀ xs h v A,e xs h=some (v,A)→h.nx≤A.nx∧∀ (T:Nat) (r:Rn) (w:ah) (us:List ab),A.nx≤T→HR P G r T h w→av r xs=some us→
 ∃ r' u w',den r' v=some u∧(callFunc f us.toArray).run P w= .ok (.value u) w'∧St P G T r h w r' A w'
def e7 (P:ak):Prop := ∀ f fn c,P.funcs[f]? =some fn→fn.body=some c→eN P f
section
variable {P:ak} {G:Nat} {r:Rn} {T:Nat} {h:Hp} {w:ah} {N:Fm} {σ:Nat→ab} {dst:Option Nat} {ty:aj} {pos :String} {af:Array bB} {g:Option (Nat×Bool)} {x y z:az} {K:Act→ah→Prop} {Q:aK→Act→ah→Prop}
theorem rp {o:aq} (hn:∀ c,o.op≠.defer c) {u:ab} {w':ah} (hr:(execOp (ev N σ) o).run P w= .ok (.value u) w'∨(execOp (ev N σ) o).run P w= .ok .skip w'∧u=undef) (A:K ((act N σ).put o.dst u) w'):o.wpIn (fe N.r) 0 P (act N σ) w K Q:=by
 refine ⟨fun f _=>je _ f,?_⟩;rw [lD,po _ _ _ hn,cK];rcases hr with hr | ⟨hr,rfl⟩
 · rw [hr]; exact A
 · rw [hr]; exact A
theorem xg {f:Nat} {fo:az} {first cap:Array ab} {args:Array az} {A:Array aj} (C:ev N σ fo= .func (.func f) first cap):(execOp (ev N σ) ⟨dst,.call ⟨.value fo,args,A⟩,ty,pos,af,g⟩).run P w=(callFunc f<|first++args.map (ev N σ)++cap).run P w:=by
 simp only [execOp,resolve,C,kg,fT,iS,fw,invoke]
end
end Go.Hb
namespace Go.Hb
section
variable {P:ak} {G:Nat} {h:Hp}
theorem jl {o:AO} {A:Hp} (hn:cj h o=some A):A.nx=h.nx+1:=by
 unfold cj at hn;replace hn:=aF hn; obtain ⟨_,hn⟩:=hn;cases hn; rfl
theorem zt {t:aj} {b:Nat} {k v:AV} {A:Hp} (hp:ns P t b k v h=some A):A.nx=h.nx:=by
 unfold ns at hp;split at hp
 · split at hp
   · split at hp
     · replace hp:=aF hp; obtain ⟨_,hp⟩:=hp; cases hp; rfl
     · cases hp
   · cases hp
 · cases hp
theorem Ip {t b o:Nat} {v:AV} {C:Hp} (A:o4 P G t b o v h=some C):C.nx=h.nx:=by
 unfold o4 at A;split at A
 · split at A
   · replace A:=aF A; obtain ⟨_,A⟩:=A; cases A; rfl
   · cases A
 · cases A
theorem GG {o:Op} {xs:List AV} {v:AV} {C:Hp} (A:nq P G o xs h=some (v,C)):h.nx≤C.nx:=by
 unfold nq at A;split at A
 · split at A
   · split at A
     · replace A:=aF A; obtain ⟨_,A⟩:=A;split at A
       · rename_i hn; cases A; have :=jl hn; omega
       · cases A
     · cases A
   · cases A
 · split at A
   · replace A:=aF A; obtain ⟨_,A⟩:=A;split at A
     · rename_i hn; cases A; have :=jl hn; omega
     · cases A
   · cases A
 · split at A
   · rename_i hn; cases A; have :=jl hn; omega
   · cases A
 · split at A
   · replace A:=aF A; obtain ⟨_,A⟩:=A;split at A
     · replace A:=aF A; obtain ⟨_,A⟩:=A;split at A
       · rename_i hn; cases A; have :=jl hn; omega
       · cases A
     · cases A
   · cases A
 · split at A
   · split at A
     · replace A:=aF A; obtain ⟨_,A⟩:=A;split at A
       · rename_i hn; cases A; have :=jl hn; omega
       · cases A
     · cases A
   · cases A
 · split at A
   · split at A
     · rename_i E; cases A; have :=Ip E; omega
     · cases A
   · cases A
 · split at A
   · replace A:=aF A; obtain ⟨_,A⟩:=A;split at A
     · rename_i hp; cases A; have :=zt hp; omega
     · cases A
   · cases A
 · split at A
   · replace A:=aF A; obtain ⟨_,A⟩:=A;split at A
     · rename_i hp; cases A; have :=zt hp; omega
     · cases A
   · cases A
 · cases A
end
section
variable {P:ak} {G:Nat} {X:Xt} {ih:Tk→Rs} {n:Nat}
def ja (P:ak) (G:Nat) (o:Op) (xs:List AV) (h:Hp) (v:AV) (A:Hp):Prop :=
 h.nx≤A.nx∧∀ (T:Nat) (r:Rn) (w:ah) (N:Fm) (σ:Nat→ab) (dst:Option Nat) (ty:aj) (pos :String) (af:Array bB) (g:Option (Nat×Bool)) (K:Act→ah→Prop) (Q:aK→Act→ah→Prop),A.nx≤T→HR P G r T h w→av r xs=some ((eU o).map<|ev N σ)→
  (∀ (r':Rn) (u:ab) (w':ah),den r' v=some u→St P G T r h w r' A w'→K ((act N σ).put dst u) w')→(Oper.mk dst o ty pos af g).wpIn (fe N.r) 0 P (act N σ) w K Q
theorem ja.run {o:Op} {xs:List AV} {h A:Hp} {v:AV} (hn:∀ c,o≠.defer c) (O:h.nx≤A.nx)
 (hr:∀ (T:Nat) (r:Rn) (w:ah) (N:Fm) (σ:Nat→ab) (dst:Option Nat) (ty:aj) (pos :String) (af:Array bB) (g:Option (Nat×Bool)),A.nx≤T→HR P G r T h w→av r xs=some ((eU o).map<|ev N σ)→YM P G r T N σ ⟨dst,o,ty,pos,af,g⟩ h w v A):ja P G o xs h v A:=
 ⟨O,fun T r w N σ dst ty pos af g K Q hT L J M=>by
  obtain ⟨r',u,w',C,E,I⟩:=hr T r w N σ dst ty pos af g hT L J;exact rp hn E (M r' u w' C I)⟩
theorem C9 (am:Good P G ih) (au:gH P G X) (ar:e7 P) (ax:∀ f args h v L,ih (.cl f args h)= .rv v L→∃ fn c,P.funcs[f]? =some fn∧fn.body=some c) {fo:az} {I:List az} {ad:Array aj} {f:AV} {args:List AV} {h L:Hp} {v:AV} (C:pS X ih f args h= .v v L):
 ja P G (.call ⟨.value fo,⟨I⟩,ad⟩) (f::args) h v L:=by
 have ah:∀ c,Op.call ⟨.value fo,⟨I⟩,ad⟩≠.defer c:=fun c e=>by cases e
 unfold pS at C;split at C
 · rename_i f a c;split at C
   · rename_i e he;split at C
     · rename_i v1 ac ai;cases C;obtain ⟨ab,E⟩:=au f e he _ _ _ _ ai;refine ja.run ah ab fun T r w N σ dst ty pos af g hT aa V=> ?_;obtain ⟨u,us,A,Z,U⟩:=dv V;simp only [eU,da,iT] at A;obtain ⟨A,rfl⟩:=A;obtain ⟨J,c',ha,ae,rfl⟩:=kA Z;obtain ⟨r',u,w',M,O,aq⟩:=E T r w _ hT aa<|eu ha<|eu U ae;refine ⟨r',u,w',M,.inl ?_,aq⟩;rw [xg A];have :J.toArray++(⟨I⟩:Array az).map (ev N σ)++c'.toArray=(J++(I.map (ev N σ)++c')).toArray:=by simp
       rw [this]; exact O
     · cases C
   · split at C
     · rename_i v1 ac ap;cases C;have E:=am<|.cl f (a++(args++c)) h;rw [ap] at E;obtain ⟨ab,E⟩:=E;obtain ⟨fn,cd,ay,av⟩:=ax _ _ _ _ _ ap;have aw:=ar f fn cd ay av;refine ⟨ab,fun T r w N σ dst ty pos af g K Q hT aa V ag=> ?_⟩;obtain ⟨u,us,A,Z,U⟩:=dv V;simp only [eU,da,iT] at A;obtain ⟨A,rfl⟩:=A;obtain ⟨J,c',ha,ae,rfl⟩:=kA Z;have aB:=E T r w _ hT aa<|eu ha<|eu U ae;refine ⟨fun f _=>je _ f,?_⟩;rw [lD,po _ _ _ ah,cK,xg A];have :J.toArray++(⟨I⟩:Array az).map (ev N σ)++c'.toArray=(J++(I.map (ev N σ)++c')).toArray:=by simp
       rw [this,aw];simp only [Oper.uponIn_enter];refine ⟨fun h0=>(by rw [lB] at h0; cases h0),CallsIn.mono (qf aB) ?_⟩;rintro e w' ⟨u,rfl,r',M,O⟩;exact ag r' u w' M O
     · cases C
 · rename_i l;split at C
   · rename_i v1 ac aD;cases C;have E:=am<|.yl l args h;rw [aD] at E;obtain ⟨ab,E⟩:=E;refine ⟨ab,fun T r w N σ dst ty pos af g K Q hT aa V ag=> ?_⟩;obtain ⟨u,us,A,Z,U⟩:=dv V;simp only [eU,da,iT] at A;obtain ⟨A,rfl⟩:=A;obtain ⟨q,aA,rfl⟩:=sW Z;obtain ⟨fn,tmps,ak,al,aC,an⟩:=E T r w _ q hT aa U aA;refine ⟨fun f _=>je _ f,?_⟩;rw [lD,po _ _ _ ah,cK];have ai:(execOp (ev N σ) ⟨dst,.call ⟨.value fo,⟨I⟩,ad⟩,ty,pos,af,g⟩).run P w= .ok (.round q.ao fn tmps ak al) w:=by
      have hm:(⟨I⟩:Array az).map (ev N σ)=(I.map<|ev N σ).toArray:=by simp
      simp only [execOp,resolve,A,kg,fT,iS,fw,invoke];simp [aC]
     rw [ai];simp only [nW];refine ⟨fun h0=>(by rw [lB] at h0; cases h0),?_⟩;have ac:RoundIn (fe N.r) (0 - 1) P q.ao fn tmps ak al w fun e w'=> ∃ u r',e= .returned u∧den r' v=some u∧St P G T r h w r' L w':=by
      cases hr:N.r with
      | none=>exact an
      | some k=>exact an
     refine RoundIn.mono ac ?_;rintro e w' ⟨u,r',rfl,M,O⟩;exact ag r' u w' M O
   · cases C
 · cases C
theorem zm (Z:Good P G ih) (aa:gH P G X) (V:e7 P) (ab:∀ f args h v L,ih (.cl f args h)= .rv v L→∃ fn c,P.funcs[f]? =some fn∧fn.body=some c) {o:Op} {xs:List AV} {h L:Hp} {v:AV} (A:oR P G X ih o xs h= .v v L):ja P G o xs h v L:=by
 unfold oR at A;split at A
 · rename_i v1 hp;cases A;have E:∀ c,o≠.defer c:=fun c e=>by subst e; simp [lR] at hp
   refine ja.run E (aO _) fun T r w N σ dst ty pos af g hT C I=> ?_;obtain ⟨u,J,M⟩:=zl (dst:=dst) (ty:=ty) (pos :=pos) (af:=af) (g:=g) hp I;exact ⟨r,u,w,J,.inl (M w),St.refl C⟩
 · split at A
   · rename_i v1 U;cases A;have E:∀ c,o≠.defer c:=fun c e=>by subst e; simp [im] at U
     refine ja.run E (aO _) fun T r w N σ dst ty pos af g hT C I=> ?_;obtain ⟨u,J,M⟩:=zk (dst:=dst) (ty:=ty) (pos :=pos) (af:=af) (g:=g) C U I;exact ⟨r,u,w,J,.inl M,St.refl C⟩
   · split at A
     · rename_i fo O ac;split at A
       · obtain ⟨O⟩:=O;exact C9 Z aa V ab A
       · cases A
     · split at A <;> cases A
     · rename_i ad E;split at A
       · rename_i v1 J hm;cases A;have E:∀ c,o≠.defer c:=fun c e=>by subst e; simp [nq] at hm
         exact ja.run E (GG hm) fun T r w N σ dst ty pos af g hT C I=>GH C hm hT I
       · split at A
         · rename_i v1 J hm;cases hle:aG h.nx J.nx
           · rw [hle] at A; cases A
           rw [hle] at A;cases A;have E:∀ c,o≠.defer c:=fun c e=>by subst e; simp [qQ] at hm
           exact ja.run E (bp hle) fun T r w N σ dst ty pos af g hT C I=>GI C hm hT I
         · cases A
end
end Go.Hb
namespace Go.Hb
section
variable {P:ak} {G:Nat} {X:Xt} {ih:Tk→Rs} {n:Nat} {r:Rn}
theorem nD {fr C:Tr AV} {d:Option Nat} {v:AV} {u:ab} {σ:Nat→ab} (A:eI n fr d v=some C) (I:dC r n fr σ) (J:den r v=some u):dC r n C (bV σ d u):=by
 cases d with
 | none=>simp only [eI,aY] at A; subst A; exact I
 | some d=>
   simp only [eI] at A;replace A:=aF A; obtain ⟨E,A⟩:=A;simp only [aU] at E;cases A;intro i hi;simp only [bV,aI,cC,Tr.kC _ _ _ _ E.2];by_cases e:i=d
   · subst e;rw [if_pos rfl,show aB i i=true from by simp]; exact J
   · rw [if_neg e,show aB i d=false from by
      cases hb:aB i d
      · rfl
      · exact absurd (bF hb) e]
     exact I i hi
theorem tu {ops:List aq} {fr:Tr AV} {o:aq} {N:Fm} {σ:Nat→ab} (A:iJ N.n ops fr o.guard= .y) (E:dC r N.n fr σ):jB o (yielded ops.toArray (act N σ).tmps)=true :=by
 unfold iJ at A;split at A
 · exact eB _ (by assumption) _
 · rename_i j want I;split at A
   · rename_i O J;split at A
     · rename_i t L;cases hb:au t N.n
       · rw [hb] at A; cases A
       · rw [hb] at A;simp only [cond_true] at A;split at A
         · rename_i b M;cases hbw:(b==want)
           · rw [hbw] at A; cases A
           · have C:=E t<|bQ.1 hb;rw [M] at C;rw [kR I (by simp [di,J,L]) hb (ic C),hbw]
         · cases A
         · cases A
     · cases A
   · cases A
theorem yn {ops:List aq} {fr:Tr AV} {o:aq} {N:Fm} {σ:Nat→ab} (A:iJ N.n ops fr o.guard= .n) (I:dC r N.n fr σ):jB o (yielded ops.toArray (act N σ).tmps)=false :=by
 unfold iJ at A;split at A
 · cases A
 · rename_i j want J;split at A
   · rename_i O L;split at A
     · rename_i t M;cases hb:au t N.n
       · rw [hb] at A; cases A
       · rw [hb] at A;simp only [cond_true] at A;split at A
         · rename_i b E;cases hbw:(b==want)
           · have C:=I t<|bQ.1 hb;rw [E] at C;rw [kR J (by simp [di,L,M]) hb (ic C),hbw]
           · rw [hbw] at A; cases A
         · rename_i E;have C:=I t<|bQ.1 hb;rw [E] at C;rw [gI] at C;exact vp J (by simp [di,L,M]) hb (et C).symm
         · cases A
     · cases A
   · cases A
theorem oS (ad:Good P G ih) (ae:gH P G X) (ac:e7 P) (ag:∀ f args h v O,ih (.cl f args h)= .rv v O→∃ fn c,P.funcs[f]? =some fn∧fn.body=some c) {rd:Option Nat} {ops:List aq} :∀ {l:List aq} {fr ab:Tr AV} {D aa:List AD} {h O:Hp},
 iO P G X ih rd n ops l fr D h= .cd .bE ab aa O→cQ P G rd n (fun rr Q a w=>wpListIn (fe rr) 0 P ops.toArray Q l a w) fr D h .bE ab aa O
 | [],fr,ab,D,aa,h,O,he=>by
   simp only [iO,Rs.cd.injEq,true_and] at he;obtain ⟨rfl,rfl,rfl⟩:=he;exact ⟨aO _,fun T r w σ Dl rr Q hT E C J M L=>L r w σ Dl (St.refl E) C J⟩
 | o::l,fr,ab,D,aa,h,O,he=>by
   simp only [iO] at he;split at he
   · rename_i ai;split at he
     · rename_i xs an;split at he
       · rename_i v aI A;split at he
         · rename_i av V;obtain ⟨aF,s1⟩:=zm ad ae ac ag A;obtain ⟨Z,s2⟩:=oS ad ae ac ag he;refine ⟨bX aF Z,fun T r w σ Dl rr Q hT E C J M L=> ?_⟩;show wpListIn _ _ _ _ _ _ _ _;unfold wpListIn;rw [if_pos (tu (N:=⟨n,Dl,[],rr⟩) ai C)];obtain ⟨d,op,ty,pos,af,g⟩:=o;refine s1 T r w ⟨n,Dl,[],rr⟩ σ d ty pos af g _ Q (bX Z hT) E (qO E.eF C an) fun r' u w' hu bu=> ?_;rw [dV];exact s2 T r' w' _ Dl rr Q hT bu.hr (nD V (C.le bu.le) hu) (ly bu.le J) (zx bu.le M) fun ao ap ar aj am al ak=>L ao ap ar aj (bu.trans am) al ak
         · cases he
       · rename_i a A;split at he
         · split at he
           · rename_i av V;obtain ⟨Z,s2⟩:=oS ad ae ac ag he;refine ⟨Z,fun T r w σ Dl rr Q hT E C J M L=> ?_⟩;have aC:rr=none:=by
              cases rr with
              | none=>rfl
              | some k=>exact M.elim
             subst aC;show wpListIn _ _ _ _ _ _ _ _;unfold wpListIn;rw [if_pos (tu (N:=⟨n,Dl,[],none⟩) ai C)];obtain ⟨d,op,ty,pos,af,g⟩:=o;simp only at A an V;have aE:=qO (N:=⟨n,Dl,[],none⟩) E.eF C an;unfold oR at A;split at A
             · cases A
             · split at A
               · cases A
               · split at A
                 · rename_i fo I au;split at A
                   · unfold pS at A;split at A
                     · split at A
                       · split at A <;> cases A
                       · split at A <;> cases A
                     · split at A <;> cases A
                     · cases A
                   · cases A
                 · rename_i fo I au _ _;split at A
                   · rename_i f aH c' args _ _;cases A;obtain ⟨I⟩:=I;obtain ⟨u,us,ah,aA,ax⟩:=dv aE;simp only [eU,da,iT] at ah;obtain ⟨ah,rfl⟩:=ah;obtain ⟨a2,c2,ha,ay,rfl⟩:=kA aA;refine ⟨fun f _=>trivial,?_⟩;have aD:(execOp (ev ⟨n,Dl,[],none⟩ σ) ⟨d,.defer ⟨.value fo,⟨I⟩,au⟩,ty,pos,af,g⟩).run P w= .ok (.defer {target:= .fn (.func f) c2.toArray,args:=a2.toArray++(⟨I⟩:Array az).map (ev ⟨n,Dl,[],none⟩ σ)}) w:=by
                      simp [execOp,resolve,ah,kg]
                     show nW _ _ _ _ _ _ _ (iR P (Oper.semAt (fe none).round _ _) w);rw [lD,Oper.semAt_none,cK,aD];simp only [Oper.uponIn_defer];have aB:({(act ⟨n,Dl,[],none⟩ σ) with defers:= {target:=Target.fn (.func f) c2.toArray,args:=a2.toArray++(⟨I⟩:Array az).map (ev ⟨n,Dl,[],none⟩ σ)} ::(act ⟨n,Dl,[],none⟩ σ).defers} :Act)=act ⟨n,{target:= .fn (.func f) c2.toArray,args:=a2.toArray++(⟨I⟩:Array az).map (ev ⟨n,Dl,[],none⟩ σ)} ::Dl,[],none⟩ σ:=rfl;rw [aB,dV];refine s2 T r w _ _ none Q hT E (nD V C<|gI r) ⟨⟨_,_,_,eu ha (eu ax ay),U,by simp⟩,J⟩ M fun ao ap ar aj am al ak=>L ao ap ar aj am al ak
                   · cases A
                 · split at A
                   · cases A
                   · split at A
                     · rename_i aw _;cases hle:aG h.nx aw.nx
                       · rw [hle] at A; cases A
                       · rw [hle] at A; cases A
                     · cases A
           · cases he
         · cases he
       · cases he
     · cases he
   · rename_i ai;split at he
     · rename_i av V;obtain ⟨Z,s2⟩:=oS ad ae ac ag he;refine ⟨Z,fun T r w σ Dl rr Q hT E C J M L=> ?_⟩;show wpListIn _ _ _ _ _ _ _ _;unfold wpListIn;rw [if_neg (by rw [yn (N:=⟨n,Dl,[],rr⟩) ai C]; simp)];refine ⟨fun f _=>je _ f,?_⟩;rw [dV];exact s2 T r w _ Dl rr Q hT E (nD V C<|gI r) J M L
     · cases he
   · cases he
end
end Go.Hb
namespace Go.Hb
section
variable {P:ak} {G:Nat} {X:Xt} {ih:Tk→Rs} {n:Nat} {r:Rn} {T:Nat} {h:Hp} {w:ah}
theorem HR.loop (hr:HR P G r T h w) {l:Nat} {st:LoopState} {E:Option bG} {fr:Tr AV} {ps:List Nat} {aE body:bG} {D:Nat} (O:h.t.get l=some (.loop st E n fr ps aE body D)):
 ∃ q fn A C,r l=some q∧w.heap[q.ao]? =some (.loop {state:=st,pending:=E,fn:=fn,tmps:=A,params:=ps.toArray,assign:=aE,body:=body,defers:=C})∧(∃ x,r D=some x∧x.ao=C)∧A.size=n∧∀ i,i < n→den r (cC fr i)=A[i]? :=by
 obtain ⟨q,U,fn,A,C,I,J,L,M⟩:=hr.live l _ O;exact ⟨q,fn,A,C,U,I,J,L,M⟩
theorem HR.uF (hr:HR P G r T h w) {l:Nat} {q:Loc} {st st':LoopState} {E pe':Option bG} {fr:Tr AV} {ps:List Nat} {aE body:bG} {D fn C:Nat} {A:Array ab} (O:h.t.get l=some (.loop st E n fr ps aE body D)) (J:aG G l=true) (hb:au l bO=true) (Z:r l=some q)
 (hw:w.heap[q.ao]? =some (.loop {state:=st,pending:=E,fn:=fn,tmps:=A,params:=ps.toArray,assign:=aE,body:=body,defers:=C})) (I:∃ x,r D=some x∧x.ao=C) (aa:A.size=n) (L:∀ i,i < n→den r (cC fr i)=A[i]?):
 St P G T r h w r ⟨h.t.set l (.loop st' pe' n fr ps aE body D),h.nx⟩ (w.putObj q.ao<|.loop {state:=st',pending:=pe',fn:=fn,tmps:=A,params:=ps.toArray,assign:=aE,body:=body,defers:=C}):=by
 have V:=(bI.1 hw).1;refine hr.j5 O hb Z (bp J) ?_ ⟨U,U,by simp [Bw],fun k _ M=>kW M⟩;rw [px V];exact ⟨fn,A,C,U,I,aa,L⟩
theorem zP {σ:Nat→ab} :∀ {ps:List Nat} {args:List AV} {L:List ab} {fr A:Tr AV},lV n ps args fr=some A→dC r n fr σ→av r args=some L→L.length=ps.length∧dC r n A ((ps.zip L).foldl (fun s p=>aI s p.1 p.2) σ)
 | [],[],L,fr,A,hs,hf,hd=>by
   simp only [lV,aY] at hs;subst hs;rw [jc hd]; exact ⟨rfl,hf⟩
 | [],_::_,_,_,_,hs,_,_=>by simp [lV] at hs
 | _::_,[],_,_,_,hs,_,_=>by simp [lV] at hs
 | p::ps,v::vs,L,fr,A,hs,hf,hd=>by
   simp only [lV] at hs;split at hs
   · rename_i U E;obtain ⟨u,us,rfl,I,J⟩:=dv hd;have C:=nD E hf I;simp only [bV] at C;obtain ⟨M,O⟩:=zP hs C J;exact ⟨by simp [M],O⟩
   · cases hs
theorem Cz (N:Fm) (l:List (Tmp×ab)) (σ:Nat→ab):l.foldl (fun t p=>t.setIfInBounds p.1 p.2) (act N σ).tmps=(act N<|l.foldl (fun s p=>aI s p.1 p.2) σ).tmps:=wx N l σ
theorem Cy {A:Array ab} {N:Fm} (C:A.size=N.n):A=(act N fun i=>A.getD i undef).tmps:=by
 apply Array.ext_getElem?;intro i;rw [hH];by_cases hi:i < N.n
 · rw [if_pos hi,gU,mh ag]; rfl
 · rw [if_neg hi,Array.getElem?_eq_none ag]
theorem Dz {c:Bool} {p:Rs} {v:AV} {h:Hp} (A:cond c p .no= .rv v h):c=true∧p= .rv v h:=by
 cases c
 · cases A
 · exact ⟨U,A⟩
theorem JK (al:Good P G ih) {l:Nat} {args:List AV} {I:Hp} {v:AV} (A:o8 G ih l args h= .rv v I):sr P G l args h v I:=by
 unfold o8 at A;split at A
 · rename_i bm n fr ps aE body d aV;split at A
   · rename_i aD aY;split at A
     · rename_i aF ak aK;have s1:=al<|.cd (some l) n aE aD [] h;rw [aK] at s1;obtain ⟨a5,s1⟩:=s1;split at A
       · rename_i ax m1 aC a6 aA aB d1 am;replace A:=Dz A; obtain ⟨E,A⟩:=A;simp only [aU] at E;split at A
         · rename_i e bh J aL;have s2:=al<|.cd (some l) n body aF [] ⟨ak.t.set l (.loop .busy ax m1 aC a6 aA aB d1),ak.nx⟩;rw [aL] at s2;obtain ⟨aw,s2⟩:=s2;simp only at aw;split at A
           · rename_i bn av aj ay ae ah d2 an;have key:∀ (jump:Option bG) (st:LoopState),jump=xX e→st=(if jump.isNone then .ready else .done)→v= .bool jump.isNone→I=⟨J.t.set l (.loop st jump av aj ay ae ah d2),J.nx⟩→sr P G l args h v I:=by
              intro jump st aa bu a4 aT;subst a4 aT;refine ⟨bX a5 aw,fun T r w L q hT hr aM ac=> ?_⟩;simp only at hT;obtain ⟨q',fn,C,bq,ap,hw,bi,a0,aQ⟩:=hr.loop aV;rw [ac] at ap; cases ap;have aZ:=zP (σ:=fun i=>C.getD i undef) aY (fun i hi=>by
               show den r (cC fr i)=some (C.getD i undef);rw [aQ i hi,gU,mh ag]; rfl) aM
              obtain ⟨hlen,aO⟩:=aZ;have aX:=run_yield (P:=P) (args:=L.toArray) hw<|by simpa using hlen
              refine ⟨_,_,_,_,aX,roundIn_of_wpIn (F:=eC) trivial ?_⟩;have a3:((ps.toArray.zip L.toArray).foldl (fun tmps (p:Tmp×ab)=>tmps.setIfInBounds p.1 p.2) C)=(act ⟨n,[],[],some q.ao⟩<|(ps.zip L).foldl (fun s p=>aI s p.1 p.2) fun i=>C.getD i undef).tmps:=by
               rw [← AX,Array.toList_zip];simp only [];rw [← Cz ⟨n,[],[],some q.ao⟩];rw [← Cy (N:=⟨n,[],[],some q.ao⟩) a0]
              have ai:({tmps:=((ps.toArray.zip L.toArray).foldl (fun tmps (p:Tmp×ab)=>tmps.setIfInBounds p.1 p.2) C),defers:= []} :Act)=act ⟨n,[],[],some q.ao⟩ ((ps.zip L).foldl (fun s p=>aI s p.1 p.2) fun i=>C.getD i undef):=by rw [a3]; rfl
              simp only at ai ⊢;rw [ai];refine s1 T r w _ [] (some q.ao) _ ag hr aO trivial ⟨q,ac,U⟩ fun a7 bx bc ad O aP aN=> ?_;have aJ:ad= []:=by cases ad; rfl; exact aN.elim
              subst aJ;obtain ⟨bo,bf,bv,br,M,ar,aG,a1,aR⟩:=O.hr.loop am;have :=O.le _ _ ac;rw [M] at this; cases this;have az:=O.hr.uF (st':= .busy) (pe':=ax) am E.1 E.2 M ar aG a1 aR;refine ⟨_,run_beginRound ar U,?_⟩;refine s2 T a7 _ bc [] (some q.ao) _ ag az.hr aP trivial ⟨q,M,U⟩ fun a8 bb bz bd V bl bj=> ?_;obtain ⟨bp,bg,bw,bt,aq,au,aH,a2,aS⟩:=V.hr.loop an;have :=V.le _ _ M;rw [aq] at this; cases this;have a9:=V.hr.uF (st':=st) (pe':=jump) an E.1 E.2 aq au aH a2 aS;have Z:=run_endRound (P:=P) jump au;simp only at Z;rw [← bu] at Z;have ba:=St.trans (St.trans (St.trans O az) V) a9;have fin:∃ v w',(Instr.endRound q.ao jump).run P bb= .ok v w'∧∃ u r',(Ending.returned v)= .returned u∧den r' (.bool jump.isNone)=some u∧St P G T r h w r' ⟨J.t.set l (.loop st jump av aj ay ae ah d2),J.nx⟩ w':=
               ⟨_,_,Z,_,a8,rfl,rfl,ba⟩
              cases e with
              | bE=>subst aa; exact fin
              | ret=>subst aa; exact fin
              | ext i=>subst aa; exact fin
             split at A
             · cases A;exact key none .ready U U U U
             · rename_i aW;cases A;cases e with
               | bE=>exact absurd rfl aW
               | ret=>exact key (some .ret) .done rfl rfl rfl rfl
               | ext i=>exact key (some<|.exit i) .done rfl rfl rfl rfl
           · cases A
         · cases A
       · cases A
     · cases A
   · cases A
 · cases A
end
end Go.Hb
namespace Go.Hb
section
variable {P:ak} {G:Nat} {X:Xt} {ih:Tk→Rs} {n:Nat} {r:Rn} {T:Nat} {h:Hp} {w:ah}
theorem Dy {c:Bool} {p:Rs} {e:EX} {fr:Tr AV} {D:List AD} {h:Hp} (A:cond c p .no= .cd e fr D h):c=true∧p= .cd e fr D h:=by
 cases c
 · cases A
 · exact ⟨U,A⟩
theorem xM (ak:Good P G ih) {rd:Option Nat} {fr L:Tr AV} {D J:List AD} {l:Nat} {A:Hp} {e:EX} (he:mV G ih rd n fr D l h= .cd e L J A):h.nx≤A.nx∧
 ∀ (T:Nat) (r:Rn) (w:ah) (σ:Nat→ab) (Dl:List Deferred) (rr:Option Nat) (Q:aK→Act→ah→Prop) (q:Loc) (u:ab),A.nx≤T→HR P G r T h w→r l=some q→dC r n fr σ→iG r D Dl→oW r rd rr→
   (∀ (r':Rn) (w':ah) (σ':Nat→ab) (I:List Deferred),St P G T r h w r' A w'→dC r' n L σ'→iG r' J I→Q (iH e) (act ⟨n,I,[],rr⟩ σ') w')→rangePost (fe rr) 0 P q.ao Q (act ⟨n,Dl,[],rr⟩ σ) (.returned u) w:=by
 unfold mV at he;split at he
 · rename_i st C m M ps aE body d ad;have key:cond (aG G l && au l bO) (match C with
    | none=>Rs.cd .bE fr D ⟨h.t.set l (.loop .exhausted C m M ps aE body d),h.nx⟩
    | some c=>ih (.cd rd n c fr D ⟨h.t.set l (.loop .exhausted C m M ps aE body d),h.nx⟩)) .no= .cd e L J A→st≠.busy→h.nx≤A.nx∧
   ∀ (T:Nat) (r:Rn) (w:ah) (σ:Nat→ab) (Dl:List Deferred) (rr:Option Nat) (Q:aK→Act→ah→Prop) (q:Loc) (u:ab),A.nx≤T→HR P G r T h w→r l=some q→dC r n fr σ→iG r D Dl→oW r rd rr→
     (∀ (r':Rn) (w':ah) (σ':Nat→ab) (I:List Deferred),St P G T r h w r' A w'→dC r' n L σ'→iG r' J I→Q (iH e) (act ⟨n,I,[],rr⟩ σ') w')→rangePost (fe rr) 0 P q.ao Q (act ⟨n,Dl,[],rr⟩ σ) (.returned u) w:=by
     intro he bu;obtain ⟨U,he⟩:=Dy he;simp only [aU] at U;have run:∀ (r:Rn) (w:ah) (T:Nat) (q:Loc),HR P G r T h w→r l=some q→∃ w',(Instr.endLoop q.ao).run P w= .ok C w'∧St P G T r h w r ⟨h.t.set l (.loop .exhausted C m M ps aE body d),h.nx⟩ w':=by
      intro r w T q hr E;obtain ⟨q',fn,aA,az,ae,hw,aj,aq,an⟩:=hr.loop ad;rw [E] at ae; cases ae;exact ⟨_,run_endLoop (P:=P) hw bu,hr.uF (st':= .exhausted) (pe':=C) ad U.1 U.2 E hw aj aq an⟩
     cases C with
     | none=>
       cases he;refine ⟨aO _,fun T r w σ Dl rr Q q u hT hr E Z V ag aa=> ?_⟩;obtain ⟨w',ac,O⟩:=run r w T q hr E;exact ⟨none,w',ac,aa r w' σ Dl O Z V⟩
     | some c=>
       simp only at he;have s1:=ak<|.cd rd n c fr D ⟨h.t.set l (.loop .exhausted (some c) m M ps aE body d),h.nx⟩;rw [he] at s1;obtain ⟨ar,s1⟩:=s1;refine ⟨ar,fun T r w σ Dl rr Q q u hT hr E Z V ag aa=> ?_⟩;obtain ⟨w',ac,O⟩:=run r w T q hr E;exact ⟨some c,w',ac,s1 T r w' σ Dl rr Q hT O.hr Z V ag fun av ax ay ai aw am al=>aa av ax ay ai (O.trans aw) am al⟩
   split at he
   · cases he
   · rename_i ap;exact key he ap
 · cases he
theorem Hc (ac:Good P G ih) (aM:e7 P) (aN:∀ f args h v ab,ih (.cl f args h)= .rv v ab→∃ fn c,P.funcs[f]? =some fn∧fn.body=some c) {rd:Option Nat} {g:az} {ps:List Nat} {aE body:bG} {fr aK:Tr AV} {D aJ:List AD} {ab:Hp} {e:EX} (he:nw ih G rd n g ps aE body fr D h= .cd e aK aJ ab):
 cQ P G rd n (fun rr Q a w=>(Code.rangeFunc g ⟨ps⟩ aE body).wpIn (fe rr) 0 P Q a w) fr D h e aK aJ ab:=by
 unfold nw at he;split at he
 · rename_i f a c aO;split at he
   · split at he
     · rename_i aL aP;split at he
       · rename_i ak V;split at he
         · rename_i v aW O;have s1:=ac<|.cl f (a++(.fu aL.nx::c)) ak;rw [O] at s1;obtain ⟨m1,s1⟩:=s1;obtain ⟨a6,s2⟩:=xM ac he;have bd:=jl aP;have a5:=jl V;obtain ⟨aj,ai,ax,an⟩:=aN _ _ _ _ _ O;have ap:=aM f aj ai ax an;refine ⟨ag,fun T r w σ Dl rr Q hT hr L ar ad ay=> ?_⟩;have a0:rr=none:=by
            cases rr with
            | none=>rfl
            | some k=>exact ad.elim
           subst a0;refine wpIn_rangeFunc ?_;intro fn _;have J:=oQ (N:=⟨n,Dl,[],none⟩) hr.eF L aO;obtain ⟨A,c',ha,aq,J⟩:=kA J;obtain ⟨bj,aQ,aC⟩:=hr.cj aP ag 0 (w':=w.alloc<|.deferred<|some []) rfl rfl rfl fun r' _ _=>rfl;have a1:(w.alloc<|.deferred<|some []).heap.size=w.heap.size+1:=World.size_alloc _ _;obtain ⟨aa,M,E⟩:=aC.hr.cj V ag 0 (w':=(w.alloc<|.deferred<|some []).alloc<|.loop {state:= .ready,pending:=none,fn:=fn,tmps:=(act ⟨n,Dl,[],none⟩ σ).tmps,params:=⟨ps⟩,assign:=aE,body:=body,defers:=w.heap.size}) rfl rfl rfl fun r' hle _=>by
            refine ⟨fn,(act ⟨n,Dl,[],none⟩ σ).tmps,w.heap.size,U,⟨_,hle _ _ aQ,U⟩,by simp [act],fun i hi=> ?_⟩;rw [hH,if_pos hi];exact jO hle<|jO aC.le<|L i hi
           have aD:=aC.trans E;rw [a1] at M;have al:=eu (gd aD.le ha)<|dh (show den aa (.fu aL.nx)=some (.func (.yield<|w.heap.size+1) #[] #[]) from by simp only [den,M])<|gd aD.le aq;have aA:=s1 T aa _ _ ag E.hr al;refine ⟨w.heap.size+1,[{target:= .collected w.heap.size,args:= #[]}],((w.alloc<|.deferred<|some []).alloc<|.loop {state:= .ready,pending:=none,fn:=fn,tmps:=(act ⟨n,Dl,[],none⟩ σ).tmps,params:=⟨ps⟩,assign:=aE,body:=body,defers:=w.heap.size}),{target:= .fn (.func f) c'.toArray,args:=A.toArray++ #[.func (.yield<|w.heap.size+1) #[] #[]]},((w.alloc<|.deferred<|some []).alloc<|.loop {state:= .ready,pending:=none,fn:=fn,tmps:=(act ⟨n,Dl,[],none⟩ σ).tmps,params:=⟨ps⟩,assign:=aE,body:=body,defers:=w.heap.size}),f,(A++(.func (.yield<|w.heap.size+1) #[] #[]::c')).toArray,_,?_,?_,fun _ _=>trivial,?_,fun h0=>(by cases h0),callsIn_wide.2<|gy aA ?_⟩
           · exact run_enterLoop_outer _ _ _ _ _
           · have av:(act ⟨n,Dl,[],none⟩ σ).eval g= .func (.func f) A.toArray c'.toArray:=by rw [cK]; exact J
             simp only [resolve,av];simp [go_sem]
           · have am:A.toArray++ #[.func (.yield<|w.heap.size+1) #[] #[]]++c'.toArray=(A++(.func (.yield<|w.heap.size+1) #[] #[]::c')).toArray:=by simp
             have :=ap (A++(.func (.yield<|w.heap.size+1) #[] #[]::c')).toArray<|(w.alloc<|.deferred<|some []).alloc<|.loop {state:= .ready,pending:=none,fn:=fn,tmps:=(act ⟨n,Dl,[],none⟩ σ).tmps,params:=⟨ps⟩,assign:=aE,body:=body,defers:=w.heap.size};simp only [invoke,am];exact this
           · rintro aU aG ⟨u,rfl,ae,_,I⟩;have ju:=aD.trans I;have hm:ae h.nx=some ⟨w.heap.size,0,0⟩:=I.le _ _<|E.le _ _ aQ;exact s2 T ae aG σ ({target:= .collected w.heap.size,args:= #[]} ::Dl) none Q ⟨w.heap.size+1,0,0⟩ u hT I.hr (I.le _ _ M) (L.le ju.le) ⟨⟨_,hm,U⟩,ly ju.le ar⟩ trivial fun aB aH aI ah aF aw au=>ay aB aH aI ah (ju.trans aF) aw au
         · cases he
       · cases he
     · cases he
   · rename_i bf;split at he
     · rename_i bl bg m0 ba bh a7 a8 d aY;split at he
       · rename_i ak V;split at he
         · rename_i v aW O;have s1:=ac<|.cl f (a++(.fu h.nx::c)) ak;rw [O] at s1;obtain ⟨m1,s1⟩:=s1;obtain ⟨a6,s2⟩:=xM ac he;have a5:=jl V;obtain ⟨aj,ai,ax,an⟩:=aN _ _ _ _ _ O;have ap:=aM f aj ai ax an;refine ⟨ag,fun T r w σ Dl rr Q hT hr L ar ad ay=> ?_⟩;obtain ⟨aT,rfl⟩:∃ aT,rr=some aT:=by
            cases rr with
            | none=>exact ad.elim
            | some k=>exact ⟨k,rfl⟩
           obtain ⟨C,aR,aZ⟩:=ad;obtain ⟨bi,a9,bm,Z,aS,a2,aX,bc,bb⟩:=hr.loop aY;rw [aR] at aS; cases aS;subst aZ;refine wpIn_rangeFunc ?_;intro fn _;have J:=oQ (N:=⟨n,Dl,[],some C.ao⟩) hr.eF L aO;obtain ⟨A,c',ha,aq,J⟩:=kA J;obtain ⟨aa,M,E⟩:=hr.cj V ag 0 (w':=w.alloc<|.loop {state:= .ready,pending:=none,fn:=fn,tmps:=(act ⟨n,Dl,[],some C.ao⟩ σ).tmps,params:=⟨ps⟩,assign:=aE,body:=body,defers:=Z}) rfl rfl rfl fun r' hle _=>by
            obtain ⟨x,a3,a4⟩:=aX;refine ⟨fn,(act ⟨n,Dl,[],some C.ao⟩ σ).tmps,Z,U,⟨x,hle _ _ a3,a4⟩,by simp [act],fun i hi=> ?_⟩;rw [hH,if_pos hi];exact jO hle<|L i hi
           have al:=eu (gd E.le ha)<|dh (show den aa (.fu h.nx)=some (.func (.yield w.heap.size) #[] #[]) from by simp only [den,M])<|gd E.le aq;have aA:=s1 T aa _ _ ag E.hr al;refine ⟨w.heap.size,[],(w.alloc<|.loop {state:= .ready,pending:=none,fn:=fn,tmps:=(act ⟨n,Dl,[],some C.ao⟩ σ).tmps,params:=⟨ps⟩,assign:=aE,body:=body,defers:=Z}),{target:= .fn (.func f) c'.toArray,args:=A.toArray++ #[.func (.yield w.heap.size) #[] #[]]},(w.alloc<|.loop {state:= .ready,pending:=none,fn:=fn,tmps:=(act ⟨n,Dl,[],some C.ao⟩ σ).tmps,params:=⟨ps⟩,assign:=aE,body:=body,defers:=Z}),f,(A++(.func (.yield w.heap.size) #[] #[]::c')).toArray,_,?_,?_,fun aV _=>je _ aV,?_,fun h0=>(by cases h0),qf<|gy aA ?_⟩
           · exact run_enterLoop_inner a2 _ _ _ _ _
           · have av:(act ⟨n,Dl,[],some C.ao⟩ σ).eval g= .func (.func f) A.toArray c'.toArray:=by rw [cK]; exact J
             simp only [resolve,av];simp [go_sem]
           · have am:A.toArray++ #[.func (.yield w.heap.size) #[] #[]]++c'.toArray=(A++(.func (.yield w.heap.size) #[] #[]::c')).toArray:=by simp
             have :=ap (A++(.func (.yield w.heap.size) #[] #[]::c')).toArray<|w.alloc<|.loop {state:= .ready,pending:=none,fn:=fn,tmps:=(act ⟨n,Dl,[],some C.ao⟩ σ).tmps,params:=⟨ps⟩,assign:=aE,body:=body,defers:=Z};simp only [invoke,am];exact this
           · rintro aU aG ⟨u,rfl,ae,_,I⟩;have ju:=E.trans I;exact s2 T ae aG σ _ (some C.ao) Q ⟨w.heap.size,0,0⟩ u hT I.hr (I.le _ _ M) (L.le ju.le) (ly ju.le ar) ⟨C,ju.le _ _ aR,U⟩ fun aB aH aI ah aF aw au=>ay aB aH aI ah (ju.trans aF) aw au
         · cases he
       · cases he
     · cases he
 · cases he
theorem uw {N:Fm} {σ:Nat→ab} (hr:HR P G r T h w) {fr:Tr AV} (J:dC r N.n fr σ):∀ {l:List ResultVar} {vs:List AV},gP P N.n fr h l=some vs→∃ us,av r vs=some us∧(l.mapM<|lT (act N σ).tmps).run P w= .ok us w
 | [],vs,A=>by
   simp only [gP,aY] at A;subst A;exact ⟨[],by simp [av],by simp⟩
 | .tmp t::l,vs,A=>by
   simp only [gP] at A;split at A
   · rename_i ae E;replace A:=aF A; obtain ⟨C,A⟩:=A;cases A;obtain ⟨us,L,M⟩:=uw hr J E;have O:=J t<|bQ.1 C;have V:=kP (P:=P) (w:=w)<|Hn (P:=P) (N:=N) (σ:=σ) (w:=w) (t:=t);have I:ev N σ (.tmp t)=σ t:=by simp only [ev,C,cond_true]
     rw [I] at V;exact ⟨σ t::us,dh O L,by simp [BR,V,M]⟩
   · cases A
 | .cell a t::l,vs,A=>by
   simp only [gP] at A;split at A
   · rename_i ae E;replace A:=aF A; obtain ⟨C,A⟩:=A;split at A
     · rename_i v jT;cases A;obtain ⟨us,L,M⟩:=uw hr J E;have O:=J a<|bQ.1 C;have I:ev N σ (.tmp a)=σ a:=by simp only [ev,C,cond_true]
       obtain ⟨b,off,u,Z,hu,aa⟩:=yG hr jT O;have ac:mL P N σ w (.cell a t) u:=by
        rcases aa with ⟨ha,U⟩ | ⟨m,cs,ha,rfl,E,U⟩
        · exact iq (I.trans Z) ha U
        · exact qY (I.trans Z) ha E U
       have ad:=kP ac;exact ⟨u::us,dh hu L,by simp [BR,ad,M]⟩
     · cases A
   · cases A
theorem uz {N:Fm} {σ:Nat→ab} {fn:Func} (hr:HR P G r T h w) {fr:Tr AV} (J:dC r N.n fr σ) {vs:List AV} (O:gP P N.n fr h fn.results.toList=some vs):∃ u,den r (lS vs)=some u∧(results fn (act N σ).tmps).run P w= .ok u w:=by
 obtain ⟨us,A,I⟩:=uw hr J O;have V:(results fn (act N σ).tmps)=(do let vs ← fn.results.mapM (lT (act N σ).tmps); pure (if h:vs.size=1 then vs[0] else .tuple vs)):=rfl;have E:=cB A;have C:(fn.results.mapM<|lT (act N σ).tmps).run P w= .ok us.toArray w:=by
  have :fn.results=fn.results.toList.toArray:=by simp
  rw [this,List.mapM_toArray];simp [I]
 rw [V];unfold lS;split
 · obtain ⟨u,rfl⟩:=pC.1 (show us.length=1 from E);exact ⟨u,dX A,by simp [C]⟩
 · rename_i M;refine ⟨.tuple us.toArray,by simp only [den,A],?_⟩;have L:us.length≠1:=fun e=>by
    rw [E] at e;obtain ⟨v,rfl⟩:=pC.1 e;exact M v U
   simp [C,L]
end
end Go.Hb
namespace Go.Hb
section
variable {P:ak} {G:Nat} {X:Xt} {ih:Tk→Rs} {n:Nat} {r:Rn} {T:Nat} {h:Hp} {w:ah}
theorem yh:∀ (l:List AV) (k:Nat) (fr:Tr AV) (i:Nat),k+l.length≤1048574→(gM k l fr).get i=if k≤i∧i < k+l.length then l[i - k]? else fr.get i
 | [],k,fr,i,_=>by rw [gM,if_neg (fun h=>by have :=h.1; have :=h.2; simp only [nY] at this; omega)]
 | v::l,k,fr,i,h=>by
   simp only [bZ] at h;rw [gM,yh l (k+1) _ i ag,Tr.kC _ _ _ _ (bQ.2 (show k < 1048574 by omega))];by_cases C:k+1≤i∧i < k+1 +l.length
   · rw [if_pos C,if_pos (by simp only [bZ]; omega)];obtain ⟨m,hm⟩:∃ m,i - k=m+1:=⟨i - k - 1,ag⟩
     rw [hm,fU,show i - (k+1)=m from by omega]
   · rw [if_neg C];by_cases A:i=k
     · rw [if_pos A,if_pos (by simp only [bZ]; omega),A]; simp
     · rw [if_neg A,if_neg (by simp only [bZ]; omega)]
theorem tk {args:List AV} {L:List ab} (C:av r args=some L) (hb:aG args.length n=true) (hn:au n bO=true):dC r n (gM 0 args .nil) (cP L):=by
 have hb:=bp hb;have hn:n < 1048574:=bQ.1 hn;have J:=cB C;intro i hi;simp only [cC,yh args 0 .nil i ag,cP,n6,true_and,bS,Nat.sub_zero];by_cases A:i < args.length
 · rw [if_pos A,bW A];obtain ⟨u,E,I⟩:=mP C<|bW A;simp only [I,cH,E,gZ]
 · rw [if_neg A,Tr.get_nil];simp only [gI,cH];rw [mB ag]; rfl
theorem xe {f:FuncId} {args:Array ab} {u:FrameMode} {R A:Ending→FrameMode→ah→Prop} (C:CallsDIn eC 0 P f args u w R) (hr:∀ e u w,R e u w→A e u w):CallsDIn eC 0 P f args u w A:=
 ⟨C.1,fun c cs hu E=>let ⟨e,u',w',fr,h1,h2⟩:=C.2 c cs hu E; ⟨e,u',w',fr,hr _ _ _ h1,h2⟩⟩
theorem Da {f:FuncId} {fn:Func} {id N d:Nat} {ty:aj} {pos :String} {af:Array bB} {rest:List aq} {y:bG} {args:List ab} {R:ah→Prop}
 (I:P.funcs[f]? =some fn) (hb:fn.body=some (.seq (.region id ⟨⟨some d,.call ⟨.builtin .recover,⟨[]⟩,⟨[]⟩⟩,ty,pos,af,none⟩::rest⟩ false) y)) (ad:fn.ntmps=N) (hn:aG args.length N=true)
 (h:wpListIn (fe none) 0 P (⟨some d,.call ⟨.builtin .recover,⟨[]⟩,⟨[]⟩⟩,ty,pos,af,none⟩::rest).toArray (Exit.then (y.wpIn (fe none) 0 P fun e a w=>(e= .normal∨e= .ret)∧a.defers= []∧∃ v,(results fn a.tmps).run P w= .ok v w∧R w) fun _ _ _=>False) rest (act ⟨N,[],[],none⟩<|aI (cP args) d .nilIface) w):
 CallsDIn eC 0 P f args.toArray .returning w fun e au w'=> ∃ v,e= .returned v∧au= .returning∧R w':=by
 subst ad;refine ⟨trivial,fun A cs hu _=> ?_⟩
 let b:Frame:= {(default:Frame) with fn:=f,kind:= .deferred}
 have ae:Frame.enter P f args.toArray .deferred=b.at (act ⟨fn.ntmps,[],[],none⟩<|cP args) [.code (.seq (.region id ⟨⟨some d,.call ⟨.builtin .recover,⟨[]⟩,⟨[]⟩⟩,ty,pos,af,none⟩::rest⟩ false) y)]:=by
  rw [← lW fn args [] hn];simp [Frame.enter,Frame.at,I,hb,b]
 have ap:kj (⟨⟨some d,.call ⟨.builtin .recover,⟨[]⟩,⟨[]⟩⟩,ty,pos,af,none⟩::rest⟩:Array aq).size=0::(kY 1 rest.length):=by
  rw [dP,bZ,List.range_eq_range',List.range'_succ]
 have ak:=wpOpsIn_eq_wpListIn (F:=fe none) (n:=0) (P:=P) (ops:=(⟨some d,.call ⟨.builtin .recover,⟨[]⟩,⟨[]⟩⟩,ty,pos,af,none⟩::rest).toArray) (Q:=Exit.then (y.wpIn (fe none) 0 P fun e a w=>(e= .normal∨e= .ret)∧a.defers= []∧∃ v,(results fn a.tmps).run P w= .ok v w∧R w) fun _ _ _=>False) rest 1 fun j=>by simp [B9]
 rw [← ak] at h;obtain ⟨e,av,w',V,C⟩:=wp_opsIn _ _ _ h b [.code y] (A::cs) rfl trivial (room_wide _);have C:=(arrivesIn_iff (b:=b) (fun _ _=>stepsIn_wide) rfl).1 C;have an:step P (lone (b.at (act ⟨fn.ntmps,[],[],none⟩<|cP args) (.inRegion (⟨some d,.call ⟨.builtin .recover,⟨[]⟩,⟨[]⟩⟩,ty,pos,af,none⟩::rest).toArray (0::kY 1 rest.length)::[.code y])) (A::cs) w)=
  .next (lone (b.at (act ⟨fn.ntmps,[],[],none⟩<|aI (cP args) d .nilIface) (.inRegion (⟨some d,.call ⟨.builtin .recover,⟨[]⟩,⟨[]⟩⟩,ty,pos,af,none⟩::rest).toArray (kY 1 rest.length)::[.code y])) (A::cs) w):=by
  have ai:=stepG_op (P:=P) (b:=b) (a:=act ⟨fn.ntmps,[],[],none⟩<|cP args) (k:= [.code y]) (cs:=A::cs) (w:=w) (ops:=(⟨some d,.call ⟨.builtin .recover,⟨[]⟩,⟨[]⟩⟩,ty,pos,af,none⟩::rest).toArray) (i:=0) (rest:=kY 1 rest.length) (o:=⟨some d,.call ⟨.builtin .recover,⟨[]⟩,⟨[]⟩⟩,ty,pos,af,none⟩) rfl (eB _ rfl _);have ar:(execOp (act ⟨fn.ntmps,[],[],none⟩<|cP args).eval ⟨some d,.call ⟨.builtin .recover,⟨[]⟩,⟨[]⟩⟩,ty,pos,af,none⟩).run P w= .ok .recover w:=by
   rw [cK];simp [execOp,resolve,invoke,builtin]
  have aa:=tryRecover_deferred (fr:=b.at (act ⟨fn.ntmps,[],[],none⟩<|cP args) (.inRegion (⟨some d,.call ⟨.builtin .recover,⟨[]⟩,⟨[]⟩⟩,ty,pos,af,none⟩::rest).toArray (0::kY 1 rest.length)::[.code y])) rfl (A::cs);have al:recoverD (A::cs)=none:=by simp [recoverD,hu]
  have ag:(b.at (act ⟨fn.ntmps,[],[],none⟩<|cP args) (.inRegion (⟨some d,.call ⟨.builtin .recover,⟨[]⟩,⟨[]⟩⟩,ty,pos,af,none⟩::rest).toArray (0::kY 1 rest.length)::[.code y])).finish .nilIface=b.at (act ⟨fn.ntmps,[],[],none⟩<|aI (cP args) d .nilIface) (.inRegion (⟨some d,.call ⟨.builtin .recover,⟨[]⟩,⟨[]⟩⟩,ty,pos,af,none⟩::rest).toArray (kY 1 rest.length)::[.code y]):=by
   rw [Frame.finish_at];have :=dV ⟨fn.ntmps,[],[],none⟩ (cP args) (some d) .nilIface;simp only [bV] at this;rw [← this]; rfl
  refine step_lone_go ?_;rw [ai,← ag];simp only [Frame.at] at aa ⊢;simp [stepG.apply,ar,aa,al]
 have L:Steps P (lone (Frame.enter P f args.toArray .deferred) (A::cs) w) (lone (b.at (act ⟨fn.ntmps,[],[],none⟩<|aI (cP args) d .nilIface) (.inRegion (⟨some d,.call ⟨.builtin .recover,⟨[]⟩,⟨[]⟩⟩,ty,pos,af,none⟩::rest).toArray (kY 1 rest.length)::[.code y])) (A::cs) w):=by
  rw [ae];refine .head step_seq<|.head step_region ?_;rw [ap];exact .one an
 cases e with
 | normal=>
   obtain ⟨aw,a2,ac,am,E⟩:=V b [] (A::cs) rfl trivial (room_wide _);have E:=(arrivesIn_iff (b:=b) (fun _ _=>stepsIn_wide) rfl).1 E;obtain ⟨kE,M,v,Z,J⟩:=am;have O:({A with mode:= .returning} :Frame)=A:=by rw [← hu]
   rcases kE with rfl | rfl
   · refine ⟨.returned v,.returning,ac,{b.at a2 [] with mode:= .returning},⟨v,U,U,J⟩,?_,U,U,U,M,fn,I,Z⟩;rw [O];exact stepsIn_wide.2<|Steps.trans L<|Steps.trans C<|Steps.trans E<|.one step_end
   · obtain ⟨todo,ao⟩:=E;refine ⟨.returned v,.returning,ac,{b.at a2 todo with mode:= .returning},⟨v,U,U,J⟩,?_,U,U,U,M,fn,I,Z⟩;rw [O];exact stepsIn_wide.2<|Steps.trans L<|Steps.trans C ao
 | _=>exact V.elim
theorem tS (O:Good P G ih) (M:e7 P) (Z:∀ f args h v C,ih (.df f args h)= .rv v C→∃ fn c,P.funcs[f]? =some fn∧fn.body=some c):∀ {D:List AD} {h C:Hp},iM G ih D h=some C→h.nx≤C.nx∧∀ (T:Nat) (r:Rn) (w:ah) (Dl:List Deferred) (fn:Func) (tmps:Array ab) (R:Ending→ah→Prop),
 C.nx≤T→HR P G r T h w→iG r D Dl→(∀ (r':Rn) (w':ah),St P G T r h w r' C w'→∃ v,(results fn tmps).run P w'= .ok v w'∧R (.returned v) w')→LeavesInM eC 0 P fn tmps R Dl .returning w
 | [],h,C,he=>by
   simp only [iM,aY] at he;subst he;refine ⟨aO _,fun T r w Dl fn tmps R hT hr A E=> ?_⟩;have :Dl= []:=by cases Dl; rfl; exact A.elim
   subst this;exact E r w<|St.refl hr
 | .mark d::D,h,C,he=>by
   simp only [iM] at he;split at he
   · rename_i ac;replace he:=aF he; obtain ⟨V,he⟩:=he;simp only [aU] at V;obtain ⟨J,s1⟩:=tS O M Z he;refine ⟨J,fun T r w Dl fn tmps R hT hr A E=> ?_⟩;cases Dl with
     | nil=>exact A.elim
     | cons x Dl=>
       obtain ⟨⟨q,ad,rfl⟩,A⟩:=A;obtain ⟨q',ae,I⟩:=hr.live d _ ac;rw [ad] at ae; cases ae;have I:w.heap[q.ao]? =some (.deferred<|some []):=I;have an:=(bI.1 I).1;have st:St P G T r h w r ⟨h.t.set d (.jP false),h.nx⟩ (w.putObj q.ao<|.deferred none):=
        hr.j5 ac V.2 ad (bp V.1) (by rw [px an]; rfl) ⟨rfl,rfl,by simp [Bw],fun k _ E=>kW E⟩
       exact ⟨Be,.inl ⟨q.ao,_,U,run_takeDeferred I,s1 T r _ Dl fn tmps R hT st.hr A fun r' w' st'=>E r' w'<|st.trans st'⟩⟩
   · cases he
 | .fn f args::D,h,C,he=>by
   simp only [iM] at he;split at he
   · rename_i v aw aa;have L:=O<|.df f args h;rw [aa] at L;obtain ⟨ap,L⟩:=L;obtain ⟨ai,ag,am,aj⟩:=Z _ _ _ _ _ aa;have ak:=M f ai ag am aj;obtain ⟨J,s1⟩:=tS O M Z he;refine ⟨bX ap J,fun T r w Dl fn tmps R hT hr A E=> ?_⟩;cases Dl with
     | nil=>exact A.elim
     | cons x Dl=>
       obtain ⟨⟨a,cap,av,ha,rfl,al⟩,A⟩:=A;refine ⟨Be,.inr ⟨fun h0=>(by cases h0),.func f,cap,f,a.toArray,U,?_,fun _ _=>trivial,xe (L T r w a (bX J hT) hr ha) ?_⟩⟩
       · simp only [invoke,al];exact ak a.toArray w
       · rintro e ax w' ⟨v,rfl,rfl,r',st⟩;exact s1 T r' w' Dl fn tmps R hT st.hr (ly st.le A) fun aq au ar=>E aq au<|st.trans ar
   · cases he
def sf (P:ak) (G:Nat) (X:Xt) (ih:Tk→Rs):Prop := ∀ (rd:Option Nat) (n id:Nat) (ops:List aq) (fr:Tr AV) (D:List AD) (h:Hp),match p6 P G X ih n ops fr D h with
 | .cd e C A E=>cQ P G rd n (fun rr Q a w=>(A6 id ⟨ops⟩ true).wpIn (fe rr) 0 P Q a w) fr D h e C A E
 | .no=>True
 | _=>False
theorem cQ.bind {rd:Option Nat} {W W' I:Option Nat→(aK→Act→ah→Prop)→Act→ah→Prop} {fr M O:Tr AV} {D C E:List AD} {h V Z:Hp} {J L:EX} (s1:cQ P G rd n W fr D h J M C V) (s2:cQ P G rd n W' M C V L O E Z)
 (ae:∀ rr Q a w,W rr (fun e a w=>e=iH J∧W' rr Q a w) a w→I rr Q a w):cQ P G rd n I fr D h L O E Z:=by
 obtain ⟨ao,s1⟩:=s1;obtain ⟨ab,s2⟩:=s2;refine ⟨bX ao ab,fun T r w σ Dl rr Q hT hr ak ag aa an=>ae rr Q _ w ?_⟩;exact s1 T r w σ Dl rr _ (bX ab hT) hr ak ag aa fun ap au aw ac A al ai=>⟨U,s2 T ap au aw ac rr Q hT A.hr al ai (zx A.le aa) fun aq av ax ad ar am aj=>an aq av ax ad (A.trans ar) am aj⟩
theorem cQ.map {rd:Option Nat} {W W':Option Nat→(aK→Act→ah→Prop)→Act→ah→Prop} {fr I:Tr AV} {D A:List AD} {h J:Hp} {C E:EX} (s1:cQ P G rd n W fr D h C I A J)
 (M:∀ rr Q a w,W rr (fun e a w=>e=iH C∧Q (iH E) a w) a w→W' rr Q a w):cQ P G rd n W' fr D h E I A J:=by
 obtain ⟨ad,s1⟩:=s1;exact ⟨ad,fun T r w σ Dl rr Q hT hr Z O ac ab=>M rr Q _ w<|s1 T r w σ Dl rr _ hT hr Z O ac fun ae ai aj L ag aa V=>⟨U,ab ae ai aj L ag aa V⟩⟩
theorem IA (Z:Good P G ih) (ag:e7 P) (aj:∀ f args h v ae,ih (.df f args h)= .rv v ae→∃ fn c,P.funcs[f]? =some fn∧fn.body=some c) (f:Nat) (args:List AV) (h:Hp):kq P G (.cl f args h) (eA P G X ih<|.cl f args h):=by
 show kq P G (.cl f args h) (match P.funcs[f]? with
  | some fn=>match fn.body with
    | some c=>cond (aG args.length fn.ntmps && au fn.ntmps bO) (match ih (.cd none fn.ntmps c (gM 0 args .nil) [] h) with
      | .cd (.ext _) _ _ _=> .no
      | .cd _ fr D h=>match iM G ih D h with
        | some h=>match gP P fn.ntmps fr h fn.results.toList with
          | some vs=> .rv (lS vs) h
          | none=> .no
        | none=> .no
      | _=> .no) .no
    | none=> .no
  | none=> .no)
 split
 · rename_i fn am;split
   · rename_i c ah;cases hc:(aG args.length fn.ntmps && au fn.ntmps bO)
     · trivial
     · simp only [cond_true];simp only [aU] at hc;have key:∀ (e:EX) (fr:Tr AV) (D:List AD) (C A:Hp) (vs:List AV),(e= .bE∨e= .ret)→ih (.cd none fn.ntmps c (gM 0 args .nil) [] h)= .cd e fr D C→iM G ih D C=some A→gP P fn.ntmps fr A fn.results.toList=some vs→kq P G (.cl f args h) (.rv (lS vs) A):=by
        intro e fr D C A vs ak M E I;have O:=Z<|.cd none fn.ntmps c (gM 0 args .nil) [] h;rw [M] at O;obtain ⟨ao,O⟩:=O;obtain ⟨ab,s1⟩:=tS Z ag aj E;refine ⟨bX ao ab,fun T r w L hT hr aa=> ?_⟩;have hlen:=cB aa;refine callsIn_wide.1<|callsIn_of_wp_marks (F:=eC) (n:=0) am ah trivial ?_;rw [lW fn L [] (by rw [hlen]; exact hc.1)];refine O T r w (cP L) [] none _ (bX ab hT) hr (tk aa hc.1 hc.2) trivial trivial fun ap ad ar J ac al ai=> ?_;have fin:LeavesInM eC 0 P fn (act ⟨fn.ntmps,J,[],none⟩ ar).tmps (fun e w'=> ∃ v,e= .returned v∧∃ r',den r' (lS vs)=some v∧St P G T r h w r' A w') J .returning ad:=by
         refine s1 T ap ad J fn _ _ hT ac.hr ai fun aq av V=> ?_;obtain ⟨u,hu,an⟩:=uz (N:=⟨fn.ntmps,J,[],none⟩) V.hr (al.le V.le) I;exact ⟨u,an,u,U,aq,hu,ac.trans V⟩
        rcases ak with rfl | rfl <;> exact fin
       cases M:ih (.cd none fn.ntmps c (gM 0 args .nil) [] h) with
       | no=>trivial
       | rv v C=>trivial
       | cd e fr D C=>
         cases e with
         | ext i=>trivial
         | bE=>
           simp only;cases E:iM G ih D C with
           | none=>trivial
           | some A=>
             simp only;cases I:gP P fn.ntmps fr A fn.results.toList with
             | none=>trivial
             | some vs=>exact key .bE fr D C A vs (.inl rfl) M E I
         | ret=>
           simp only;cases E:iM G ih D C with
           | none=>trivial
           | some A=>
             simp only;cases I:gP P fn.ntmps fr A fn.results.toList with
             | none=>trivial
             | some vs=>exact key .ret fr D C A vs (.inr rfl) M E I
   · trivial
 · trivial
end
end Go.Hb
namespace Go.Hb
section
variable {P:ak} {G:Nat} {X:Xt} {ih:Tk→Rs} {n:Nat} {r:Rn} {T:Nat} {h:Hp} {w:ah}
theorem IB (ac:Good P G ih) (ap:gH P G X) (ao:e7 P) (ar:∀ f args h v J,ih (.cl f args h)= .rv v J→∃ fn c,P.funcs[f]? =some fn∧fn.body=some c) (f:Nat) (args:List AV) (h:Hp):kq P G (.df f args h) (eA P G X ih<|.df f args h):=by
 cases hs:eA P G X ih (.df f args h) with
 | no=>trivial
 | cd e fr D Z=>
   exfalso;simp only [eA] at hs;split at hs;rename_i fn ah;split at hs;rename_i c ad;cases hc:(aG args.length fn.ntmps && au fn.ntmps bO);rw [hc] at hs; cases hs;rw [hc] at hs;simp only [cond_true] at hs;split at hs;cases hs;split at hs <;> cases hs;cases hs;cases hs;cases hs
 | rv v J=>
   simp only [eA] at hs;split at hs;rename_i fn ah;split at hs;rename_i c ad;cases hc:(aG args.length fn.ntmps && au fn.ntmps bO);rw [hc] at hs; cases hs;rw [hc] at hs;simp only [cond_true] at hs;simp only [aU] at hc;split at hs;cases hs;rename_i e aJ Z ai A;split at hs;rename_i vs aj;cases hs;split at A;rename_i id d ty pos af rest y;split at A;rename_i aH az;split at A;rename_i am aa ay;obtain ⟨aA,s1⟩:=oS ac ap ao ar ay;have s2:=ac<|.cd none fn.ntmps y am [] aa;rw [A] at s2;obtain ⟨O,s2⟩:=s2;refine ⟨bX aA O,fun T r w L hT hr I=> ?_⟩;have hlen:=cB I;refine Da (R:=fun w'=> ∃ r',St P G T r h w r' J w') ah ad U (by rw [hlen]; exact hc.1) ?_;have aw:=nD az (tk I hc.1 hc.2) (show den r .dE=some .nilIface from rfl);refine s1 T r w (aI (cP L) d .nilIface) [] none _ (bX O hT) hr aw trivial trivial fun aB aC aE al ak ax av=> ?_;refine s2 T aB aC aE al none _ hT ak.hr ax av trivial fun V aD aF E C ag ae=> ?_;have ab:E= []:=by cases E; rfl; exact ae.elim
   subst ab;obtain ⟨u,hu,M⟩:=uz (N:=⟨fn.ntmps,[],[],none⟩) C.hr ag aj;have he:iH e= .normal∨iH e= .ret:=by
    cases e with
    | bE=>exact .inl rfl
    | ret=>exact .inr rfl
    | ext i=>exact (ai i rfl).elim
   exact ⟨he,U,u,M,V,ak.trans C⟩;cases A;cases A;have s2:=ac<|.cd none fn.ntmps c (gM 0 args .nil) [] h;rw [A] at s2;obtain ⟨O,s2⟩:=s2;refine ⟨O,fun T r w L hT hr I=> ?_⟩;have hlen:=cB I;have aq:=callsDIn_of_wp (F:=eC) (n:=0) (u:= .returning) (w:=w) (args:=L.toArray) (R:=fun e w'=> ∃ v,e= .returned v∧∃ r',St P G T r h w r' J w') ah ad trivial (by
    rw [lW fn L [] (by rw [hlen]; exact hc.1)];refine s2 T r w (cP L) [] none _ hT hr (tk I hc.1 hc.2) trivial trivial fun V aD aF E C ag ae=> ?_;have ab:E= []:=by cases E; rfl; exact ae.elim
    subst ab;obtain ⟨u,hu,M⟩:=uz (N:=⟨fn.ntmps,[],[],none⟩) C.hr ag aj;cases e with
    | bE=>exact ⟨rfl,u,M,u,rfl,V,C⟩
    | ret=>exact ⟨rfl,u,M,u,rfl,V,C⟩
    | ext i=>exact (ai i rfl).elim)
   exact xe aq fun e aK w' ⟨Z,v,aa,an⟩=>⟨v,aa,Z,an⟩
   cases hs;cases hs;cases hs;cases hs
theorem vu {c:bG} {rr:Option Nat} {Q:aK→Act→ah→Prop} {a:Act} {w:ah} (Z:c.wpIn (fe rr) 0 P (Exit.then (rq P c rr Q) Q) a w):rq P c rr Q a w:=by
 intro b k cs J hb hr;obtain ⟨e,E,I,C,A⟩:=Z b (.inLoop c::k) cs J hb hr;cases e with
 | normal=>
   obtain ⟨O,L,ab,aa,V⟩:=C b k cs J hb hr;exact ⟨O,L,ab,aa,.of_steps (StepsIn.trans A<|.one (fenced_calm hb hr U) stepR_inLoop) V⟩
 | exit id=>exact ⟨.exit id,E,I,C,.pass (x:= .inLoop c) rfl (fun _ _=> .inl<|by simp) A⟩
 | goto l=>exact ⟨.goto l,E,I,C,.pass (x:= .inLoop c) rfl (fun _ _=> .inl<|by simp) A⟩
 | ret=>exact ⟨.ret,E,I,C,.pass (x:= .inLoop c) rfl (fun _ _=> .inl<|by simp) A⟩
 | panic M=>exact ⟨.panic M,E,I,C,.pass (x:= .inLoop c) rfl (fun _ _=> .inl<|by simp) A⟩
 | outgrown=>exact ⟨.outgrown,E,I,C,.pass (x:= .inLoop c) rfl (fun _ _=> .inl<|by simp) A⟩
theorem Jv {c:bG} {rr:Option Nat} {Q:aK→Act→ah→Prop} {a:Act} {w:ah} (h:rq P c rr Q a w):(Code.loop c).wpIn (fe rr) 0 P Q a w:=by
 intro b k cs I hb hr;obtain ⟨e,A,w',E,C⟩:=h b k cs I hb hr;exact ⟨e,A,w',E,.of_steps (.one (fenced_calm hb hr U) stepR_loop) C⟩
theorem Good.lx (C:Good P G ih) {rd:Option Nat} {c:bG} {fr:Tr AV} {D:List AD} {h A:Hp} {v:AV} (E:ih (.cd rd n c fr D h)= .rv v A):False:=by
 have :=C (.cd rd n c fr D h); rw [E] at this; exact this
theorem Good.yN (C:Good P G ih) {rd:Option Nat} {c:bG} {fr:Tr AV} {D:List AD} {h A:Hp} {v:AV} (E:ih (.lp rd n c fr D h)= .rv v A):False:=by
 have :=C (.lp rd n c fr D h); rw [E] at this; exact this
theorem IC (A:Good P G ih) (rd:Option Nat) (n:Nat) (c:bG) (fr:Tr AV) (D:List AD) (h:Hp):kq P G (.lp rd n c fr D h) (eA P G X ih<|.lp rd n c fr D h):=by
 simp only [eA];cases hi:ih (.cd rd n c fr D h) with
 | no=>trivial
 | rv v C=>exact (A.lx hi).elim
 | cd e I E C=>
   have s1:=A<|.cd rd n c fr D h;rw [hi] at s1;cases e with
   | bE=>
     simp only;have s2:=A<|.lp rd n c I E C;cases hj:ih (.lp rd n c I E C) with
     | no=>trivial
     | rv v J=>exact (A.yN hj).elim
     | cd M O L J=>
       rw [hj] at s2;exact cQ.bind s1 s2 fun rr Q a w hw=>vu (wpIn_mono hw fun e a w he=>by
        obtain ⟨rfl,he⟩:=he; exact he)
   | ret=>exact cQ.map s1 fun rr Q a w hw=>vu<|wpIn_mono hw fun e a w he=>by obtain ⟨rfl,he⟩:=he; exact he
   | ext i=>exact cQ.map s1 fun rr Q a w hw=>vu<|wpIn_mono hw fun e a w he=>by obtain ⟨rfl,he⟩:=he; exact he
theorem cQ.here {rd:Option Nat} {W:Option Nat→(aK→Act→ah→Prop)→Act→ah→Prop} {fr:Tr AV} {D:List AD} {h:Hp} {e:EX} (A:∀ rr Q a w,Q (iH e) a w→W rr Q a w):cQ P G rd n W fr D h e fr D h:=
 ⟨aO _,fun T r w σ Dl rr Q hT hr E C J I=>A rr Q _ w<|I r w σ Dl (St.refl hr) E C⟩
theorem qR {rd:Option Nat} {ops:List aq} :∀ {l:List aq} {fr:Tr AV} {D:List AD} {h:Hp},(∃ C A E,iO P G X ih rd n ops l fr D h= .cd .bE C A E)∨iO P G X ih rd n ops l fr D h= .no
 | [],fr,D,h=> .inl ⟨fr,D,h,rfl⟩
 | o::l,fr,D,h=>by
   simp only [iO];split
   · split
     · split
       · split
         · exact qR
         · exact .inr U
       · split
         · split
           · exact qR
           · exact .inr U
         · exact .inr U
       · exact .inr U
     · exact .inr U
   · split
     · exact qR
     · exact .inr U
   · exact .inr U
theorem Hd (I:Good P G ih) {rd:Option Nat} {g:az} {ps:List Nat} {aE body:bG} {fr:Tr AV} {D:List AD} {h E:Hp} {v:AV} (A:nw ih G rd n g ps aE body fr D h= .rv v E):False:=by
 have C:∀ {fr:Tr AV} {D:List AD} {l:Nat} {h:Hp},mV G ih rd n fr D l h= .rv v E→False:=by
  intro fr D l h A;unfold mV at A;split at A
  · split at A
    · cases A
    · rename_i L m J ps aE body d _ _;cases hc:(aG G l && au l bO)
      · rw [hc] at A; cases A
      · rw [hc] at A;simp only [cond_true] at A;split at A
        · cases A
        · exact I.lx A
  · cases A
 unfold nw at A;split at A
 · split at A
   · split at A
     · split at A
       · split at A
         · exact C A
         · cases A
       · cases A
     · cases A
   · split at A
     · split at A
       · split at A
         · exact C A
         · cases A
       · cases A
     · cases A
 · cases A
theorem Iz (A:Good P G ih) (ag:gH P G X) (ab:e7 P) (ae:sf P G X ih) (ac:∀ f args h v aa,ih (.cl f args h)= .rv v aa→∃ fn c,P.funcs[f]? =some fn∧fn.body=some c) (rd:Option Nat) (n:Nat) (c:bG) (fr:Tr AV) (D:List AD) (h:Hp):kq P G (.cd rd n c fr D h) (eA P G X ih<|.cd rd n c fr D h):=by
 cases c with
 | skip =>exact cQ.here fun rr Q a w V=>wpIn_skip V
 | region id ops draw=>
   obtain ⟨ops⟩:=ops;simp only [eA];cases draw with
   | true =>
     simp only [cond_true];have :=ae rd n id ops fr D h;split at this
     · rename_i he; rw [he]; exact this
     · rename_i he; rw [he]; trivial
     · exact this.elim
   | false =>
     simp only [cond_false];rcases qR (P:=P) (G:=G) (X:=X) (ih:=ih) (n:=n) (rd:=rd) (ops:=ops) (l:=ops) (fr:=fr) (D:=D) (h:=h) with ⟨al,ai,aa,he⟩ | he
     · rw [he];obtain ⟨U,s1⟩:=oS A ag ab ac he;exact ⟨U,fun T r w σ Dl rr Q hT hr E L O M=>wpIn_region_lit<|s1 T r w σ Dl rr Q hT hr E L O M⟩
     · rw [he]; trivial
 | seq a b=>
   simp only [eA];cases hi:ih (.cd rd n a fr D h) with
   | no=>trivial
   | rv v C=>exact (A.lx hi).elim
   | cd e J I C=>
     have s1:=A<|.cd rd n a fr D h;rw [hi] at s1;cases e with
     | bE=>
       simp only;have s2:=A<|.cd rd n b J I C;cases hj:ih (.cd rd n b J I C) with
       | no=>trivial
       | rv v ad=>exact (A.lx hj).elim
       | cd ak am aj ad=>
         rw [hj] at s2;exact cQ.bind s1 s2 fun rr Q a w hw=>wpIn_seq<|wpIn_mono hw fun e a w he=>by obtain ⟨rfl,he⟩:=he; exact he
     | ret=>exact cQ.map s1 fun rr Q a w hw=>wpIn_seq<|wpIn_mono hw fun e a w he=>by obtain ⟨rfl,he⟩:=he; exact he
     | ext i=>exact cQ.map s1 fun rr Q a w hw=>wpIn_seq<|wpIn_mono hw fun e a w he=>by obtain ⟨rfl,he⟩:=he; exact he
 | cond x a b=>
   simp only [eA];split
   · rename_i Z;have s1:=A<|.cd rd n a fr D h;cases hi:ih (.cd rd n a fr D h) with
     | no=>trivial
     | rv v C=>exact (A.lx hi).elim
     | cd e J I C=>
       rw [hi] at s1;obtain ⟨U,s1⟩:=s1;exact ⟨U,fun T r w σ Dl rr Q hT hr E L O M=>wpIn_cond_true (by rw [cK]; exact ic<|oQ (N:=⟨n,Dl,[],rr⟩) hr.eF E Z)<|s1 T r w σ Dl rr Q hT hr E L O M⟩
   · rename_i Z;have s1:=A<|.cd rd n b fr D h;cases hi:ih (.cd rd n b fr D h) with
     | no=>trivial
     | rv v C=>exact (A.lx hi).elim
     | cd e J I C=>
       rw [hi] at s1;obtain ⟨U,s1⟩:=s1;exact ⟨U,fun T r w σ Dl rr Q hT hr E L O M=>wpIn_cond_false (by rw [cK]; exact ic<|oQ (N:=⟨n,Dl,[],rr⟩) hr.eF E Z)<|s1 T r w σ Dl rr Q hT hr E L O M⟩
   · trivial
 | block id c=>
   simp only [eA];cases hi:ih (.cd rd n c fr D h) with
   | no=>trivial
   | rv v C=>exact (A.lx hi).elim
   | cd e J I C=>
     have s1:=A<|.cd rd n c fr D h;rw [hi] at s1;cases e with
     | bE=>exact cQ.map s1 fun rr Q a w hw=>wpIn_block<|wpIn_mono hw fun e a w he=>by obtain ⟨rfl,he⟩:=he; exact he
     | ret=>exact cQ.map s1 fun rr Q a w hw=>wpIn_block<|wpIn_mono hw fun e a w he=>by obtain ⟨rfl,he⟩:=he; exact he
     | ext j=>
       simp only;cases hj:aB j id
       · have ah:j≠id:=fun e=>by subst e; simp at hj
         exact cQ.map s1 fun rr Q a w hw=>wpIn_block (wpIn_mono hw fun e a w he=>by
          obtain ⟨rfl,he⟩:=he;simp only [iH,Bc,if_neg ah]; exact he)
       · obtain rfl :=bF hj;exact cQ.map s1 fun rr Q a w hw=>wpIn_block (wpIn_mono hw fun e a w he=>by
          obtain ⟨rfl,he⟩:=he;simp only [iH,Bc,if_true]; exact he)
 | loop c=>
   simp only [eA];cases hi:ih (.lp rd n c fr D h) with
   | no=>trivial
   | rv v C=>exact (A.yN hi).elim
   | cd e J I C=>
     have s1:=A<|.lp rd n c fr D h;rw [hi] at s1;obtain ⟨U,s1⟩:=s1;exact ⟨U,fun T r w σ Dl rr Q hT hr E L O M=>Jv<|s1 T r w σ Dl rr Q hT hr E L O M⟩
 | rangeFunc g ps aE body=>
   obtain ⟨ps⟩:=ps;simp only [eA];cases hi:nw ih G rd n g ps aE body fr D h with
   | no=>trivial
   | rv v C=>exact (Hd A hi).elim
   | cd e J I C=>exact Hc A ab ac hi
 | exit id=>exact cQ.here fun rr Q a w V=>wpIn_exit V
 | ret=>exact cQ.here fun rr Q a w V=>wpIn_ret V
 | scope c=>trivial
 | label l=>trivial
 | goto l=>trivial
 | refuse s=>trivial
theorem ID (C:Good P G ih) (l:Nat) (args:List AV) (h:Hp):kq P G (.yl l args h) (eA P G X ih<|.yl l args h):=by
 simp only [eA];cases hi:o8 G ih l args h with
 | no=>trivial
 | rv v A=>exact JK C hi
 | cd e fr D A=>
   exfalso;unfold o8 at hi;split at hi
   · split at hi
     · split at hi
       · split at hi
         · rename_i M L J O E I d1 _;cases hc:(aG G l && au l bO)
           · rw [hc] at hi; cases hi
           · rw [hc] at hi;simp only [cond_true] at hi;split at hi
             · split at hi
               · split at hi <;> cases hi
               · cases hi
             · cases hi
         · cases hi
       · cases hi
     · cases hi
   · cases hi
theorem EC:∀ (k:Nat),(∀ f args h v C,gk P G X k (.cl f args h)= .rv v C→∃ fn c,P.funcs[f]? =some fn∧fn.body=some c)∧(∀ f args h v C,gk P G X k (.df f args h)= .rv v C→∃ fn c,P.funcs[f]? =some fn∧fn.body=some c)
 | 0=>⟨fun f args h v C A=>(by cases A),fun f args h v C A=>by cases A⟩
 | k+1=>by
   constructor
   · intro f args h v C A;simp only [gk,eA] at A;split at A
     · rename_i fn E;split at A
       · rename_i c hb; exact ⟨fn,c,E,hb⟩
       · cases A
     · cases A
   · intro f args h v C A;simp only [gk,eA] at A;split at A
     · rename_i fn E;split at A
       · rename_i c hb; exact ⟨fn,c,E,hb⟩
       · cases A
     · cases A
theorem xW (E:gH P G X) (C:e7 P) (J:∀ ih,Good P G ih→(∀ f args h v L,ih (.cl f args h)= .rv v L→∃ fn c,P.funcs[f]? =some fn∧fn.body=some c)→sf P G X ih):∀ k,Good P G (gk P G X k)
 | 0=>fun t=>by cases t <;> trivial
 | k+1=>fun t=>by
   have A:=xW E C J k;obtain ⟨I,M⟩:=EC (P:=P) (G:=G) (X:=X) k;cases t with
   | cd rd n c fr D h=>exact Iz A E C (J _ A I) I rd n c fr D h
   | lp rd n c fr D h=>exact IC A rd n c fr D h
   | cl f args h=>exact IA A C M f args h
   | yl l args h=>exact ID A l args h
   | df f args h=>exact IB A E C I f args h
end
end Go.Hb
namespace Go.Hb
mutual
theorem sX:∀ {a b:AV},fh a b=true→a=b
 | .bool a,.bool b,h=>by simp only [fh,beq_iff_eq] at h; rw [h]
 | .int k a,.int k' b,h=>by
   simp only [fh] at h;cases hk:aB (de k) (de k')
   · rw [hk] at h; cases h
   · rw [hk] at h;simp only [cond_true,decide_eq_true_iff] at h;rw [lJ hk,h]
 | .str l,.str m,h=>by simp only [fh,mX,decide_eq_true_iff] at h; rw [h]
 | .ptr b o,.ptr b' o',h=>by
   simp only [fh,aU] at h;rw [bF h.1,bF h.2]
 | .fJ,.fJ,_=>rfl
 | .sl b o n c x,.sl b' o' n' c' x',h=>by
   simp only [fh,aU,beq_iff_eq] at h;obtain ⟨⟨A,C⟩,h3,h4,h5⟩:=h;rw [bF A,bF C,bF h3,bF h4,h5]
 | .dR,.dR,_=>rfl
 | .map b,.map b',h=>by simp only [fh] at h; rw [bF h]
 | .jm,.jm,_=>rfl
 | .fn f a c,.fn f' a' c',h=>by
   simp only [fh,aU] at h;rw [bF h.1,ow h.2.1,ow h.2.2]
 | .fu l,.fu l',h=>by simp only [fh] at h; rw [bF h]
 | .gO,.gO,_=>rfl
 | .gn t v,.gn t' v',h=>by
   simp only [fh,aU] at h;rw [bF h.1,sX h.2]
 | .dE,.dE,_=>rfl
 | .agg l,.agg m,h=>by simp only [fh] at h; rw [ow h]
 | .bL l,.bL m,h=>by simp only [fh] at h; rw [ow h]
theorem ow:∀ {a b:List AV},jR a b=true→a=b
 | [],[],_=>rfl
 | a::l,b::m,h=>by
   simp only [jR] at h;cases hk:fh a b
   · rw [hk] at h; cases h
   · rw [hk] at h; rw [sX hk,ow h]
 | [],_::_,h=>by simp [jR] at h
 | _::_,[],h=>by simp [jR] at h
end
theorem sQ {c p:Bool} (h:cond c p false =true):c=true∧p=true :=by
 cases c
 · cases h
 · exact ⟨U,h⟩
theorem tZ {t:Nat} :∀ {l:List Nat},oM t l=true↔t∈l
 | []=>by simp [oM]
 | u::l=>by
   simp only [oM,db];cases hb:aB t u
   · have :t≠u:=fun e=>by subst e; simp at hb
     simp only [cond_false,tZ,this,false_or]
   · have :=bF hb;simp [this]
theorem xL {i:Nat} :∀ {l:List bB},ou i l=true→∀ e∈l,c9 .any e=true→e.on < i
 | [],_,e,he,_=>by cases he
 | x::l,h,e,he,hb=>by
   simp only [ou] at h;cases hx:(c9 .any x && !(au x.on i))
   · rw [hx] at h;rcases db.1 he with rfl | he
     · rw [hb] at hx;simp only [Bool.true_and,Bool.not_eq_false'] at hx;exact bQ.1 hx
     · exact xL h e he hb
   · rw [hx] at h; cases h
def mG (ops:List aq) (X:Nat→Prop):Prop := ∀ i o,X i→ops[i]? =some o→∀ e∈o.after.toList,c9 .any e=true→X e.on
theorem uf {l:List Nat} {i:Nat} :kL l i=(l[i]?).getD 0:=by
 unfold kL
 induction l generalizing i with
 | nil=>simp [j2]
 | cons a l ih=>
   cases i with
   | zero=>simp [j2]
   | succ i=>simp [j2,ih]
theorem tW {acc:List Nat} {j:Nat} :∀ {l:List bB},pJ (kK acc l) j=true→∃ e∈l,c9 .any e=true∧e.on < acc.length∧(j=e.on∨pJ (kL acc e.on) j=true)
 | [],h=>by simp [kK] at h
 | e::l,h=>by
   simp only [kK] at h;cases hb:(c9 .any e && au e.on acc.length)
   · rw [hb] at h;obtain ⟨C,E,I⟩:=tW h;exact ⟨C,iV _ E,I⟩
   · rw [hb] at h;simp only [aU] at hb;simp only [cond_true] at h;have A:((2 ^ e.on ||| kL acc e.on) ||| kK acc l).testBit j=true :=h;simp only [Nat.testBit_or,ml,Nat.testBit_two_pow,decide_eq_true_iff] at A;rcases A with (A | A) | A
     · exact ⟨e,ix,hb.1,bQ.1 hb.2,.inl A.symm⟩
     · exact ⟨e,ix,hb.1,bQ.1 hb.2,.inr A⟩
     · obtain ⟨C,E,I⟩:=tW A;exact ⟨C,iV _ E,I⟩
theorem xE {ops:List aq} {X:Nat→Prop} (C:mG ops X):∀ (l:List aq) (acc:List Nat),(∀ k,l[k]? =ops[acc.length+k]?)→(∀ i j,i < acc.length→pJ (kL acc i) j=true→j < i∧(X i→X j))→
 ∀ i j,pJ (kL (gh l acc) i) j=true→j < i∧(X i→X j)
 | [],acc,_,ha,i,j,h=>by
   simp only [gh] at h;rcases dU i acc.length with hi | hi
   · exact ha i j hi h
   · rw [uf,mB hi] at h; simp at h
 | o::l,acc,hl,ha,i,j,h=>by
   simp only [gh] at h;refine xE C l (acc++ [kK acc o.after.toList]) (fun k=> ?_) (fun i j hi hb=> ?_) i j h
   · have :=hl<|k+1;simp only [fU] at this;rw [this]; congr 1; simp; omega
   · rw [uf] at hb;rcases dU i acc.length with A | A
     · rw [fy A,← uf] at hb; exact ha i j A hb
     · have :i=acc.length:=by simp at hi; omega
       subst this;rw [fA (aO _)] at hb;simp only [Nat.sub_self,fV,gZ] at hb;obtain ⟨e,he,J,L,E⟩:=tW hb;have M:ops[acc.length]? =some o:=by
        have :=hl 0;simpa using this.symm
       rcases E with rfl | E
       · exact ⟨L,fun I=>C _ _ I M e he J⟩
       · obtain ⟨U,O⟩:=ha _ _ L E;exact ⟨ag,fun I=>O<|C _ _ I M e he J⟩
theorem og {ops:List aq} {X:Nat→Prop} (A:mG ops X) {i j:Nat} (h:iB (gh ops []) i j=true):j < i∧(X i→X j):=
 xE A ops [] (fun k=>by simp) (fun i j hi=>by simp at hi) i j h
structure sn (ops:List aq) (dp:List Nat) (i j:Nat) (oi oj:aq):Prop where
 ne:∀ t,oi.dst=some t→oj.dst≠some t
 ap:iB dp i j=true∨((∀ t,oj.dst=some t→t∉nv ops oi)∧∀ t,oi.dst=some t→t∉nv ops oj)
theorem xl {ops:List aq} {J:List Nat} {i:Nat} {L:aq} :∀ {l:List aq} {b:Nat},pT ops J i L b l=true→∀ k E,l[k]? =some E→b+k < i→sn ops J i (b+k) L E
 | [],b,_,k,E,hk,_=>by simp at hk
 | o::l,b,h,k,E,hk,hlt=>by
   simp only [pT] at h;rw [bQ.2 (show b < i by omega)] at h;simp only [cond_true,aU,jy,ml] at h;cases k with
   | zero=>
     simp only [fV,aY] at hk;subst hk;refine ⟨fun t A C=> ?_,?_⟩
     · have :=h.1.1;rw [A,C] at this;simp [xN] at this
     · rcases h.1.2 with A | ⟨A,C⟩
       · exact .inl A
       · refine .inr ⟨fun t I hm=> ?_,fun t I hm=> ?_⟩
         · rw [I] at A; simp only [qF] at A; rw [tZ.2 hm] at A; cases A
         · rw [I] at C; simp only [qF] at C; rw [tZ.2 hm] at C; cases C
   | succ k=>
     simp only [fU] at hk;have :=xl h.2 k E hk ag;rwa [show b+1 +k=b+(k+1) from by omega] at this
theorem sN {ops:List aq} {E:List Nat} :∀ {l:List aq} {b:Nat},mO ops E b l=true→∀ k A,l[k]? =some A→ou (b+k) A.after.toList=true∧∀ j C,ops[j]? =some C→j < b+k→sn ops E (b+k) j A C
 | [],b,_,k,A,hk=>by simp at hk
 | o::l,b,h,k,A,hk=>by
   simp only [mO,aU] at h;cases k with
   | zero=>
     simp only [fV,aY] at hk;subst hk;refine ⟨h.1.1,fun j C I J=> ?_⟩;have :=xl h.1.2 j C I ag;rwa [bS] at this
   | succ k=>
     simp only [fU] at hk;have :=sN h.2 k A hk;rwa [show b+1 +k=b+(k+1) from by omega] at this
theorem xP {a:Option AV} {v:AV} (h:sY a v=true):a=some v:=by
 cases a with
 | none=>cases h
 | some a=>rw [sX h]
theorem zg {P:ak} {E:List Nat} {i:Nat} {o:Op} {xs:List AV} {v:AV} :∀ {l:List Rec} {b:Nat},oP P E i o xs v b l=true→∀ k q,l[k]? =some q→
 (q.k= .c→(b+k < i→iB E i (b+k)=true∨im P o xs q.hb=some v)∧(¬b+k < i→iB E (b+k) i=true∨im P o xs q.ha=some v))∧(q.k= .a→¬b+k < i)
 | [],b,_,k,q,hk=>by simp at hk
 | x::l,b,h,k,q,hk=>by
   simp only [oP] at h;obtain ⟨A,I⟩:=sQ h;cases k with
   | succ k=>
     simp only [fU] at hk;have :=zg I k q hk;rwa [show b+1 +k=b+(k+1) from by omega] at this
   | zero=>
     simp only [fV,aY] at hk;subst hk;rw [iX];refine ⟨fun J=> ?_,fun ha C=> ?_⟩
     · rw [J] at A;simp only at A;refine ⟨fun C=> ?_,fun C=> ?_⟩
       · rw [bQ.2 C] at A;simp only [cond_true,ml] at A;exact A.imp id xP
       · have :au b i=false :=by cases hb:au b i; rfl; exact absurd (bQ.1 hb) C
         rw [this] at A;simp only [cond_false,ml] at A;exact A.imp id xP
     · rw [ha,bQ.2 C] at A; cases A
theorem zf {E:List Nat} {i:Nat} :∀ {l:List Rec} {b:Nat},oO E i b l=true→∀ k q,l[k]? =some q→(q.k= .c∨q.k= .a)→b+k < i→iB E i (b+k)=true
 | [],b,_,k,q,hk,_,_=>by simp at hk
 | x::l,b,h,k,q,hk,A,I=>by
   simp only [oO] at h;obtain ⟨C,J⟩:=sQ h;cases k with
   | succ k=>
     simp only [fU] at hk;have :=zf J k q hk A ag;rwa [show b+1 +k=b+(k+1) from by omega] at this
   | zero=>
     simp only [fV,aY] at hk;subst hk;rw [iX] at I ⊢;rcases A with A | A <;> (rw [A] at C; simp only at C; rw [bQ.2 I] at C; exact C)
theorem zh {P:ak} {I:List Nat} {rs:List Rec} :∀ {l:List aq} {m:List Rec} {b:Nat},j4 P I rs b l m=true→l.length=m.length∧∀ k o q,l[k]? =some o→m[k]? =some q→(q.k= .l→oP P I (b+k) o.op q.xs q.v 0 rs=true)∧(q.k= .c→oO I (b+k) 0 rs=true)
 | [],[],b,_=>⟨rfl,fun k o q A=>by simp at A⟩
 | [],_::_,b,h=>by simp [j4] at h
 | _::_,[],b,h=>by simp [j4] at h
 | o::l,q::m,b,h=>by
   simp only [j4] at h;obtain ⟨C,L⟩:=sQ h;obtain ⟨M,O⟩:=zh L;refine ⟨by simp [M],fun k U q' A E=> ?_⟩;cases k with
   | succ k=>
     simp only [fU] at A E;have :=O k U q' A E;rwa [show b+1 +k=b+(k+1) from by omega] at this
   | zero=>
     simp only [fV,aY] at A E;subst A; subst E;rw [iX];exact ⟨fun J=>by rw [J] at C; exact C,fun J=>by rw [J] at C; exact C⟩
end Go.Hb
namespace Go.Hb
section
variable {P:ak} {G:Nat} {X:Xt} {ih:Tk→Rs} {n:Nat}
inductive Cl (P:ak) (G:Nat) (o:Op) (q:Rec):Prop
 | p:q.k= .p→lR P o q.xs=some q.v→q.ha=q.hb→Cl P G o q
 | l:q.k= .l→im P o q.xs q.hb=some q.v→q.ha=q.hb→Cl P G o q
 | a (e:aj) (l:List AV):q.k= .a→o= .alloc e→pP P e=some l→cj q.hb (.cells l e 0 .x)=some q.ha→q.v= .ptr q.hb.nx 0→Cl P G o q
 | c:q.k= .c→ja P G o q.xs q.hb q.v q.ha→Cl P G o q
structure mJ (P:ak) (G n:Nat) (ops:List aq) (o:aq) (q:Rec) (fr fr':Tr AV) (h h':Hp):Prop where
 hb:q.hb=h
 ha:q.ha=h'
 set :eI n fr o.dst q.v=some fr'
 run:(iJ n ops fr o.guard= .y∧jr G n fr (eU o.op)=some q.xs∧Cl P G o.op q)∨(iJ n ops fr o.guard= .n∧q.k= .s∧q.v= .bL []∧q.ha=q.hb)
theorem G3 (L:Good P G ih) (M:gH P G X) (J:e7 P) (O:∀ f args h v C,ih (.cl f args h)= .rv v C→∃ fn c,P.funcs[f]? =some fn∧fn.body=some c) {I:Bool} {o:Op} {xs:List AV} {h:Hp} {q:Rec} (A:ur P G X ih I o xs h=some q):q.xs=xs∧q.hb=h∧Cl P G o q:=by
 unfold ur at A;split at A
 · rename_i v hp; cases A; exact ⟨rfl,rfl,.p rfl hp rfl⟩
 · split at A
   · rename_i v E; cases A; exact ⟨rfl,rfl,.l rfl E rfl⟩
   · split at A
     · rename_i e _ _;split at A
       · rename_i l E;split at A
         · rename_i C hn; cases A; exact ⟨rfl,rfl,.a e l rfl rfl E hn rfl⟩
         · cases A
       · cases A
     · split at A
       · rename_i v C U; cases A; exact ⟨rfl,rfl,.c rfl (zm L M J O U)⟩
       · cases A
theorem Cl.nx {o:Op} {q:Rec} (h:Cl P G o q):q.hb.nx≤q.ha.nx:=by
 cases h with
 | p _ _ h=>rw [h]; exact aO _
 | l _ _ h=>rw [h]; exact aO _
 | a e l _ _ _ h _=>have :=jl h; omega
 | c _ h=>exact h.1
theorem mJ.nx {ops:List aq} {o:aq} {q:Rec} {fr E:Tr AV} {h C:Hp} (A:mJ P G n ops o q fr E h C):h.nx≤C.nx:=by
 rw [← A.hb,← A.ha];rcases A.run with ⟨_,_,h⟩ | ⟨_,_,_,h⟩
 · exact h.nx
 · rw [h]; exact aO _
theorem zz (ac:Good P G ih) (ad:gH P G X) (ab:e7 P) (ae:∀ f args h v al,ih (.cl f args h)= .rv v al→∃ fn c,P.funcs[f]? =some fn∧fn.body=some c) {ops:List aq} {aa:List Nat} :∀ {l:List aq} {i:Nat} {last:Option Nat} {fr C:Tr AV} {h E:Hp} {rs:List Rec},j7 P G X ih n ops aa i last l fr h=some (rs,C,E)→
 ∃ (F:Nat→Tr AV) (H:Nat→Hp),F 0=fr∧H 0=h∧F l.length=C∧H l.length=E∧rs.length=l.length∧∀ k o q,l[k]? =some o→rs[k]? =some q→mJ P G n ops o q (F k) (F<|k+1) (H k) (H<|k+1)
 | [],i,last,fr,C,h,E,rs,hr=>by
   simp only [j7,aY,jG] at hr;obtain ⟨rfl,rfl,rfl⟩:=hr;exact ⟨fun _=>fr,fun _=>h,U,U,U,U,U,fun k o q I=>by simp at I⟩
 | o::l,i,last,fr,C,h,E,rs,hr=>by
   have key:∀ (q:Rec) (A:Tr AV) (j:Nat) (la:Option Nat) (iq:List Rec),mJ P G n ops o q fr A h q.ha→j7 P G X ih n ops aa j la l A q.ha=some (iq,C,E)→rs=q::iq→
    ∃ (F:Nat→Tr AV) (H:Nat→Hp),F 0=fr∧H 0=h∧F (o::l).length=C∧H (o::l).length=E∧rs.length=(o::l).length∧∀ k M q,(o::l)[k]? =some M→rs[k]? =some q→mJ P G n ops M q (F k) (F<|k+1) (H k) (H<|k+1):=by
    intro q A j la iq au L ag;obtain ⟨F,H,am,O,an,ao,ap,ar⟩:=zz ac ad ab ae L;refine ⟨fun k=>match k with | 0=>fr | k+1=>F k,fun k=>match k with | 0=>h | k+1=>H k,U,U,an,ao,by rw [ag]; simp [ap],fun k M q' I J=> ?_⟩;subst ag;cases k with
    | zero=>
      simp only [fV,aY] at I J;subst I; subst J;simp only [am,O]; exact au
    | succ k=>exact ar k M q' (by simpa using I)<|by simpa using J
   simp only [j7] at hr;split at hr
   · rename_i V;split at hr
     · rename_i xs av;split at hr
       · rename_i q J;split at hr
         · rename_i A Z;split at hr
           · rename_i iq ak O L;cases hr;obtain ⟨ah,ai,aj⟩:=G3 ac ad ab ae J;exact key q A _ _ iq ⟨ai,U,Z,.inl ⟨V,by rw [ah]; exact av,aj⟩⟩ L U
           · cases hr
         · cases hr
       · cases hr
     · cases hr
   · rename_i V;split at hr
     · rename_i A Z;split at hr
       · rename_i iq ak O L;cases hr;exact key ⟨.s,[],.bL [],h,h⟩ A _ _ iq ⟨U,U,Z,.inr ⟨V,U,U,U⟩⟩ L U
       · cases hr
     · cases hr
   · cases hr
structure Sq (P:ak) (G n:Nat) (ops:List aq) (rs:List Rec) (F:Nat→Tr AV) (H:Nat→Hp):Prop where
 len:rs.length=ops.length
 line:∀ k o q,ops[k]? =some o→rs[k]? =some q→mJ P G n ops o q (F k) (F<|k+1) (H k) (H<|k+1)
 pair:∀ i j oi oj,ops[i]? =some oi→ops[j]? =some oj→j < i→sn ops (gh ops []) i j oi oj
 Ei:∀ i o,ops[i]? =some o→∀ e∈o.after.toList,c9 .any e=true→e.on < i
theorem zN {fr C:Tr AV} {d:Option Nat} {v:AV} (A:eI n fr d v=some C) (t:Nat):cC C t=if d=some t then v else cC fr t:=by
 cases d with
 | none=>simp only [eI,aY] at A; subst A; simp
 | some d=>
   simp only [eI] at A;replace A:=aF A; obtain ⟨E,A⟩:=A;simp only [aU] at E;cases A;simp only [cC,Tr.kC _ _ _ _ E.2,aY];by_cases e:t=d
   · subst e; simp
   · rw [if_neg e,if_neg (fun x=>e x.symm)]
variable {ops:List aq} {rs:List Rec} {F:Nat→Tr AV} {H:Nat→Hp}
theorem Sq.get (s:Sq P G n ops rs F H) {i:Nat} {o:aq} (A:ops[i]? =some o):∃ q,rs[i]? =some q:=by
 have :=(cy.1 A).1;exact ⟨rs[i]'(by rw [s.len]; exact this),bW _⟩
theorem Sq.get' (s:Sq P G n ops rs F H) {i:Nat} {q:Rec} (A:rs[i]? =some q):∃ o,ops[i]? =some o:=by
 have :=(cy.1 A).1;exact ⟨ops[i]'(by rw [← s.len]; exact this),bW _⟩
theorem Sq.slot (s:Sq P G n ops rs F H) (t:Nat):∀ k,k≤ops.length→(∃ j o q,j < k∧ops[j]? =some o∧o.dst=some t∧rs[j]? =some q∧cC (F k) t=q.v)∨((∀ j o,j < k→ops[j]? =some o→o.dst≠some t)∧cC (F k) t=cC (F 0) t)
 | 0,_=> .inr ⟨fun j o h=>by omega,rfl⟩
 | k+1,hk=>by
   have A:ops[k]? =some (ops[k]'ag):=bW _;generalize ops[k]'ag=o at A;obtain ⟨q,M⟩:=s.get A;have Z:=s.line k o q A M;rw [zN Z.set t];by_cases e:o.dst=some t
   · rw [if_pos e]; exact .inl ⟨k,o,q,kn _,A,e,M,rfl⟩
   · rw [if_neg e];rcases s.slot t k ag with ⟨j,J,q',L,C,O,U,V⟩ | ⟨L,C⟩
     · exact .inl ⟨j,J,q',ag,C,O,U,V⟩
     · refine .inr ⟨fun j J E I=> ?_,C⟩;rcases Cc.1 E with E | rfl
       · exact L j J E I
       · rw [A] at I; cases I; exact e
def lu (ops:List aq) (rs:List Rec) (f0:Tr AV) (Y:Nat→Prop) (fx:Tr AV):Prop := ∀ t,(∃ j o q,Y j∧ops[j]? =some o∧o.dst=some t∧rs[j]? =some q∧cC fx t=q.v)∨((∀ j o,Y j→ops[j]? =some o→o.dst≠some t)∧cC fx t=cC f0 t)
theorem lu.set {f0 fx L:Tr AV} {Y:Nat→Prop} (U:lu ops rs f0 Y fx) {i:Nat} {o:aq} {q:Rec} (M:ops[i]? =some o) (O:rs[i]? =some q) (h:eI n fx o.dst q.v=some L):lu ops rs f0 (fun j=>Y j∨j=i) L:=by
 intro t;rw [zN h t];by_cases e:o.dst=some t
 · rw [if_pos e]; exact .inl ⟨i,o,q,.inr rfl,M,e,O,rfl⟩
 · rw [if_neg e];rcases U t with ⟨j,J,q',A,C⟩ | ⟨A,C⟩
   · exact .inl ⟨j,J,q',.inl A,C⟩
   · refine .inr ⟨fun j J E I=> ?_,C⟩;rcases E with E | rfl
     · exact A j J E I
     · rw [M] at I; cases I; exact e
theorem HM {fr C:Tr AV} {d:Option Nat} {v:AV} (A:eI n fr d v=some C) (fx:Tr AV):∃ E,eI n fx d v=some E:=by
 cases d with
 | none=>exact ⟨fx,rfl⟩
 | some d=>
   simp only [eI] at A ⊢;replace A:=aF A; obtain ⟨I,A⟩:=A;rw [I]; exact ⟨_,rfl⟩
theorem Sq.agree (s:Sq P G n ops rs F H) {Y:Nat→Prop} (ab:mG ops Y) {i:Nat} {o:aq} (O:ops[i]? =some o) (hi:¬Y i) (hr:mG ops (fun j=>Y j∨j=i)) {fx:Tr AV} (U:lu ops rs (F 0) Y fx) {t:Nat} (V:t∈nv ops o):cC fx t=cC (F i) t:=by
 have ad:=(cy.1 O).1;rcases s.slot t i ag with ⟨j,L,ae,M,E,J,Z,aa⟩ | ⟨M,E⟩
 · have hp:=s.pair i j o L O E M;have ac:Y j:=by
    rcases hp.ap with hb | ⟨hb,_⟩
    · rcases (og hr hb).2 (.inr rfl) with h | h
      · exact h
      · omega
    · exact absurd V<|hb t J
   rcases U t with ⟨A,I,q',g1,g2,g3,g4,g5⟩ | ⟨g1,g2⟩
   · have :A=j:=by
      rcases pG A j with C | he | C
      · exact absurd g3<|(s.pair j A L I E g2 C).ne t J
      · exact he
      · exact absurd J<|(s.pair A j I L g2 E C).ne t g3
     subst this;rw [Z] at g4; cases g4;rw [g5,aa]
   · exact absurd J<|g1 j L ac E
 · rcases U t with ⟨A,I,q',g1,g2,g3,g4,g5⟩ | ⟨g1,g2⟩
   · exfalso;rcases pG A i with C | he | C
     · exact M A I C g2 g3
     · subst he; exact hi g1
     · rcases (s.pair A i I o g2 O C).ap with hb | ⟨_,hb⟩
       · exact hi<|(og ab hb).2 g1
       · exact hb t g3 V
   · rw [g2,E]
theorem GF {fr fx:Tr AV} {x:az} (h:∀ t,x= .tmp t→cC fx t=cC fr t):jq G n fx x=jq G n fr x:=by
 cases x with
 | tmp t=>simp only [jq,h t rfl]
 | const v=>rfl
 | func f=>rfl
 | global g=>rfl
theorem zj {fr fx:Tr AV} :∀ {l:List az},(∀ t∈nG l,cC fx t=cC fr t)→jr G n fx l=jr G n fr l
 | [],_=>rfl
 | x::l,h=>by
   simp only [jr];rw [GF (fr:=fr) (fx:=fx) fun t e=>h t (by subst e; simp [nG]),zj (fr:=fr) (fx:=fx) (l:=l) fun t A=>h t (by cases x <;> simp [nG,A])]
theorem E4 {fr fx:Tr AV} {g:Option (Nat×Bool)} (h:∀ t∈tv ops g,cC fx t=cC fr t):iJ n ops fx g=iJ n ops fr g:=by
 unfold iJ;cases g with
 | none=>rfl
 | some p=>
   obtain ⟨j,want⟩:=p;simp only;cases hj:ops[j]? with
   | none=>rfl
   | some q=>
     simp only;cases hd:q.dst with
     | none=>rfl
     | some t=>
       simp only;rw [h t (by simp [tv,hj,hd])]
theorem Sq.done (s:Sq P G n ops rs F H) {Y:Nat→Prop} (Z:∀ j,j < ops.length→Y j) {fx:Tr AV} (O:lu ops rs (F 0) Y fx) (t:Nat):cC fx t=cC (F ops.length) t:=by
 rcases s.slot t ops.length (aO _) with ⟨j,M,aa,I,C,J,U,V⟩ | ⟨I,C⟩
 · rcases O t with ⟨A,E,q',g1,g2,g3,g4,g5⟩ | ⟨g1,g2⟩
   · have :A=j:=by
      rcases pG A j with L | he | L
      · exact absurd g3<|(s.pair j A M E C g2 L).ne t J
      · exact he
      · exact absurd J<|(s.pair A j E M g2 C L).ne t g3
     subst this;rw [U] at g4; cases g4;rw [g5,V]
   · exact absurd J<|g1 j M (Z j I) C
 · rcases O t with ⟨A,E,q',g1,g2,g3,g4,g5⟩ | ⟨g1,g2⟩
   · exact absurd g3<|I A E (cy.1 g2).1 g2
   · rw [g2,C]
theorem Sq.mono (s:Sq P G n ops rs F H) {i:Nat} :∀ {k:Nat},i≤k→k≤ops.length→(H i).nx≤(H k).nx
 | 0,h,_=>by have :i=0:=ag
             subst this; exact aO _
 | k+1,h,hk=>by
   rcases dU k i with E | hle
   · have :i=k+1:=ag;subst this; exact aO _
   · have A:ops[k]? =some (ops[k]'ag):=bW _;obtain ⟨q,C⟩:=s.get A;exact bX (s.mono hle ag) (s.line k _ q A C).nx
theorem CE {e:aj} {l:List AV} (ha:pP P e=some l):dy l=true∧∃ us:List ab,(∀ r,av r l=some us)∧∀ (N:Fm) (σ:Nat→ab) (dst:Option Nat) (ty:aj) (pos :String) (af:Array bB) (g:Option (Nat×Bool)) (w:ah),
 (execOp (ev N σ) ⟨dst,.alloc e,ty,pos,af,g⟩).run P w= .ok (.value<|.pointer<|some ⟨w.heap.size,0,none⟩) {w with heap:=w.heap.push<|.cells us.toArray e (0,0)} :=by
 unfold pP at ha;split at ha
 · rename_i J A;split at ha
   · rename_i L E;replace ha:=aF ha; obtain ⟨C,ha⟩:=ha;cases ha;refine ⟨C,J,fun r=>nj (r:=r) (fun v a=>kM 4) E,fun N σ dst ty pos af g w=> ?_⟩;unfold zeroOf at A;simp only [fB] at A;obtain ⟨i,hi,zv,I,rfl⟩:=A;simp [execOp,rJ,zeroValue,cJ hi,I,newVar,newRow]
   · cases ha
 · cases ha
end
end Go.Hb
namespace Go.Hb
section
variable {P:ak} {G n T:Nat} {ops:List aq} {rs:List Rec} {F:Nat→Tr AV} {H:Nat→Hp} {r0 r:Rn} {w0 w:ah} {h0:Hp} {Y:Nat→Prop} {lo:Nat}
structure HD (P:ak) (G T:Nat) (ops:List aq) (rs:List Rec) (H:Nat→Hp) (r0:Rn) (w0:ah) (h0:Hp) (Y:Nat→Prop) (lo:Nat) (r:Rn) (w:ah):Prop where
 hi:lo≤rs.length
 lc:∀ j q,rs[j]? =some q→q.k= .c→(Y j↔j < lo)
 la:∀ j q,rs[j]? =some q→q.k= .a→j < lo→Y j
 hr:HR P G r 0 (H lo) w
 new:∀ i,(H lo).nx≤i→i < T→r i=none∨∃ j q,Y j∧lo≤j∧rs[j]? =some q∧q.k= .a∧q.hb.nx=i
 j6:∀ j q,Y j→lo≤j→rs[j]? =some q→q.k= .a→∃ k,r q.hb.nx=some ⟨k,0,0⟩∧w0.heap.size≤k∧(∀ i o q',(H lo).t.get i=some o→r i=some q'→q'.ao≠k)∧
  ∃ e l us,cj q.hb (.cells l e 0 .x)=some q.ha∧(∀ r,av r l=some us)∧dy l=true∧w.heap[k]? =some (.cells us.toArray e (0,0))
 nr:∀ j j' q q' x x',Y j→lo≤j→rs[j]? =some q→q.k= .a→Y j'→lo≤j'→rs[j']? =some q'→q'.k= .a→r q.hb.nx=some x→r q'.hb.nx=some x'→x.ao=x'.ao→j=j'
 le:r0.le r
 md:Md (Fr G r0 h0) w0 w
 dx:∀ g,g≤G→∀ k,k < w0.heap.size→Fr g r (H lo) k→Fr g r0 h0 k
 out:∀ i,(H ops.length).nx≤i→r i=r0 i
theorem Sq.fresh (s:Sq P G n ops rs F H) {j:Nat} {q:Rec} (E:rs[j]? =some q) (C:q.k= .a):q.hb=H j∧q.ha=H (j+1)∧(H<|j+1).nx=(H j).nx+1:=by
 obtain ⟨o,I⟩:=s.get' E;have A:=s.line j o q I E;refine ⟨A.hb,A.ha,?_⟩;rw [← A.hb,← A.ha];rcases A.run with ⟨_,_,h⟩ | ⟨_,h,_,_⟩
 · cases h with
   | p h _ _=>rw [C] at h; cases h
   | l h _ _=>rw [C] at h; cases h
   | a e l _ _ _ h _=>exact jl h
   | c h _=>rw [C] at h; cases h
 · rw [C] at h; cases h
theorem Sq.alt (s:Sq P G n ops rs F H) {j i:Nat} {q q':Rec} (J:rs[j]? =some q) (E:q.k= .a) (A:rs[i]? =some q') (I:q'.k= .a) (O:j < i):q.hb.nx < q'.hb.nx:=by
 obtain ⟨C,L,M⟩:=s.fresh J E;obtain ⟨g1,g2,g3⟩:=s.fresh A I;have :=s.mono (i:=j+1) (k:=i) ag<|by have :=(cy.1 A).1; have :=s.len; omega
 rw [C,g1]; omega
theorem Sq.CD (s:Sq P G n ops rs F H) {j i:Nat} {q q':Rec} (E:rs[j]? =some q) (A:q.k= .a) (I:rs[i]? =some q') (C:q'.k= .a) (he:q.hb.nx=q'.hb.nx):j=i:=by
 rcases pG j i with h | h | h
 · have :=s.alt E A I C h; omega
 · exact h
 · have :=s.alt I C E A h; omega
theorem HD.vg (C:HD P G T ops rs H r0 w0 h0 Y lo r w) {q:Rec} (M:rs[lo]? =some q) (he:H (lo+1)=H lo) (U:q.k≠.c) (ha:q.k≠.a):HD P G T ops rs H r0 w0 h0 Y (lo+1) r w:=by
 have I:∀ j q',rs[j]? =some q'→(q'.k= .c∨q'.k= .a)→j≠lo:=fun j q' I V e=>by
  subst e; rw [M] at I; cases I;rcases V with h | h
  · exact U h
  · exact ha h
 refine ⟨(cy.1 M).1,fun j q' A E=> ?_,fun j q' A E L=>C.la j q' A E (by have :=I j q' A (.inr E); omega),by rw [he]; exact C.hr,fun i A E=> ?_,fun j q' A E L O=>by rw [he]; exact C.j6 j q' A ag L O,fun j Z aa ab x ac J a2 a3 a4 a5 ad=>C.nr j Z aa ab x ac J ag a3 a4 a5 ag,C.le,C.md,by rw [he]; exact C.dx,C.out⟩
 · rw [C.lc j q' A E]; have :=I j q' A (.inl E); omega
 · rw [he] at A;rcases C.new i A E with h | ⟨j,q',J,a2,a3,a4,a5⟩
   · exact .inl h
   · exact .inr ⟨j,q',J,by have :=I j q' a3 (.inr a4); omega,a3,a4,a5⟩
theorem HD.I3 (s:Sq P G n ops rs F H) (A:HD P G T ops rs H r0 w0 h0 Y lo r w) {q:Rec} (J:rs[lo]? =some q) (ha:q.k= .a) (U:Y lo):HD P G T ops rs H r0 w0 h0 Y (lo+1) r w:=by
 obtain ⟨f1,f2,f3⟩:=s.fresh J ha;obtain ⟨k,L,ap,ah,e,l,us,hn,ai,C,hw⟩:=A.j6 lo q U (aO _) J ha;rw [f1] at L;rw [f1,f2] at hn;unfold cj at hn;replace hn:=aF hn; obtain ⟨M,hn⟩:=hn;simp only [aY] at hn;have aq:(H<|lo+1).nx=(H lo).nx+1:=f3;refine ⟨(cy.1 J).1,fun j q' C E=> ?_,fun j q' C E aa=> ?_,?_,fun i C E=> ?_,fun j q' I a2 a3 a4=> ?_,fun j aj al am x an I a2 a3 a4 a5 ao=>A.nr j aj al am x an I ag a3 a4 a5 ag,A.le,A.md,?_,A.out⟩
 · rw [A.lc j q' C E];have :j≠lo:=fun e=>by subst e; rw [J] at C; cases C; rw [ha] at E; cases E
   omega
 · rcases Cc.1 aa with h | rfl
   · exact A.la j q' C E h
   · exact U
 · rw [← hn];exact A.hr.put (r':=r) (w':=w) (q:=⟨k,0,0⟩) (Rn.le_refl r) M L (by rw [hw]; exact uj (ai r) C) (fun _ _ _=>rfl) (fun j ak q' _ ac hr=>ah j ak q' ac hr) (km _) fun _ _ ad=>absurd ad<|sc _
 · rcases A.new i ag E with h | ⟨j,q',I,a2,a3,a4,a5⟩
   · exact .inl h
   · refine .inr ⟨j,q',I,?_,a3,a4,a5⟩;rcases dU lo j with h | h
     · exact h
     · have :j=lo:=ag;subst this;rw [J] at a3; cases a3;rw [f1] at a5; omega
 · obtain ⟨V,g1,g2,g3,g4⟩:=A.j6 j q' I ag a3 a4;refine ⟨V,g1,g2,fun i o x hi O=> ?_,g4⟩;rw [← hn] at hi;simp only [Tr.kC _ _ _ _ M] at hi;split at hi
   · rename_i e; subst e;intro hb;rw [L] at O; cases O;have :=A.nr lo j q q' _ _ U (aO _) J ha I ag a3 a4 (by rw [f1]; exact L) g1 hb;omega
   · exact g3 i o x hi O
 · intro g ab V ae Z;rw [← hn] at Z;rcases Fr.set M L (Rn.le_refl r) A.hr Z with h | h
   · simp only at h; omega
   · exact A.dx g ab V ae h
theorem HD.up (s:Sq P G n ops rs F H) (I:HD P G T ops rs H r0 w0 h0 Y lo r w) {q:Rec} (A:rs[lo]? =some q) (E:q.k≠.c) (ha:q.k= .a→Y lo):HD P G T ops rs H r0 w0 h0 Y (lo+1) r w:=by
 obtain ⟨o,L⟩:=s.get' A;have J:=s.line lo o q L A;have same:q.ha=q.hb→H (lo+1)=H lo:=fun h=>by rw [← J.hb,← J.ha,h]
 rcases J.run with ⟨_,_,h⟩ | ⟨_,h,_,C⟩
 · cases h with
   | p h _ C=>exact I.vg A (same C) E<|by rw [h]; intro h; cases h
   | l h _ C=>exact I.vg A (same C) E<|by rw [h]; intro h; cases h
   | a e l h _ _ _ _=>exact I.I3 s A h<|ha h
   | c h _=>exact absurd h E
 · exact I.vg A (same C) E<|by rw [h]; intro h; cases h
theorem HD.vh (s:Sq P G n ops rs F H) (A:HD P G T ops rs H r0 w0 h0 Y lo r w):∀ (i:Nat),lo≤i→i≤rs.length→(∀ j q,lo≤j→j < i→rs[j]? =some q→q.k≠.c∧(q.k= .a→Y j))→HD P G T ops rs H r0 w0 h0 Y i r w
 | 0,h,_,_=>by have :lo=0:=ag
               subst this; exact A
 | i+1,h,hi,hall=>by
   rcases dU i lo with I | hle
   · have :lo=i+1:=ag;subst this; exact A
   · have E:=HD.vh s A i hle ag fun j q a b c=>hall j q a ag c;have C:rs[i]? =some (rs[i]'ag):=bW _;exact E.up s C (hall i _ hle (kn _) C).1 (hall i _ hle (kn _) C).2
theorem HD.skip (A:HD P G T ops rs H r0 w0 h0 Y lo r w) {i:Nat} {q:Rec} (ad:rs[i]? =some q) (ab:q.k≠.c) (ha:q.k≠.a):HD P G T ops rs H r0 w0 h0 (fun j=>Y j∨j=i) lo r w:=by
 have C:∀ j q',rs[j]? =some q'→(q'.k= .c∨q'.k= .a)→(Y j∨j=i)→Y j:=fun j q' C ac ae=>by
  rcases ae with h | rfl
  · exact h
  · rw [ad] at C; cases C;rcases ac with h | h
    · exact absurd h ab
    · exact absurd h ha
 refine ⟨A.hi,fun j q' E I=> ?_,fun j q' E I aa=> .inl (A.la j q' E I aa),A.hr,fun i E I=> ?_,fun j q' J a2 a3 a4=>A.j6 j q' (C j q' a3 (.inr a4) J) a2 a3 a4,fun j O U V x ag J a2 a3 a4 a5 Z L M=>A.nr j O U V x ag (C j U a3 (.inr a4) J) a2 a3 a4 (C O V L (.inr M) a5) Z L M,A.le,A.md,A.dx,A.out⟩
 · rw [← A.lc j q' E I]; exact ⟨C j q' E (.inl I),.inl⟩
 · rcases A.new i E I with h | ⟨j,q',J,a2⟩
   · exact .inl h
   · exact .inr ⟨j,q',.inl J,a2⟩
theorem HR.grow {h:Hp} {r':Rn} {w':ah} (hr:HR P G r 0 h w) (hle:r.le r') (hw:∀ k,k < w.heap.size→w'.heap[k]? =w.heap[k]?):HR P G r' 0 h w':=by
 refine ⟨fun i o hi=> ?_,fun i j o I q q' hi E A C he=> ?_,fun i _ h=>absurd h (sc _),hr.eF.le hle,hr.base⟩
 · obtain ⟨q,A,C⟩:=hr.live i o hi;refine ⟨q,hle _ _ A,?_⟩;rw [hw _ (hr.lt hi A)];exact C.le hle
 · obtain ⟨x,g1,_⟩:=hr.live i o hi;obtain ⟨J,g2,_⟩:=hr.live j I E;rw [hle _ _ g1] at A; cases A;rw [hle _ _ g2] at C; cases C;exact hr.inj i j o I _ _ hi E g1 g2 he
theorem HD.early (s:Sq P G n ops rs F H) (A:HD P G T ops rs H r0 w0 h0 Y lo r w) (hT:(H ops.length).nx≤T) {i:Nat} {q:Rec} {e:aj} {l:List AV} {us:List ab} (E:rs[i]? =some q) (J:q.k= .a) (au:¬Y i) (hn:cj q.hb (.cells l e 0 .x)=some q.ha) (aF:∀ r,av r l=some us) (ak:dy l=true):
 r.le (r.ext q.hb.nx ⟨w.heap.size,0,0⟩)∧HD P G T ops rs H r0 w0 h0 (fun j=>Y j∨j=i) lo (r.ext q.hb.nx ⟨w.heap.size,0,0⟩) {w with heap:=w.heap.push<|.cells us.toArray e (0,0)} :=by
 obtain ⟨f1,f2,f3⟩:=s.fresh E J;have aE:i < ops.length:=by rw [← s.len]; exact (cy.1 E).1
 have ax:lo≤i:=by
  rcases dU i lo with h | h
  · exact absurd (A.la i q E J h) au
  · exact h
 have m1:=s.mono ax<|Nat.le_of_lt aE;have aG:=s.mono (i:=i+1) (k:=ops.length) ag<|aO _;have aB:r q.hb.nx=none:=by
  rw [f1];rcases A.new (H i).nx m1 ag with h | ⟨j,q',C,a2,a3,a4,a5⟩
  · exact h
  · have :=s.CD a3 a4 E J<|by rw [a5,f1]
    subst this; exact absurd C au
 have hle:=Rn.oH (r:=r) (i:=q.hb.nx) ⟨w.heap.size,0,0⟩ aB;have aw:∀ k,k < w.heap.size→({w with heap:=w.heap.push<|.cells us.toArray e (0,0)} :ah).heap[k]? =w.heap[k]? :=fun k J=>by
  simp only [rC]; rw [if_neg ag]
 have live:∀ j o x,(H lo).t.get j=some o→(r.ext q.hb.nx ⟨w.heap.size,0,0⟩) j=some x→r j=some x:=fun j o x ak ar=>by
  obtain ⟨Z,g1,_⟩:=A.hr.live j o ak;rw [hle _ _ g1] at ar; cases ar; exact g1
 refine ⟨hle,A.hi,fun j q' g1 g2=> ?_,fun j q' g1 g2 g3=> .inl (A.la j q' g1 g2 g3),A.hr.grow hle aw,fun V g1 g2=> ?_,fun j q' C a2 a3 a4=> ?_,fun j am I an x Z C a2 a3 a4 a5 aa L ac ad O ae=> ?_,Rn.le_trans A.le hle,Md.trans' A.md (Gj w _ fun _=>False) (fun _ _ h=>h.elim),fun g aC k J aA=> ?_,fun V aD=> ?_⟩
 · rw [← A.lc j q' g1 g2];refine ⟨fun h=> ?_,.inl⟩;rcases h with h | rfl
   · exact h
   · rw [E] at g1; cases g1; rw [J] at g2; cases g2
 · by_cases he:V=q.hb.nx
   · exact .inr ⟨i,q,.inr U,ax,E,J,he.symm⟩
   · rw [Rn.iI _ _ he];rcases A.new V g1 g2 with h | ⟨j,q',C,a2⟩
     · exact .inl h
     · exact .inr ⟨j,q',.inl C,a2⟩
 · rcases C with C | rfl
   · obtain ⟨k,g1,g2,g3,aq,ay,az,g4,g5,g6,g7⟩:=A.j6 j q' C a2 a3 a4;exact ⟨k,hle _ _ g1,g2,fun i o x hi al=>g3 i o x hi (live i o x hi al),aq,ay,az,g4,g5,g6,by rw [aw k (bI.1 g7).1]; exact g7⟩
   · rw [E] at a3; cases a3;refine ⟨w.heap.size,Rn.fI _ _ _,A.md.size,fun i o x hi al=> ?_,e,l,us,hn,aF,ak,by simp⟩;have :=A.hr.lt hi<|live i o x hi al;omega
 · have dx:∀ j I x,Y j→lo≤j→rs[j]? =some I→I.k= .a→(r.ext q.hb.nx ⟨w.heap.size,0,0⟩) I.hb.nx=some x→r I.hb.nx=some x∧x.ao < w.heap.size:=fun j I x M c2 c3 ai ap=>by
    obtain ⟨k,g1,g2,g3,aq,ay,az,g4,g5,g6,g7⟩:=A.j6 j I M c2 c3 ai;rw [hle _ _ g1] at ap; cases ap;exact ⟨g1,(bI.1 g7).1⟩
   rcases C with C | rfl
   · obtain ⟨M,c2⟩:=dx j I x C a2 a3 a4 ad;rcases a5 with a5 | rfl
     · obtain ⟨d1,d2⟩:=dx am an Z a5 aa L ac O;exact A.nr j am I an x Z C a2 a3 a4 a5 aa L ac M d1 ae
     · rw [E] at L; cases L;rw [Rn.fI] at O; cases O;simp only at ae; omega
   · rw [E] at a3; cases a3;rw [Rn.fI] at ad; cases ad;rcases a5 with a5 | rfl
     · obtain ⟨d1,d2⟩:=dx am an Z a5 aa L ac O;simp only at ae; omega
     · rfl
 · obtain ⟨j,o,x,M,c2,c3,ai⟩:=aA;exact A.dx g aC k J ⟨j,o,x,M,c2,live j o x c2 c3,ai⟩
 · rw [Rn.iI _ _ (by rw [f1]; omega)]; exact A.out V aD
theorem HD.Fi (s:Sq P G n ops rs F H) (A:HD P G T ops rs H r0 w0 h0 Y lo r w) (hT:(H ops.length).nx≤T) {q:Rec} (C:rs[lo]? =some q) (I:q.k= .c):HR P G r (H<|lo+1).nx (H lo) w:=by
 have M:lo < ops.length:=by rw [← s.len]; exact (cy.1 C).1
 have O:=s.mono (i:=lo+1) (k:=ops.length) ag<|aO _;refine ⟨A.hr.live,A.hr.inj,fun i E L=> ?_,A.hr.eF,A.hr.base⟩;rcases A.new i E ag with h | ⟨j,q',J,a2,a3,a4,a5⟩
 · exact h
 · exfalso;obtain ⟨f1,f2,f3⟩:=s.fresh a3 a4;have :j≠lo:=fun e=>by subst e; rw [C] at a3; cases a3; rw [I] at a4; cases a4
   have :=s.mono (i:=lo+1) (k:=j) ag<|by have :=(cy.1 a3).1; have :=s.len; omega
   rw [f1] at a5; omega
theorem HD.IL (s:Sq P G n ops rs F H) (A:HD P G T ops rs H r0 w0 h0 Y lo r w) {q:Rec} (ad:rs[lo]? =some q) (E:q.k= .c) {r':Rn} {w':ah} (st:St P G (H<|lo+1).nx r (H lo) w r' (H<|lo+1) w'):HD P G T ops rs H r0 w0 h0 (fun j=>Y j∨j=lo) (lo+1) r' w':=by
 have ay:lo < ops.length:=by rw [← s.len]; exact (cy.1 ad).1
 have au:=s.mono (i:=lo+1) (k:=ops.length) ag<|aO _;have ac:∀ j q',rs[j]? =some q'→q'.k= .a→j≠lo:=fun j q' M O e=>by subst e; rw [ad] at M; cases M; rw [E] at O; cases O
 have I:∀ j q',rs[j]? =some q'→q'.k= .a→(Y j∨j=lo)→Y j:=fun j q' M O an=>an.resolve_right<|ac j q' M O;refine ⟨(cy.1 ad).1,fun j q' g1 g2=> ?_,fun j q' g1 g2 g3=> ?_,⟨st.hr.live,st.hr.inj,fun i _ h=>absurd h (sc _),st.hr.eF,st.hr.base⟩,fun i g1 g2=> ?_,fun j q' C a2 a3 a4=> ?_,fun j U V Z x aA C a2 a3 a4 a5 ax J L ae ai al=> ?_,Rn.le_trans A.le st.le,Md.trans' A.md st.md (fun k E ab=>A.dx G (aO _) k E ab),fun g ak k E ab=>A.dx g ak k E (st.dx g ak k (k9 E A.md.size) ab),fun i hi=>(st.out i<|bX au hi).trans<|A.out i hi⟩
 · rw [A.lc j q' g1 g2]; omega
 · have :=ac j q' g1 g2;exact .inl<|A.la j q' g1 g2 ag
 · rw [st.out i g1];rcases A.new i (bX st.nx g1) g2 with h | ⟨j,q',C,a2,a3,a4,a5⟩
   · exact .inl h
   · have :=ac j q' a3 a4;exact .inr ⟨j,q',.inl C,ag,a3,a4,a5⟩
 · obtain ⟨k,g1,g2,g3,am,ar,aw,g4,g5,g6,g7⟩:=A.j6 j q' (I j q' a3 a4 C) ag a3 a4;have ap:=(bI.1 g7).1;refine ⟨k,st.le _ _ g1,g2,fun i o x hi aq hb=> ?_,am,ar,aw,g4,g5,g6,st.md.ao g7 fun ⟨i,o,x,_,c2,c3,aa⟩=>g3 i o x c2 c3 aa⟩;obtain ⟨i2,av,x2,_,c2,c3,aa⟩:=st.dx 0 (n6 _) k ap ⟨i,o,x,n6 _,hi,aq,hb⟩;exact g3 i2 av x2 c2 c3 aa
 · obtain ⟨k,g1,_⟩:=A.j6 j V (I j V a3 a4 C) ag a3 a4;obtain ⟨az,aj,_⟩:=A.j6 U Z (I U Z J L a5) ag J L;rw [st.le _ _ g1] at ae; cases ae;rw [st.le _ _ aj] at ai; cases ai;exact A.nr j U V Z _ _ (I j V a3 a4 C) ag a3 a4 (I U Z J L a5) ag J L g1 aj al
theorem HD.done (s:Sq P G n ops rs F H) (E:HD P G T ops rs H r0 w0 (H 0) Y lo r w) (hT:(H ops.length).nx≤T) (J:∀ j,j < ops.length→Y j):St P G T r0 (H 0) w0 r (H ops.length) w:=by
 have A:=E.vh s ops.length (by have :=E.hi; rw [s.len] at this; exact this) (by rw [s.len]; exact aO _) fun j q I C L=>⟨fun M=>by have :=(E.lc j q L M).1 (J j C); omega,fun _=>J j C⟩
 refine ⟨A.le,⟨A.hr.live,A.hr.inj,fun i I C=> ?_,A.hr.eF,A.hr.base⟩,s.mono (n6 _) (aO _),A.md,A.dx,A.out⟩;rcases A.new i I C with h | ⟨j,q',O,a2,a3,a4,a5⟩
 · exact h
 · have :=(cy.1 a3).1; have :=s.len; omega
theorem HD.start (s:Sq P G n ops rs F H) (hr:HR P G r0 T (H 0) w0) (A:∀ j,¬Y j):HD P G T ops rs H r0 w0 (H 0) Y 0 r0 w0:=
 ⟨n6 _,fun j q _ _=>⟨fun h=>absurd h (A j),fun h=>by omega⟩,fun j q _ _ h=>by omega,⟨hr.live,hr.inj,fun i _ h=>absurd h (sc _),hr.eF,hr.base⟩,fun i C E=> .inl (hr.new i C E),fun j q h=>absurd h (A j),fun j I q q' x J h=>absurd h (A j),Rn.le_refl _,Md.refl _ _,fun _ _ _ _ h=>h,fun _ _=>rfl⟩
end
end Go.Hb
namespace Go.Hb
section
variable {P:ak} {G n T:Nat} {ops:List aq} {rs:List Rec} {F:Nat→Tr AV} {H:Nat→Hp}
def Yl (listed:Array Bool) (j:Nat):Prop :=listed[j]? =some true
theorem Cx {listed:Array Bool} {i:Nat} (hi:i < listed.size):Yl (listed.setIfInBounds i true)=fun j=>Yl listed j∨j=i:=by
 funext j;apply propext;unfold Yl;rw [pb];by_cases e:i=j
 · subst e; simp [hi]
 · rw [if_neg e];exact ⟨.inl,fun h=>h.resolve_right fun x=>e x.symm⟩
theorem filter_le {p p':Nat→Bool} (h:∀ j,p' j=true→p j=true):∀ l:List Nat,(l.filter p').length≤(l.filter p).length
 | []=>aO _
 | a::l=>by
   have :=filter_le h l;simp only [rS];cases hp:p' a
   · cases p a
     · simpa using this
     · simp only [if_true,pd,if_false,bZ]; omega
   · rw [h a hp]; simp only [if_true,bZ]; omega
theorem filter_lt {p p':Nat→Bool} (h:∀ j,p' j=true→p j=true) {i:Nat} (hp:p i=true) (A:p' i=false):∀ {l:List Nat},i∈l→(l.filter p').length < (l.filter p).length
 | a::l,hm=>by
   simp only [rS];rcases db.1 hm with rfl | hm
   · rw [hp,A];have :=filter_le h l;simp only [if_true,pd,if_false,bZ]; omega
   · have :=filter_lt h hp A hm;cases hq:p' a
     · cases p a
       · simpa using this
       · simp only [if_true,pd,if_false,bZ]; omega
     · rw [h a hq]; simp only [if_true,bZ]; omega
def un (m:Nat) (listed:Array Bool):Nat:=((kj m).filter fun i=> !listed.getD i true).length
theorem IY {m:Nat} {listed:Array Bool} {i:Nat} (hm:i < m) (hi:listed[i]? =some false):un m (listed.setIfInBounds i true) < un m listed:=by
 have C:=(bI.1 hi).1;refine filter_lt (i:=i) (fun j A=> ?_) ?_ ?_ (BV.2 hm)
 · simp only [jy] at A ⊢;rw [gU,pb] at A;rw [gU];by_cases e:i=j
   · subst e; rw [if_pos rfl,if_pos C] at A; simp at A
   · rw [if_neg e] at A; exact A
 · simp [gU,hi]
 · simp [gU,C]
theorem G2 {listed:Array Bool} {i:Nat} (L:listed.size=ops.length) (h:i∈dB .any ops.toArray listed):∃ o,ops[i]? =some o∧listed[i]? =some false∧∀ e∈o.after.toList,c9 .any e=true→Yl listed e.on:=by
 unfold dB at h;rw [BU] at h;obtain ⟨J,A⟩:=h;simp only [BV,dP] at J;simp only [aU,jy,ki] at A;have C:ops[i]? =some ops[i]:=bW _;generalize ops[i]=o at C;rw [C] at A;simp only [dg,gZ] at A;have I:listed[i]? =some (listed[i]'ag):=mh _;refine ⟨o,C,?_,fun e he hb=> ?_⟩
 · have :=A.1;rw [gU,I] at this;rw [I]; simp at this; rw [this]
 · have E:=A.2;rw [AW] at E;have :=E e<|by simpa using he
   rw [hb] at this;simp only [Bool.not_true,Bool.false_or] at this;unfold Yl;rw [gU] at this;cases hx:listed[e.on]? with
   | none=>rw [hx] at this; simp at this
   | some b=>rw [hx] at this; simp at this; rw [this]
theorem zy (s:Sq P G n ops rs F H) {listed:Array Bool} (J:listed.size=ops.length) (h:dB .any ops.toArray listed= []):∀ j,j < ops.length→Yl listed j:=by
 intro j
 induction j using Nat.strongRecOn with
 | ind j ih=>
   intro E;have C:listed[j]? =some (listed[j]'ag):=mh _;cases hb:listed[j]'ag with
   | true =>unfold Yl; rw [C,hb]
   | false =>
     exfalso;have A:ops[j]? =some ops[j]:=bW _;generalize ops[j]=o at A;have :j∈dB .any ops.toArray listed:=by
      unfold dB;rw [BU];refine ⟨by simpa using E,?_⟩;simp only [aU,jy,ki,A,dg,gZ];refine ⟨by rw [gU,C,hb]; rfl,?_⟩;rw [AW];intro e he;cases hbd:c9 .any e
      · simp
      · have I:=s.Ei j o A e (by simpa using he) hbd;have :=ih e.on I ag;unfold Yl at this;rw [gU,this]; simp
     rw [h] at this; cases this
variable {r0:Rn} {w0:ah} {rr:Option Nat} {Dl:List Deferred} {Q:aK→Act→ah→Prop}
theorem Eh (s:Sq P G n ops rs F H) (bf:j4 P (gh ops []) rs 0 ops rs=true) (hT:(H ops.length).nx≤T) (aD:∀ r w σ,St P G T r0 (H 0) w0 r (H ops.length) w→dC r n (F ops.length) σ→Q .normal (act ⟨n,Dl,[],rr⟩ σ) w):
 ∀ (fuel:Nat) (listed:Array Bool) (lo:Nat) (fx:Tr AV) (σ:Nat→ab) (r:Rn) (w:ah),listed.size=ops.length→un ops.length listed≤fuel→mG ops (Yl listed)→lu ops rs (F 0) (Yl listed) fx→HD P G T ops rs H r0 w0 (H 0) (Yl listed) lo r w→
   (lo=0∨∃ j q,lo=j+1∧rs[j]? =some q∧q.k= .c∧Yl listed j)→dC r n fx σ→wpAnyIn (fe rr) 0 P .any ops.toArray Q fuel listed (act ⟨n,Dl,[],rr⟩ σ) w:=by
 have fin:∀ (listed:Array Bool) (lo:Nat) (fx:Tr AV) (σ:Nat→ab) (r:Rn) (w:ah),(∀ j,j < ops.length→Yl listed j)→lu ops rs (F 0) (Yl listed) fx→HD P G T ops rs H r0 w0 (H 0) (Yl listed) lo r w→dC r n fx σ→Q .normal (act ⟨n,Dl,[],rr⟩ σ) w:=by
  intro listed lo fx σ r w aN ad C O;refine aD r w σ (C.done s hT aN) fun i hi=> ?_;rw [← s.done aN ad i];exact O i hi
 intro fuel
 induction fuel with
 | zero=>
   intro listed lo fx σ r w ao a0 av ad C aF O;have aX:(kj ops.length).filter (fun i=> !listed.getD i true)= []:=List.length_eq_zero_iff.1<|Nat.le_zero.1 a0;have hr:dB .any ops.toArray listed= []:=by
    unfold dB;rw [List.filter_eq_nil_iff] at aX ⊢;intro a ha;have :=aX a<|by simpa using ha
    simp only [jy,Bool.not_eq_false,aU,not_and] at this ⊢;intro h; rw [this] at h; cases h
   exact ⟨hr,fin listed lo fx σ r w (zy s ao hr) ad C O⟩
 | succ fuel ih=>
   intro listed lo fx σ r w ao a0 av ad C aF O;refine ⟨fun hr=>fin listed lo fx σ r w (zy s ao hr) ad C O,fun i hi=> ?_⟩;obtain ⟨o,aa,aW,a7⟩:=G2 ao hi;have a9:=(cy.1 aa).1;have an:¬Yl listed i:=fun h=>by unfold Yl at h; rw [aW] at h; cases h
   obtain ⟨q,L⟩:=s.get aa;have aj:=s.line i o q aa L;have aw:mG ops (fun j=>Yl listed j∨j=i):=by
    intro j ar al ac e he hb;rcases al with al | rfl
    · exact .inl<|av j ar al ac e he hb
    · rw [aa] at ac; cases ac; exact .inl<|a7 e he hb
   have au:=Cx (listed:=listed) (i:=i) ag;have bl:(listed.setIfInBounds i true).size=ops.length:=by simpa using ao
   have bm:un ops.length (listed.setIfInBounds i true)≤fuel:=by have :=IY a9 aW; omega
   have aM:∀ t∈nv ops o,cC fx t=cC (F i) t:=fun t ap=>s.agree av aa an aw ad ap;obtain ⟨a1,aZ⟩:=HM aj.set fx;have bj:=ad.set aa L aZ;have next :∀ (aq:Nat) (r':Rn) (u:ab) (w':ah),r.le r'→den r' q.v=some u→HD P G T ops rs H r0 w0 (H 0) (fun j=>Yl listed j∨j=i) aq r' w'→(aq=0∨∃ j q,aq=j+1∧rs[j]? =some q∧q.k= .c∧(Yl listed j∨j=i))→
    wpAnyIn (fe rr) 0 P .any ops.toArray Q fuel (listed.setIfInBounds i true) ((act ⟨n,Dl,[],rr⟩ σ).put o.dst u) w':=by
    intro aq r' u w' hle hu aB ba;rw [dV];refine ih _ aq a1 _ r' w' bl bm ?_ ?_ ?_ ?_ (nD aZ (O.le hle) hu)
    · rw [au]; exact aw
    · rw [au]; exact bj
    · rw [au]; exact aB
    · rcases ba with h | ⟨j,q,I,J,Z,ai⟩
      · exact .inl h
      · exact .inr ⟨j,q,I,J,Z,by rw [au]; exact ai⟩
   have ax:lo=0∨∃ j q,lo=j+1∧rs[j]? =some q∧q.k= .c∧(Yl listed j∨j=i):=aF.imp id fun ⟨j,q,I,J,Z,ai⟩=>⟨j,q,I,J,Z,.inl ai⟩
   have aR:=E4 (n:=n) (ops:=ops) (g:=o.guard) (fr:=F i) (fx:=fx) fun t ap=>aM t<|List.mem_append_left _ ap;have bg:=zj (G:=G) (n:=n) (l:=eU o.op) (fr:=F i) (fx:=fx) fun t ap=>aM t<|List.mem_append_right _ ap;have bh:=zh bf;have ay:=bh.2 i o q aa L;rw [bS] at ay;show wpOpIn (fe rr) 0 P ops.toArray Q i _ _ w;unfold wpOpIn;rw [ki,aa];show if _ then _ else _
   rcases aj.run with ⟨aC,bp,M⟩ | ⟨aC,aV,bo,bv⟩
   · rw [if_pos (tu (N:=⟨n,Dl,[],rr⟩) (aR.trans aC) O)];have az:=qO (N:=⟨n,Dl,[],rr⟩) C.hr.eF O<|bg.trans bp;have bu:=aj.set;obtain ⟨d,op,ty,pos,af,g⟩:=o;simp only at az M next ay
     cases M with
     | p E V aK=>
       have aH:∀ c,op≠.defer c:=fun c e=>by subst e; simp [lR] at V
       obtain ⟨u,I,J⟩:=zl (N:=⟨n,Dl,[],rr⟩) (dst:=d) (ty:=ty) (pos :=pos) (af:=af) (g:=g) V az;exact rp aH (.inl<|J w)<|next lo r u w (Rn.le_refl r) I (C.skip L (by rw [E]; intro h; cases h)<|by rw [E]; intro h; cases h) ax
     | l E V aK=>
       have aH:∀ c,op≠.defer c:=fun c e=>by subst e; simp [im] at V
       have aA:=zg<|ay.1 E;have bb:im P op q.xs (H lo)=some q.v:=by
        rcases dU i lo with aG | aS
        · rcases aF with h0 | ⟨j,A,I,J,Z,ai⟩
          · omega
          · have am:=(aA j A J).1 Z;rw [bS] at am;have aT:¬j < i:=ag;have bw:j≠i:=fun e=>by subst e; exact an ai
            rcases am.2 aT with hb | hb
            · exact absurd ((og av hb).2 ai) an
            · obtain ⟨ar,ac⟩:=s.get' J;rw [(s.line j ar A ac J).ha,← I] at hb;exact hb
        ·
         have aL:∀ (m:Nat),lo≤m→m≤i→(∀ j A,lo≤j→j < m→rs[j]? =some A→A.k≠.c)→H m=H lo:=by
          intro m
          induction m with
          | zero=>intro h _ _; have :lo=0:=ag
                  subst this; rfl
          | succ m aJ=>
            intro I J Z;rcases dU m lo with aG | hle
            · have :lo=m+1:=ag;subst this; rfl
            · have hm:=aJ hle ag fun j A a b c=>Z j A a ag c;have aY:ops[m]? =some (ops[m]'ag):=bW _;obtain ⟨ak,aI⟩:=s.get aY;have aE:=s.line m _ ak aY aI;have bd:=Z m ak hle (kn _) aI;have bc:ak.k≠.a:=fun ha=>by
               have :=(aA m ak aI).2 ha;omega
              have he:ak.ha=ak.hb:=by
               rcases aE.run with ⟨_,_,M⟩ | ⟨_,_,_,M⟩
               · cases M with
                 | p _ _ h=>exact h
                 | l _ _ h=>exact h
                 | a e l h _ _ _ _=>exact absurd h bc
                 | c h _=>exact absurd h bd
               · exact M
              rw [← aE.ha,he,aE.hb,hm]
         by_cases hex:∃ j A,lo≤j∧j < i∧rs[j]? =some A∧A.k= .c
         ·
          have first :∀ (m:Nat),lo≤m→m≤i→(∃ j A,lo≤j∧j < m∧rs[j]? =some A∧A.k= .c)→∃ j A,lo≤j∧j < i∧rs[j]? =some A∧A.k= .c∧∀ ae q',lo≤ae→ae < j→rs[ae]? =some q'→q'.k≠.c:=by
           intro m
           induction m with
           | zero=>rintro _ _ ⟨j,_,_,h,_⟩; omega
           | succ m aJ=>
             intro I J ⟨j,A,g1,g2,g3,g4⟩;by_cases hex:∃ j A,lo≤j∧j < m∧rs[j]? =some A∧A.k= .c
             · obtain ⟨ae,bt,a2,a3,a4,a5⟩:=hex;exact aJ ag ag ⟨ae,bt,a2,a3,a4,a5⟩
             · refine ⟨j,A,g1,ag,g3,g4,fun ae q' a b c d=>hex ⟨ae,q',a,ag,c,d⟩⟩
          obtain ⟨j,A,g1,g2,g3,g4,g5⟩:=first i aS (aO _) hex
          have am:=(aA j A g3).1 g4;rw [bS] at am;rcases am.1 g2 with hb | hb
          · rcases (og aw hb).2 (.inr rfl) with h | h
            · have :=(C.lc j A g3 g4).1 h; omega
            · omega
          · obtain ⟨ar,ac⟩:=s.get' g3;rw [(s.line j ar A ac g3).hb,aL j g1 ag g5] at hb;exact hb
         · have :=aL i aS (aO _) fun j A a b c d=>hex ⟨j,A,a,b,c,d⟩;rw [← this,← aj.hb]; exact V
       obtain ⟨u,I,J⟩:=zk (N:=⟨n,Dl,[],rr⟩) (dst:=d) (ty:=ty) (pos :=pos) (af:=af) (g:=g) C.hr bb az;exact rp aH (.inl J)<|next lo r u w (Rn.le_refl r) I (C.skip L (by rw [E]; intro h; cases h)<|by rw [E]; intro h; cases h) ax
     | a e l E V aK bq br=>
       subst V;obtain ⟨I,us,bn,bi⟩:=CE aK;obtain ⟨hle,aB⟩:=C.early s hT L E an bq bn I;refine rp (fun c e=>by cases e) (.inl<|bi ⟨n,Dl,[],rr⟩ σ d ty pos af g w)<|next lo _ _ _ hle ?_ aB ax
       rw [br];simp only [den,Rn.fI,bS]
     | c E V=>
       have a6:=zf<|ay.2 E;have aG:lo≤i:=by
        rcases dU i lo with h | h
        · exact absurd ((C.lc i q L E).2 h) an
        · exact h
       have aP:∀ j A,j < i→rs[j]? =some A→(A.k= .c∨A.k= .a)→Yl listed j:=fun j A aT al aD=>by
        have hb:=a6 j A al aD ag;rw [bS] at hb;rcases (og aw hb).2 (.inr rfl) with h | h
        · exact h
        · omega
       have aQ:=C.vh s i aG (by rw [s.len]; omega) fun j A a b c=>⟨fun M=>by have :=(C.lc j A c M).1 (aP j A b c<|.inl M); omega,fun ha=>aP j A b c<|.inr ha⟩
       have a8:=aQ.Fi s hT L E;obtain ⟨bx,s1⟩:=V;rw [aj.hb,aj.ha] at s1;refine s1 _ r w ⟨n,Dl,[],rr⟩ σ d ty pos af g _ Q (aO _) a8 az fun r' u w' hu bu=> ?_;exact next (i+1) r' u w' bu.le hu (aQ.IL s L E bu)<|.inr ⟨i,q,U,L,E,.inr U⟩
   · rw [if_neg (by rw [yn (N:=⟨n,Dl,[],rr⟩) (aR.trans aC) O]; simp)];refine ⟨fun f _=>je _ f,next lo r undef w (Rn.le_refl r) (by rw [bo]; exact gI r) (C.skip L (by rw [aV]; intro h; cases h)<|by rw [aV]; intro h; cases h) ax⟩
theorem Ef {X:Xt} {ih:Tk→Rs} (ac:Good P G ih) (ad:gH P G X) (ab:e7 P) (ae:∀ f args h v C,ih (.cl f args h)= .rv v C→∃ fn c,P.funcs[f]? =some fn∧fn.body=some c) (hm:P.follows .mixedOrders=true):sf P G X ih:=by
 intro rd n id ops fr D h;show match p6 P G X ih n ops fr D h with
  | .cd e aa I C=>cQ P G rd n (fun rr Q a w=>(A6 id ⟨ops⟩ true).wpIn (fe rr) 0 P Q a w) fr D h e aa I C
  | .no=>True
  | _=>False
 have ai:p6 P G X ih n ops fr D h=cond (mO ops (gh ops []) 0 ops) (match j7 P G X ih n ops (gh ops []) 0 none ops fr h with
  | some (rs,fr,h)=>cond (j4 P (gh ops []) rs 0 ops rs) (.cd .bE fr D h) .no
  | none=> .no) .no:=rfl
 rw [ai];cases hc1:mO ops (gh ops []) 0 ops
 · exact trivial
 · rw [cond_true];cases hrec:j7 P G X ih n ops (gh ops []) 0 none ops fr h with
   | none=>exact trivial
   | some x=>
     obtain ⟨rs,ap,aq⟩:=x;simp only;cases hok:j4 P (gh ops []) rs 0 ops rs
     · exact trivial
     · rw [cond_true];obtain ⟨F,H,J,L,M,O,V,Z⟩:=zz ac ad ab ae hrec;have s:Sq P G n ops rs F H:=⟨V,Z,fun i j an ao hi A ar=>by
        have :=(sN hc1 i an hi).2 j ao A ag;rwa [bS] at this,fun i o am=>by
        have :=xL (sN hc1 i o am).1;rwa [bS] at this⟩
       subst J; subst L; subst M; subst O;refine ⟨s.mono (n6 _) (aO _),fun T r w σ Dl rr Q hT hr aj ah au al=> ?_⟩;refine wpIn_region_any hm ?_;have E:∀ j,¬Yl (Array.replicate ops.length false) j:=fun j A=>by
        unfold Yl at A;rw [Array.getElem?_replicate] at A;split at A <;> cases A
       refine Eh s hok hT (r0:=r) (w0:=w.drew) (fun r' w' σ' st ak=>al r' w' σ' Dl st.drew ak<|ly st.le ah) _ _ 0 (F 0) σ r w.drew (by simp) ?_ (fun j o A=>absurd A<|E j) (fun t=> .inr ⟨fun j o A=>absurd A (E j),U⟩) (HD.start s hr.drew E) (.inl U) aj;unfold un;exact bX (List.length_filter_le _ _)<|by simp
theorem ED {X:Xt} (C:gH P G X) (A:e7 P) (hm:P.follows .mixedOrders=true) (k:Nat):Good P G (gk P G X k):=xW C A (fun ih E I=>Ef E C A I hm) k
end
end Go.Hb
namespace Go.Hb
section
variable {P:ak} {G:Nat} {X:Xt} {w:ah}
theorem JI {f:Nat} (J:∀ v w,(callFunc f #[v]).run P w= .ok (.value v) w) {xs:List AV} {h A:Hp} {v:AV} (he:vw xs h=some (v,A)):h.nx≤A.nx∧∀ (T:Nat) (r:Rn) (w:ah) (us:List ab),A.nx≤T→HR P G r T h w→av r xs=some us→
 ∃ r' u w',den r' v=some u∧(callFunc f us.toArray).run P w= .ok (.value u) w'∧St P G T r h w r' A w':=by
 unfold vw at he;split at he
 · cases he;refine ⟨aO _,fun T r w us hT hr I=> ?_⟩;obtain ⟨u,L,rfl,C,E⟩:=dv I;obtain rfl :=jc E;exact ⟨r,u,w,C,J u w,St.refl hr⟩
 · cases he
theorem yt {c:Nat} (E:c < 256):∀ (l:List UInt8) (i:Nat),oC c l i=if l.idxOf (ee c) < l.length then jE (i+l.idxOf (ee c)) else -1
 | [],i=>by simp [oC]
 | b::l,i=>by
   have I:(ee c).toNat=c:=by simp; omega
   simp only [oC,List.idxOf_cons];cases hb:aB b.toNat c
   · have J:(b==ee c)=false :=by
      cases A:(b==ee c)
      · rfl
      · have :=eq_of_beq A;subst this;rw [I] at hb; simp at hb
     rw [J];simp only [cond_false,bZ,yt E l (i+1)];by_cases C:l.idxOf (ee c) < l.length
     · rw [if_pos C,if_pos ag];congr 1; omega
     · rw [if_neg C,if_neg ag]
   · have :=bF hb;have A:(b==ee c)=true :=by
      rw [← this]; simp
     rw [A];simp
theorem JJ {f:Nat} (V:∀ l c w,(callFunc f #[str l,.int .u8 (Cm c)]).run P w= .ok (.value<|.int .i64<|jV c l) w) {xs:List AV} {h A:Hp} {v:AV} (he:vx xs h=some (v,A)):h.nx≤A.nx∧∀ (T:Nat) (r:Rn) (w:ah) (us:List ab),A.nx≤T→HR P G r T h w→av r xs=some us→
 ∃ r' u w',den r' v=some u∧(callFunc f us.toArray).run P w= .ok (.value u) w'∧St P G T r h w r' A w':=by
 unfold vx at he;split at he
 · rename_i l c;replace he:=aF he; obtain ⟨C,he⟩:=he;have C:=bQ.1 C;split at he
   · rename_i ad hm;cases he;refine ⟨aO _,fun T r w us hT hr U=> ?_⟩;obtain ⟨u,aa,rfl,I,J⟩:=dv U;obtain ⟨Z,ac,rfl,L,M⟩:=dv J;obtain rfl :=jc M;obtain rfl :=fH I;obtain rfl :=bY L;have O:(ee c).toNat=c:=by simp; omega
     have E:=V l (ee c) w;rw [O] at E;refine ⟨r,_,w,?_,E,St.refl hr⟩;rw [yt C l 0] at hm;simp only [bS] at hm;have :jV (ee c) l=if l.idxOf (ee c) < l.length then jE (l.idxOf<|ee c) else -1:=rfl
     rw [← this] at hm;rw [eH] at hm;cases hm;simp only [den]
   · cases he
 · cases he
def x2 (a b:Nat):Xt:=fun f=>cond (aB f a) (some vw)<|cond (aB f b) (some vx) none
theorem JH {a b:Nat} (C:∀ v w,(callFunc a #[v]).run P w= .ok (.value v) w) (E:∀ l c w,(callFunc b #[str l,.int .u8 (Cm c)]).run P w= .ok (.value<|.int .i64<|jV c l) w):gH P G (x2 a b):=by
 intro f e he xs h v I A;unfold x2 at he;cases ha:aB f a
 · rw [ha] at he;simp only [cond_false] at he;cases hb:aB f b
   · rw [hb] at he; cases he
   · rw [hb] at he;cases he;have :=bF hb;subst this;exact JJ E A
 · rw [ha] at he;cases he;have :=bF ha;subst this;exact JI C A
theorem Dw (h:P.funcs.toList.all (fun fn=> !(fn.name== "runtime.NumGoroutine") || fn.body.isNone)=true):e7 P:=by
 intro f fn c A hb;have hm:fn∈P.funcs.toList:=by
  rw [bI] at A;obtain ⟨C,rfl⟩:=A;simp
 have :=List.all_eq_true.1 h fn hm;rw [hb] at this;simp only [Option.isNone_some,Bool.or_false,jy] at this;exact sL A this<|by rw [hb]; rfl
theorem td {k f:Nat} {args:List AV} {h A:Hp} {v:AV} (E:gH P G X) (C:e7 P) (hm:P.follows .mixedOrders=true) (he:gk P G X k (.cl f args h)= .rv v A):wu P G f args h v A:=by
 have :=ED E C hm k<|.cl f args h;rw [he] at this;exact this
def sH (G T:Nat) (E:Nat→Nat):List Nat→Tr AO
 | []=> .nil
 | g::l=>(sH G T E l).set g<|.cells [.gn T (.ptr (G+g) 0)] (E g) 0 .x
theorem nC {T:Nat} {E:Nat→Nat} :∀ {l:List Nat},(∀ g∈l,au g bO=true)→∀ {i:Nat} {o:AO},(sH G T E l).get i=some o→i∈l∧o= .cells [.gn T (.ptr (G+i) 0)] (E i) 0 .x
 | [],_,i,o,h=>by simp only [sH] at h; cases h
 | g::l,hl,i,o,h=>by
   simp only [sH] at h;rw [Tr.kC _ _ _ _ (hl g<|ix)] at h;split at h
   · rename_i e; subst e; cases h; exact ⟨ix,rfl⟩
   · obtain ⟨A,C⟩:=nC (fun g I=>hl g<|iV _ I) h;exact ⟨iV _ A,C⟩
def cz (T:Nat) (l:List Nat) (w:ah):Prop := ∀ g,g∈l→∃ (a:Addr) (e:Nat),a.spot=none∧w.heap[g]? =some (.cells #[.iface T (.pointer<|some a)] e (0,0))
theorem cz.mono {T:Nat} {l:List Nat} {w w':ah} {F:Nat→Prop} (h:cz T l w) (hm:Md F w w') (I:∀ g∈l,¬F g):cz T l w':=fun g A=>by
 obtain ⟨a,e,C,E⟩:=h g A;exact ⟨a,e,C,hm.ao E<|I g A⟩
theorem HR.q6 {T:Nat} {l:List Nat} (J:∀ g∈l,g < G) (ae:G≤1000) (h:cz T l w):∃ (E:Nat→Nat) (r:Rn),∀ U,HR P G r U ⟨sH G T E l,G+G⟩ w:=by
 classical
 let A:Nat→Addr:=fun g=>if C:g∈l then (h g C).choose else ⟨0,0,none⟩
 let E:Nat→Nat:=fun g=>if C:g∈l then (h g C).choose_spec.choose else 0
 have aa:∀ g,g∈l→(A g).spot=none∧w.heap[g]? =some (.cells #[.iface T (.pointer<|some<|A g)] (E g) (0,0)):=fun g C=>by
  have :=(h g C).choose_spec.choose_spec;simp only [A,E,dif_pos C];exact this
 let r:Rn:=fun i=>if i < G then some ⟨i,0,0⟩ else if i < G+G then some ⟨(A<|i - G).block,(A<|i - G).off,0⟩ else none
 have L:∀ i,i < G→r i=some ⟨i,0,0⟩:=fun i hi=>if_pos hi;have ad:∀ g,g < G→r (G+g)=some ⟨(A g).block,(A g).off,0⟩:=fun g C=>by
  show (if G+g < G then _ else _)=_;rw [if_neg ag,if_pos ag,show G+g - G=g from by omega]
 have O:∀ g∈l,au g bO=true :=fun g C=>bQ.2 (by have :=J g C; have :bO=1048574:=rfl; omega);refine ⟨E,r,fun U=>⟨fun i o hi=> ?_,fun i j o ah q q' hi ab I M he=> ?_,fun i I M=> ?_,fun g C=>⟨0,L g C⟩,Nat.le_add_right _ _⟩⟩
 · obtain ⟨hm,rfl⟩:=nC O hi;have V:=J i hm;obtain ⟨Z,a2⟩:=aa i hm;refine ⟨⟨i,0,0⟩,L i V,?_⟩;rw [a2];refine uj (us:= [.iface T (.pointer<|some<|A i)]) ?_ rfl;have e:(⟨(A i).block,(A i).off,none⟩:Addr)=A i:=by
    have :A i=⟨(A i).block,(A i).off,(A i).spot⟩:=rfl;rw [this,Z]
   simp only [av,den,ad i V,iX,e]
 · obtain ⟨hm,rfl⟩:=nC O hi;obtain ⟨ac,rfl⟩:=nC O ab;rw [L i (J i hm)] at I;rw [L j (J j ac)] at M;cases I; cases M;exact he
 · show (if i < G then _ else _)=_;simp only at I;rw [if_neg ag,if_neg ag]
theorem St.wk {T C:Nat} {E:Nat→Nat} {l:List Nat} {r r':Rn} {I:Hp} {w':ah} (A:∀ g∈l,g < G) (U:G≤1000) (st:St P G C r ⟨sH G T E l,G+G⟩ w r' I w'):Wk w w':=by
 refine ⟨st.md.os,st.md.output,st.md.size,fun k M _=>st.md.cD k M fun ⟨i,o,q,O,J,_⟩=> ?_⟩;obtain ⟨hm,_⟩:=nC (fun g L=>bQ.2 (by have :=A g L; have :bO=1048574:=rfl; omega)) J;have :=A i hm;omega
theorem HR.cD {T:Nat} {r:Rn} {h:Hp} {F:Nat→Prop} {w':ah} (hr:HR P G r T h w) (hm:Md F w w') (E:∀ i o q,h.t.get i=some o→r i=some q→¬F q.ao):HR P G r T h w':=by
 refine ⟨fun i o hi=> ?_,hr.inj,hr.new,hr.eF,hr.base⟩;obtain ⟨q,A,C⟩:=hr.live i o hi;refine ⟨q,A,?_⟩;rw [hm.cD _ (hr.lt hi A) (E i o q hi A)];exact C
end
end Go.Hb
end
