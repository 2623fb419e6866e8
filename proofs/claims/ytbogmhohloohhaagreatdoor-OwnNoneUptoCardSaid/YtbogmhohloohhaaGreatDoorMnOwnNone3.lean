/-
  Walks and plain laws that the law rests on, laid together. No conditions but those that each theorem names.
-/
import Derived.Test.YtbogmhohloohhaaGreatDoorMnOwnNone2
set_option linter.unusedVariables false
open Array renaming all_eq_true_iff_forall_mem→vq,foldl_toList→vr,getD_eq_getD_getElem?→eW,getElem?_eq_getElem→jK,getElem?_eq_some_iff→bu,getElem?_modify→mh,getElem?_push→oh,getElem?_setIfInBounds→kR,getElem?_setIfInBounds_ne→ig,getElem?_setIfInBounds_self_of_lt→iO,getElem?_toList→kS,length_toList→jL,range→ij,toList_inj→vv,toList_map→gy,toList_modify→mj,toList_push→oo
open BitVec renaming ofInt→iP
open Bool renaming and_eq_true→aD,false_eq_true→ml,noConfusion→cz,not_eq_true'→gz,or_eq_true→jM,or_eq_true_iff→vw
open Go.Builtin renaming append_→fM,clear_→ot,delete_→kV,firstCells→ou,zeroCells→vy
open Go.Calls renaming mono→ik
open Go renaming Code→bd,Edge→bD,Exit→aE,IntKind→aH,Oper→an,Operand→ax,Program→aj,TypeId→ai,Value→ab,World→ae
open Go.Code renaming region→vA
open Go.Deferred renaming ofValue→kW
open Go.Exit renaming inBlock→vF
open Go.Fence renaming wide→dt
open Go.FrameMode renaming noConfusion→vG
open Go.Instr renaming alloc→ov,buildSlice→ow,fill→fN,keyThatStays→mo,mapUpdate→kX
open Go.Lib renaming run_unsafeString_none→vQ
open Go.Op renaming equal→jS,equalIn→eI
open Go.Oper renaming semAt_eq→mw,uponIn→k9
open Go.Region renaming binds→cm,ready→cT,wanted→gE
open Go.Result renaming andThen_ok→dV
open Go.Sem renaming run→fO,run_bind→ek,run_pure→fP
open Go.World renaming freeze→il,putObj→vX,putObj_heap_other→iT,putObj_heap_same→mA
open Int renaming natCast_nonneg→dE,natCast_pos→vY,ofNat→gF,toNat_natCast→vZ
open List.Sublist renaming map→rb
open List renaming append_assoc→oD,eq_nil_of_length_eq_zero→im,ext_getElem?→wu,filter_cons→mB,flatten_cons→lg,getD_eq_getElem?_getD→iU,getElem?_append_left→fy,getElem?_append_right→fA,getElem?_cons_succ→eY,getElem?_cons_zero→fB,getElem?_drop→gG,getElem?_eq_getElem→cK,getElem?_eq_none→oF,getElem?_eq_some_iff→bZ,getElem?_map→eZ,getElem?_take→fR,getElem?_toArray→jX,length→wx,length_append→cn,length_cons→cr,length_drop→lh,length_eq_one_iff→mC,length_nil→wA,length_take→dW,mapM_cons→wD,map_append→mD,map_cons→cx,map_map→oG,mem_append→dL,mem_cons→cU,mem_cons_of_mem→gH,mem_cons_self→fS,mem_filter→wG,mem_map→dM,mem_of_getElem?→gI,mem_of_mem_drop→oI,mem_of_mem_take→oJ,mem_range→wH,nodup_cons→jZ,range→j0,range'→iV,replicate→iW,replicate_succ→wN,size_toArray→c7
open List.cons renaming injEq→fQ
open Nat renaming add_assoc→eo,add_comm→wT,add_mul→iX,add_zero→ir,beq→av,ble→aA,ble_eq→mE,ble_eq_true_of_le→rn,blt→aq,eq_of_beq_eq_true→aW,le_of_ble_eq_true→aP,le_refl→aI,le_succ→iu,le_trans→bK,lt_of_lt_of_le→iY,lt_or_ge→e7,lt_succ_iff_lt_or_eq→wW,lt_succ_self→iv,lt_trichotomy→mF,mul_le_mul_right→rp,not_lt_zero→oL,pos_of_ne_zero→wZ,pow_succ→w9,succ_le_iff→mG,succ_pos→xa,testBit→mH,zero_add→b9,zero_le→lk,zero_mul→mI
open Option renaming getD_none→ll,getD_some→e8,map_eq_some_iff→eJ,map_some→cM
open Option.some renaming inj→di,injEq→aQ
open Prod renaming fst→bC,snd→j1
open Prod.mk renaming injEq→oM
open UInt8 renaming lt_iff_toNat_lt→xf,ofNat→dF,toNat→xg,toNat_inj→xh
open Go.Proofs.Tryz
open Go.RowKit

section
namespace Go.Hb
inductive Tr (α:Type) | nil | nd (l:Tr α) (v:Option α) (r:Tr α)
def Tr.get {α:Type} :Tr α→Nat→Option α
 | .nil,_=>none
 | .nd _ v _,0=>v
 | .nd l _ r,n+1=>cond (av (n % 2) 0) (l.get<|n / 2)<|r.get<|n / 2
def Tr.put {α:Type} (v:Option α):Nat→Tr α→Nat→Tr α
 | 0,t,_=>t
 | _+1,.nil,0=> .nd .nil v .nil
 | _+1,.nd l _ r,0=> .nd l v r
 | k+1,.nil,n+1=>cond (av (n % 2) 0) (.nd (Tr.put v k .nil<|n / 2) none .nil)<|.nd .nil none<|Tr.put v k .nil<|n / 2
 | k+1,.nd l u r,n+1=>cond (av (n % 2) 0) (.nd (Tr.put v k l<|n / 2) u r)<|.nd l u<|Tr.put v k r<|n / 2
theorem Tr.get_nil {α:Type} (n:Nat):(Tr.nil:Tr α).get n=none:=by unfold Tr.get; rfl
theorem uW {n:Nat} {b:Bool} (h:av (n % 2) 0=b):n % 2=cond b 0 1:=by
 cases b
 · have :n % 2≠0:=fun e=>by rw [e] at h; cases h
   simp only [cond_false]; omega
 · exact aW h
theorem nZ {n m:Nat} {b:Bool} (hn:av (n % 2) 0=b) (hm:av (m % 2) 0=b) (e:m / 2=n / 2):m+1=n+1:=by
 have :=uW hn;have :=uW hm;omega
theorem Tr.kE {α:Type} (v:Option α):∀ (k:Nat) (t:Tr α) (n m:Nat),m≠n→(Tr.put v k t n).get m=t.get m
 | 0,t,n,m,_=>by simp [Tr.put]
 | k+1,.nil,0,m,h=>by
   obtain ⟨m,rfl⟩:∃ j,m=j+1:=⟨m - 1,ag⟩
   simp [Tr.put,Tr.get]
 | k+1,.nd l u r,0,m,h=>by
   obtain ⟨m,rfl⟩:∃ j,m=j+1:=⟨m - 1,ag⟩
   simp [Tr.put,Tr.get]
 | k+1,.nil,n+1,0,h=>by
   simp only [Tr.put];cases av (n % 2) 0 <;> rfl
 | k+1,.nd l u r,n+1,0,h=>by
   simp only [Tr.put];cases av (n % 2) 0 <;> rfl
 | k+1,.nil,n+1,m+1,h=>by
   simp only [Tr.put];cases hn:av (n % 2) 0 <;> cases hm:av (m % 2) 0 <;> simp only [cond_true,cond_false,Tr.get,hm]
   · rw [Tr.kE v k .nil _ _ (fun e=>h<|nZ hn hm e)]; rfl
   · rw [Tr.kE v k .nil _ _ (fun e=>h<|nZ hn hm e)]; rfl
 | k+1,.nd l u r,n+1,m+1,h=>by
   simp only [Tr.put];cases hn:av (n % 2) 0 <;> cases hm:av (m % 2) 0 <;> simp only [cond_true,cond_false,Tr.get,hm]
   · rw [Tr.kE v k r _ _ (fun e=>h<|nZ hn hm e)]
   · rw [Tr.kE v k l _ _ (fun e=>h<|nZ hn hm e)]
theorem Tr.put_eq {α:Type} (v:Option α):∀ (k:Nat) (t:Tr α) (n:Nat),n+1 < 2 ^ k→(Tr.put v k t n).get n=v
 | 0,t,n,h=>ag
 | k+1,.nil,0,_=>by simp [Tr.put,Tr.get]
 | k+1,.nd l u r,0,_=>by simp [Tr.put,Tr.get]
 | k+1,.nil,n+1,h=>by
   have A:n / 2 +1 < 2 ^ k:=by rw [w9] at h; omega
   simp only [Tr.put];cases hn:av (n % 2) 0 <;> simp only [cond_true,cond_false,Tr.get,hn] <;> exact Tr.put_eq v k _ _ A
 | k+1,.nd l u r,n+1,h=>by
   have A:n / 2 +1 < 2 ^ k:=by rw [w9] at h; omega
   simp only [Tr.put];cases hn:av (n % 2) 0 <;> simp only [cond_true,cond_false,Tr.get,hn] <;> exact Tr.put_eq v k _ _ A
def bp:Nat:=1048574
def Tr.set {α:Type} (t:Tr α) (n:Nat) (v:α):Tr α:=Tr.put (some v) 20 t n
def Tr.del {α:Type} (t:Tr α) (n:Nat):Tr α:=Tr.put none 20 t n
theorem Tr.iD {α:Type} (t:Tr α) (n m:Nat) (v:α) (h:aq n bp=true):(t.set n v).get m=if m=n then some v else t.get m:=by
 have A:n < 1048574:=by simpa [bp,aq,mE,mG] using h
 unfold Tr.set;split
 · rename_i e; subst e; exact Tr.put_eq _ _ _ _ ag
 · rename_i e; exact Tr.kE _ _ _ _ _ e
theorem Tr.kn {α:Type} (t:Tr α) (n m:Nat) (h:aq n bp=true):(t.del n).get m=if m=n then none else t.get m:=by
 have A:n < 1048574:=by simpa [bp,aq,mE,mG] using h
 unfold Tr.del;split
 · rename_i e; subst e; exact Tr.put_eq _ _ _ _ ag
 · rename_i e; exact Tr.kE _ _ _ _ _ e
inductive AV
 | bool (b:Bool) | int (k:aH) (n:Int) | str (l:List UInt8)
 | ptr (b o:Nat) | ec
 | sl (b o n c:Nat) (x:Bool)
 | cW
 | map (b:Nat) | gn
 | fn (f:Nat) (a c:List AV) | dU (l:Nat) | eP
 | eE (t:Nat) (v:AV) | cQ
 | agg (l:List AV) | bo (l:List AV)
structure Loc where
 ak:Nat
 sh:Nat
 room:Nat
abbrev Rn:=Nat→Option Loc
def Rn.le (r s:Rn):Prop := ∀ i x,r i=some x→s i=some x
theorem Rn.le_refl (r:Rn):r.le r:=fun _ _ h=>h
theorem Rn.le_trans {r s t:Rn} (h:r.le s) (A:s.le t):r.le t:=fun i x C=>A i x<|h i x C
mutual
def den (r:Rn):AV→Option ab
 | .bool b=>some<|.bool b
 | .int k n=>some<|.int k n
 | .str l=>some<|Hb.str l
 | .ptr b o=>match r b with
   | some q=>some<|.pointer<|some ⟨q.ak,q.sh+o,none⟩
   | none=>none
 | .ec=>some<|.pointer none
 | .sl b o n c x=>match r b with
   | some q=>cond x (cond (aA n c) (some<|.slice (some ⟨q.ak,q.sh+o,none⟩) n c) none)<|cond (aA (c+n) q.room) (some<|.slice (some ⟨q.ak,q.sh+o,none⟩) n<|q.room - c) none
   | none=>none
 | .cW=>some<|.slice none 0 0
 | .map b=>match r b with
   | some q=>some<|.map<|some q.ak
   | none=>none
 | .gn=>some<|.map none
 | .fn f a c=>match ar r a,ar r c with
   | some a,some c=>some<|.func (.func f) a.toArray c.toArray
   | _,_=>none
 | .dU l=>match r l with
   | some q=>some<|.func (.yield q.ak) #[] #[]
   | none=>none
 | .eP=>some .nilFunc
 | .eE t v=>match den r v with
   | some v=>some<|.iface t v
   | none=>none
 | .cQ=>some .nilIface
 | .agg l=>match ar r l with
   | some l=>some<|.agg l.toArray
   | none=>none
 | .bo l=>match ar r l with
   | some l=>some<|.tuple l.toArray
   | none=>none
def ar (r:Rn):List AV→Option (List ab)
 | []=>some []
 | v::l=>match den r v,ar r l with
   | some v,some l=>some (v::l)
   | _,_=>none
end
mutual
theorem gO {r s:Rn} (h:r.le s):∀ {v:AV} {u:ab},den r v=some u→den s v=some u
 | .bool _,_,hu | .int _ _,_,hu | .str _,_,hu | .ec,_,hu | .cW,_,hu | .gn,_,hu | .eP,_,hu | .cQ,_,hu=>by
   simp only [den] at hu ⊢; exact hu
 | .ptr b o,u,hu | .sl b o n c x,u,hu | .map b,u,hu | .dU b,u,hu=>by
   simp only [den] at hu ⊢;cases hb:r b with
   | none=>rw [hb] at hu; cases hu
   | some q=>rw [hb] at hu; rw [h b q hb]; exact hu
 | .fn f a c,u,hu=>by
   simp only [den] at hu ⊢;cases ha:ar r a with
   | none=>rw [ha] at hu; cases hu
   | some A=>
     cases hc:ar r c with
     | none=>rw [ha,hc] at hu; cases hu
     | some c'=>rw [ha,hc] at hu; rw [ew h ha,ew h hc]; exact hu
 | .eE t v,u,hu=>by
   simp only [den] at hu ⊢;cases hv:den r v with
   | none=>rw [hv] at hu; cases hu
   | some E=>rw [hv] at hu; rw [gO h hv]; exact hu
 | .agg l,u,hu | .bo l,u,hu=>by
   simp only [den] at hu ⊢;cases hl:ar r l with
   | none=>rw [hl] at hu; cases hu
   | some C=>rw [hl] at hu; rw [ew h hl]; exact hu
theorem ew {r s:Rn} (h:r.le s):∀ {v:List AV} {u:List ab},ar r v=some u→ar s v=some u
 | [],_,hu=>by simp only [ar] at hu ⊢; exact hu
 | v::l,u,hu=>by
   simp only [ar] at hu ⊢;cases hv:den r v with
   | none=>rw [hv] at hu; cases hu
   | some C=>
     cases hl:ar r l with
     | none=>rw [hv,hl] at hu; cases hu
     | some A=>rw [hv,hl] at hu; rw [gO h hv,ew h hl]; exact hu
end
theorem cF {r:Rn} {v:AV} {l:List AV} {us:List ab} (h:ar r (v::l)=some us):∃ u A,us=u::A∧den r v=some u∧ar r l=some A:=by
 simp only [ar] at h;split at h
 · rename_i u A C E; exact ⟨u,A,(di h).symm,C,E⟩
 · cases h
theorem fZ {r:Rn} {us:List ab} (h:ar r []=some us):us= []:=by simpa [ar] using h.symm
theorem cB {r:Rn} {v:AV} {l:List AV} {u:ab} {us:List ab} (A:den r v=some u) (C:ar r l=some us):ar r (v::l)=some (u::us):=by simp only [ar,A,C]
theorem bM {r:Rn} :∀ {l:List AV} {us:List ab},ar r l=some us→us.length=l.length
 | [],_,h=>by rw [fZ h]; rfl
 | v::l,us,h=>by obtain ⟨u,C,rfl,_,A⟩:=cF h; simp [bM A]
theorem kb {r:Rn} :∀ {l:List AV} {us:List ab} {i:Nat} {v:AV},ar r l=some us→l[i]? =some v→∃ u,us[i]? =some u∧den r v=some u
 | [],_,i,v,h,hv=>by simp at hv
 | a::l,us,0,v,h,hv=>by
   obtain ⟨u,L,rfl,A,_⟩:=cF h;simp only [fB,aQ] at hv;subst hv; exact ⟨u,rfl,A⟩
 | a::l,us,i+1,v,h,hv=>by
   obtain ⟨u,L,rfl,_,C⟩:=cF h;simp only [eY] at hv;obtain ⟨J,E,I⟩:=kb C hv;exact ⟨J,by simpa using E,I⟩
theorem dk {r:Rn} :∀ {l m:List AV} {us A:List ab},ar r l=some us→ar r m=some A→ar r (l++m)=some (us++A)
 | [],m,us,A,h,h'=>by rw [fZ h]; exact h'
 | a::l,m,us,A,h,h'=>by
   obtain ⟨u,I,rfl,C,E⟩:=cF h;exact cB C<|dk E h'
theorem ff {r:Rn} :∀ {l:List AV} {us:List ab} (n:Nat),ar r l=some us→ar r (l.take n)=some (us.take n)
 | _,_,0,_=>by simp [ar]
 | [],us,n+1,h=>by rw [fZ h]; simp [ar]
 | a::l,us,n+1,h=>by
   obtain ⟨u,E,rfl,A,C⟩:=cF h;exact cB A<|ff n C
theorem fD {r:Rn} :∀ {l:List AV} {us:List ab} (n:Nat),ar r l=some us→ar r (l.drop n)=some (us.drop n)
 | _,_,0,h=>h
 | [],us,n+1,h=>by rw [fZ h]; simp [ar]
 | a::l,us,n+1,h=>by
   obtain ⟨u,E,rfl,C,A⟩:=cF h;exact fD n A
inductive Ck | a | z | x
inductive AO
 | cells (l:List AV) (e:Nat) (fz:Nat) (ex:Ck)
 | map (l:List (AV×AV))
 | loop (st:LoopState) (pe:Option bd) (n:Nat) (fr:Tr AV) (ps:List Nat) (aF body:bd) (D:Nat)
 | ji (b:Bool)
 | qI (l:List UInt8) (p:Nat)
structure Hp where
 t:Tr AO
 nx:Nat
def bN (fr:Tr AV) (i:Nat):AV:=match fr.get i with
 | some v=>v
 | none=> .bo []
def cO (r:Rn) (n:Nat) (fr:Tr AV) (s:Nat→ab):Prop := ∀ i,i < n→den r (bN fr i)=some (s i)
def dJ (r:Rn):List (AV×AV)→List MapEntry→Prop
 | [],[]=>True
 | p::l,m::es=>den r p.1=some m.key∧den r p.2=some m.val∧dJ r l es
 | _,_=>False
def OR (P:aj) (r:Rn) (q:Loc):AO→Option Obj→Prop
 | .cells l e C ex,o=> ∃ c fr us,o=some (.cells c e fr)∧ar r l=some us∧q.sh+l.length≤c.size∧(∀ j u,us[j]? =some u→c[q.sh+j]? =some u)∧fr.2≤q.sh+C∧
  (∀ u∈us,u.oneCell'=true)∧((ex= .x→q.sh=0∧c.size=l.length∧fr=(0,C))∧(ex≠.a→q.sh=0))∧∀ s,dj P e=some s→q.sh+q.room*s≤c.size
 | .map l,o=> ∃ es c,o=some (.map es c)∧dJ r l es.toList∧(es.toList.map fun e=>e.key).Nodup
 | .loop st I n fr ps aF body D,o=> ∃ fn A E,o=some (.loop {state:=st,pending:=I,fn:=fn,tmps:=A,params:=ps.toArray,assign:=aF,body:=body,defers:=E})∧(∃ x,r D=some x∧x.ak=E)∧A.size=n∧∀ i,i < n→den r (bN fr i)=A[i]?
 | .ji b,o=>o=some (.deferred<|cond b (some []) none)
 | .qI l p,o=>o=some (.stringIter ⟨⟨l⟩⟩ p)
end Go.Hb
namespace Go.Hb
def gp (f:ab→Option AV):List ab→Option (List AV)
 | []=>some []
 | v::l=>match f v with
   | some a=>match gp f l with
     | some b=>some (a::b)
     | none=>none
   | none=>none
def fk:Nat→ab→Option AV
 | 0,_=>none
 | d+1,v=>match v with
   | .bool b=>some<|.bool b
   | .int k n=>some<|.int k n
   | .string ⟨⟨l⟩⟩=>some<|.str l
   | .pointer none=>some .ec
   | .slice none 0 0=>some .cW
   | .map none=>some .gn
   | .nilFunc=>some .eP
   | .nilIface=>some .cQ
   | .agg ⟨l⟩=>match gp (fk d) l with
     | some l=>some<|.agg l
     | none=>none
   | .tuple ⟨l⟩=>match gp (fk d) l with
     | some l=>some<|.bo l
     | none=>none
   | _=>none
theorem kr {f:ab→Option AV} {r:Rn} (A:∀ v a,f v=some a→den r a=some v):∀ {l:List ab} {m:List AV},gp f l=some m→ar r m=some l
 | [],m,h=>by simp only [gp,aQ] at h; subst h; simp [ar]
 | v::l,m,h=>by
   simp only [gp] at h;split at h
   · rename_i a ha;split at h
     · rename_i b hb;cases h;exact cB (A v a ha)<|kr A hb
     · cases h
   · cases h
theorem iK {r:Rn} :∀ (d:Nat) {v:ab} {a:AV},fk d v=some a→den r a=some v
 | 0,v,a,h=>by simp [fk] at h
 | d+1,v,a,h=>by
   simp only [fk] at h;split at h <;> first
    | (cases h; simp [den,str]; done)
    | (split at h
       · rename_i C A;cases h;simp only [den,kr (fun v a=>iK d) A]
       · cases h)
    | cases h
def gq (G n:Nat) (fr:Tr AV):ax→Option AV
 | .tmp t=>cond (aq t n) (some<|bN fr t) none
 | .const v=>fk 4 v
 | .func f=>some<|.fn f [] []
 | .global g=>cond (aq g G) (some<|.ptr g 0) none
def gr (G n:Nat) (fr:Tr AV):List ax→Option (List AV)
 | []=>some []
 | x::l=>match gq G n fr x with
   | some a=>match gr G n fr l with
     | some b=>some (a::b)
     | none=>none
   | none=>none
def j3 (G:Nat) (r:Rn):Prop := ∀ g,g < G→∃ m,r g=some ⟨g,0,m⟩
section
variable {G:Nat} {fr:Tr AV} {r:Rn} {N:Fm} {σ:Nat→ab}
theorem lR (C:j3 G r) (A:cO r N.n fr σ) {x:ax} {a:AV} (h:gq G N.n fr x=some a):den r a=some (ev N σ x):=by
 cases x with
 | tmp t=>
   simp only [gq] at h;cases hb:aq t N.n
   · rw [hb] at h; cases h
   · rw [hb] at h;simp only [cond_true,aQ] at h;subst h;simp only [ev,hb,cond_true];exact A t<|by simpa [aq,mE,mG] using hb
 | const v=>exact iK 4 h
 | func f=>simp only [gq,aQ] at h; subst h; simp [den,ar,ev]
 | global g=>
   simp only [gq] at h;cases hb:aq g G
   · rw [hb] at h; cases h
   · rw [hb] at h;simp only [cond_true,aQ] at h;subst h;obtain ⟨m,hm⟩:=C g<|by simpa [aq,mE,mG] using hb
     simp only [den,hm,ev,ir]
theorem nI (C:j3 G r) (A:cO r N.n fr σ):∀ {l:List ax} {m:List AV},gr G N.n fr l=some m→ar r m=some (l.map<|ev N σ)
 | [],m,h=>by simp only [gr,aQ] at h; subst h; simp [ar]
 | x::l,m,h=>by
   simp only [gr] at h;split at h
   · rename_i a ha;split at h
     · rename_i b hb;cases h;exact cB (lR C A ha)<|nI C A hb
     · cases h
   · cases h
end
def dK:Op→List ax
 | .move x | .assign x | .box _ x | .load _ x | .nilCheck x | .unOp _ _ x | .convert _ _ x | .makeInterface _ x | .fieldAddr _ x _ | .field _ x _ | .range _ x | .next x _ | .typeAssert x _ _ _ | .extract x _=> [x]
 | .pick c a b=> [c,a,b]
 | .build _ ⟨ps⟩=>ps.map (·.2)
 | .buildSlice _ _ ⟨ps⟩=>ps.map (·.2)
 | .store _ a v | .binOp _ _ a v _ | .makeSlice _ a v | .indexAddr _ a v | .index _ a v | .lookup _ a v _=> [a,v]
 | .makeFunc _ ⟨a⟩ ⟨c⟩=>a++c
 | .slice _ x l h m=>x::(l.toList++(h.toList++m.toList))
 | .mapUpdate _ m k v | .insert _ m k v=> [m,k,v]
 | .call ⟨.value f,⟨l⟩,_⟩ | .defer ⟨.value f,⟨l⟩,_⟩=>f::l
 | .call ⟨.builtin _,⟨l⟩,_⟩=>l
 | _=> []
theorem c9 {r:Rn} {a:AV} {u:ab} (h:ar r [a]=some [u]):den r a=some u:=by
 obtain ⟨C,us,he,A,_⟩:=cF h;cases he; exact A
theorem eu {r:Rn} {a b:AV} {u v:ab} (h:ar r [a,b]=some [u,v]):den r a=some u∧den r b=some v:=by
 obtain ⟨E,us,he,A,C⟩:=cF h;cases he; exact ⟨A,c9 C⟩
theorem iz {r:Rn} {a b c:AV} {u v t:ab} (h:ar r [a,b,c]=some [u,v,t]):den r a=some u∧den r b=some v∧den r c=some t:=by
 obtain ⟨E,us,he,A,C⟩:=cF h;cases he; exact ⟨A,eu C⟩
section
variable {r:Rn} {u:ab}
theorem bG {k:aH} {n:Int} (h:den r (.int k n)=some u):u= .int k n:=by simpa [den] using h.symm
theorem fg {b:Bool} (h:den r (.bool b)=some u):u= .bool b:=by simpa [den] using h.symm
theorem dZ {l:List UInt8} (h:den r (.str l)=some u):u=str l:=by simpa [den] using h.symm
theorem kf (h:den r .ec=some u):u= .pointer none:=by simpa [den] using h.symm
theorem eA (h:den r .cW=some u):u= .slice none 0 0:=by simpa [den] using h.symm
theorem se (h:den r .gn=some u):u= .map none:=by simpa [den] using h.symm
theorem lz (h:den r .eP=some u):u= .nilFunc:=by simpa [den] using h.symm
theorem ke (h:den r .cQ=some u):u= .nilIface:=by simpa [den] using h.symm
theorem eM {b o:Nat} (h:den r (.ptr b o)=some u):∃ q,r b=some q∧u= .pointer (some ⟨q.ak,q.sh+o,none⟩):=by
 simp only [den] at h;split at h
 · rename_i q A; exact ⟨q,A,(di h).symm⟩
 · cases h
theorem jj {b:Nat} (h:den r (.map b)=some u):∃ q,r b=some q∧u= .map (some q.ak):=by
 simp only [den] at h;split at h
 · rename_i q A; exact ⟨q,A,(di h).symm⟩
 · cases h
theorem pj {b:Nat} (h:den r (.dU b)=some u):∃ q,r b=some q∧u= .func (.yield q.ak) #[] #[]:=by
 simp only [den] at h;split at h
 · rename_i q A; exact ⟨q,A,(di h).symm⟩
 · cases h
theorem sf {b o n c:Nat} (h:den r (.sl b o n c true)=some u):∃ q,r b=some q∧n≤c∧u= .slice (some ⟨q.ak,q.sh+o,none⟩) n c:=by
 simp only [den] at h;split at h
 · rename_i q A;cases hb:aA n c
   · rw [hb] at h; cases h
   · rw [hb] at h;exact ⟨q,A,aP hb,(di h).symm⟩
 · cases h
theorem mV {b o n c:Nat} (h:den r (.sl b o n c false)=some u):∃ q,r b=some q∧c+n≤q.room∧u= .slice (some ⟨q.ak,q.sh+o,none⟩) n (q.room - c):=by
 simp only [den] at h;split at h
 · rename_i q A;cases hb:aA (c+n) q.room
   · rw [hb] at h; cases h
   · rw [hb] at h;exact ⟨q,A,aP hb,(di h).symm⟩
 · cases h
theorem eN {b o n c:Nat} {x:Bool} (h:den r (.sl b o n c x)=some u):∃ q cap,r b=some q∧n≤cap∧u= .slice (some ⟨q.ak,q.sh+o,none⟩) n cap∧(x=true→cap=c)∧(x=false→cap=q.room - c∧c+n≤q.room):=by
 cases x
 · obtain ⟨q,C,A,he⟩:=mV h;exact ⟨q,q.room - c,C,ag,he,(fun e=>by cases e),fun _=>⟨U,A⟩⟩
 · obtain ⟨q,C,A,he⟩:=sf h;exact ⟨q,c,C,A,he,fun _=>rfl,fun e=>by cases e⟩
theorem iB {f:Nat} {a c:List AV} (h:den r (.fn f a c)=some u):∃ A c',ar r a=some A∧ar r c=some c'∧u= .func (.func f) A.toArray c'.toArray:=by
 simp only [den] at h;split at h
 · rename_i A c' ha C; exact ⟨A,c',ha,C,(di h).symm⟩
 · cases h
theorem mU {t:Nat} {v:AV} (h:den r (.eE t v)=some u):∃ A,den r v=some A∧u= .iface t A:=by
 simp only [den] at h;split at h
 · rename_i A C; exact ⟨A,C,(di h).symm⟩
 · cases h
theorem ly {l:List AV} (h:den r (.agg l)=some u):∃ us,ar r l=some us∧u= .agg us.toArray:=by
 simp only [den] at h;split at h
 · rename_i C A; exact ⟨C,A,(di h).symm⟩
 · cases h
theorem si {l:List AV} (h:den r (.bo l)=some u):∃ us,ar r l=some us∧u= .tuple us.toArray:=by
 simp only [den] at h;split at h
 · rename_i C A; exact ⟨C,A,(di h).symm⟩
 · cases h
end
def pK (k:aH):Int→Bool
 | .ofNat m=>match k with
   | .i64=>aq m 9223372036854775808
   | .u8=>aq m 256
   | .u64=>aq m 18446744073709551616
   | .i32=>aq m 2147483648
   | .u32=>aq m 4294967296
   | .u16=>aq m 65536
   | _=>false
 | .negSucc m=>match k with
   | .i64=>aq m 9223372036854775808
   | .i32=>aq m 2147483648
   | _=>false
def jJ (k:aH) (n:Int):Int:=cond (pK k n) n<|k.wrap n
theorem bA {a b:Nat} :aq a b=true↔a < b:=by simp [aq,mE,mG]
theorem u16_in (n:Int) (h:0≤n∧n≤65535):IntKind.u16.wrap n=n:=by
 unfold IntKind.wrap;simp only [IntKind.bits,IntKind.signed];simp;omega
theorem zu {k:aH} {n:Int} (h:pK k n=true):k.wrap n=n:=by
 cases n with
 | ofNat m=>
   show k.wrap (m:Int)=(m:Int)
   cases k with
   | i64=>have :=bA.1 (show aq m 9223372036854775808=true from h); exact n7 ⟨ag,ag⟩
   | u8=>have :=bA.1 (show aq m 256=true from h); exact vn ⟨ag,ag⟩
   | u64=>have :=bA.1 (show aq m 18446744073709551616=true from h); exact vm ⟨ag,ag⟩
   | i32=>have :=bA.1 (show aq m 2147483648=true from h); exact qU ⟨ag,ag⟩
   | u32=>have :=bA.1 (show aq m 4294967296=true from h); exact vl ⟨ag,ag⟩
   | u16=>have :=bA.1 (show aq m 65536=true from h); exact u16_in _ ⟨ag,ag⟩
   | i8=>exact cz (show false =true from h)
   | i16=>exact cz (show false =true from h)
 | negSucc m=>
   rw [Int.negSucc_eq];cases k with
   | i64=>have :=bA.1 (show aq m 9223372036854775808=true from h); exact n7 ⟨ag,ag⟩
   | i32=>have :=bA.1 (show aq m 2147483648=true from h); exact qU ⟨ag,ag⟩
   | _=>exact cz (show false =true from h)
theorem mb (k:aH) (n:Int):jJ k n=k.wrap n:=by
 unfold jJ;cases h:pK k n
 · rfl
 · exact (zu h).symm
def de (k:aH):Int→Option AV
 | .ofNat 0=>some<|.int k 0
 | .ofNat (m+1)=>some<|.int k<|.ofNat<|m+1
 | .negSucc 0=>some<|.int k<|-1
 | .negSucc (m+1)=>some<|.int k<|.negSucc<|m+1
theorem dA (k:aH) (n:Int):de k n=some (.int k n):=by
 unfold de;split <;> rfl
def eB:List UInt8→List UInt8→Bool
 | [],[]=>true
 | a::l,b::m=>cond (av a.toNat b.toNat) (eB l m) false
 | _,_=>false
theorem kh:∀ l m:List UInt8,eB l m=decide (l=m)
 | [],[]=>by simp [eB]
 | [],_::_=>by simp [eB]
 | _::_,[]=>by simp [eB]
 | a::l,b::m=>by
   have ih:=kh l m;simp only [eB];cases h:av a.toNat b.toNat
   · have :a≠b:=fun e=>by subst e; simp at h
     simp [this]
   · have :a=b:=xh.1<|aW h;simp [this,ih]
def ju:List UInt8→List UInt8→Bool
 | _,[]=>false
 | [],_::_=>true
 | a::l,b::m=>cond (aq a.toNat b.toNat) true<|cond (av a.toNat b.toNat) (ju l m) false
theorem tL:∀ l m:List UInt8,ju l m=jC l m
 | [],[]=>rfl
 | _::_,[]=>rfl
 | [],_::_=>rfl
 | a::l,b::m=>by
   have ih:=tL l m;rw [Bo];simp only [ju];rcases mF a.toNat b.toNat with h | h | h
   · have A:a < b:=xf.2 h;simp [bA.2 h,A]
   · have e:a=b:=xh.1 h;subst e;have A:¬a < a:=UInt8.lt_irrefl a;have C:aq a.toNat a.toNat=false :=by cases hb:aq a.toNat a.toNat; rfl; exact absurd (bA.1 hb)<|Nat.lt_irrefl _
     simp [C,A,ih]
   · have A:¬a < b:=fun E=>by have :=xf.1 E; omega
     have C:aq a.toNat b.toNat=false :=by cases hb:aq a.toNat b.toNat; rfl; exact absurd (bA.1 hb) ag
     have I:av a.toNat b.toNat=false :=by cases hb:av a.toNat b.toNat; rfl; exact absurd (aW hb) ag
     have J:a≠b:=fun e=>by subst e; omega
     simp [C,I,A,J]
end Go.Hb
namespace Go.Hb
def nf (op:BinOp) (k:aH) (a b:Int):Option AV:=match op with
 | .add=>de k<|jJ k<|Int.add a b
 | .sub=>de k<|jJ k<|Int.sub a b
 | .mul=>de k<|jJ k<|Int.mul a b
 | .lss=>some<|.bool<|decide (a < b)
 | .leq=>some<|.bool<|decide (a≤b)
 | .gtr=>some<|.bool<|decide (b < a)
 | .geq=>some<|.bool<|decide (b≤a)
 | .eql=>some<|.bool<|decide (a=b)
 | .neq=>some<|.bool<|decide (a≠b)
 | .quo=>match a,b with
   | .ofNat a,.ofNat (b+1)=>de k<|jJ k<|.ofNat<|a / (b+1)
   | _,_=>none
 | .rem=>match a,b with
   | .ofNat a,.ofNat (b+1)=>de k<|.ofNat<|a % (b+1)
   | _,_=>none
 | .or =>de k<|k.wrap (iP k.bits a ||| iP k.bits b).toNat
 | .and =>de k<|k.wrap (iP k.bits a &&& iP k.bits b).toNat
 | _=>none
def qy (op:BinOp) (k:aH) (a:Int) (b:Nat):Option AV:=match op with
 | .shr=>de k<|a.fdiv<|2 ^ min b k.bits
 | .shl=>de k<|k.wrap<|a*2 ^ min b k.bits
 | _=>none
def qH (op:BinOp) (l m:List UInt8):Option AV:=match op with
 | .eql=>some<|.bool<|eB l m
 | .neq=>some<|.bool<|!eB l m
 | .lss=>some<|.bool<|ju l m
 | .gtr=>some<|.bool<|!(ju l m || eB l m)
 | .leq=>some<|.bool (ju l m || eB l m)
 | .geq=>some<|.bool<|!ju l m
 | .add=>cond (aA (l.length+m.length) 9223372036854775807) (some<|.str<|l++m) none
 | _=>none
def lJ (P:aj) (t:ai):Bool:=match P.underlying t with
 | some (.pointer e)=>(P.info? e).isSome
 | _=>false
def fI (P:aj) (t:ai):Bool:=match P.underlying t with
 | some (.slice _)=>true
 | _=>false
def ng (P:aj) (t:ai):Bool:=match P.underlying t with
 | some (.func _ _ _)=>true
 | _=>false
def pL (P:aj) (t:ai):Bool:=match P.underlying t with
 | some .bool=>true
 | _=>false
def nh (P:aj) (t:ai):Bool:=match P.underlying t with
 | some (.interface _)=>true
 | _=>false
def isStr (P:aj) (t:ai):Bool:=match P.underlying t with
 | some .string=>true
 | _=>false
def mY (P:aj) (A:Bool) (t:ai) (x y:AV):Option Bool:=match x,y with
 | .ptr _ _,.ec=>cond (lJ P t) (some false) none
 | .ec,.ec=>cond (lJ P t) (some true) none
 | .ptr b o,.ptr b' o'=>cond (lJ P t && (av b b' && av o o')) (some true) none
 | .sl _ _ _ _ _,.cW=>cond (fI P t) (some false) none
 | .cW,.cW=>cond (fI P t) (some true) none
 | .fn _ _ _,.eP=>cond (ng P t) (some false) none
 | .eP,.eP=>cond (ng P t) (some true) none
 | .bool a,.bool b=>cond (pL P t) (some<|a==b) none
 | .eE _ _,.cQ=>cond (nh P t) (some false) none
 | .cQ,.cQ=>cond (nh P t && A) (some true) none
 | _,_=>none
def oW (P:aj) (A:Bool) (op:BinOp) (t:ai) (x y:AV):Option AV:=match x,y with
 | .int k a,.int k' b=>match op with
   | .shl | .shr=>match b with
     | .ofNat b=>qy op k a b
     | _=>none
   | _=>cond (av (cy k)<|cy k') (nf op k a b) none
 | .str l,.str m=>qH op l m
 | x,y=>match op with
   | .eql=>match mY P A t x y with
     | some b=>some<|.bool b
     | none=>none
   | .neq=>match mY P A t x y with
     | some b=>some<|.bool<|!b
     | none=>none
   | _=>none
section
variable {P:aj} {r:Rn} {N:Fm} {σ:Nat→ab} {dst:Option Nat} {ty:ai} {pos :String} {af:Array bD} {g:Option (Nat×Bool)} {x y z:ax}
def YP (P:aj) (r:Rn) (N:Fm) (σ:Nat→ab) (o:an) (v:AV):Prop := ∃ u,den r v=some u∧∀ w,(execOp (ev N σ) o).run P w= .ok (.value u) w
theorem zx {op:BinOp} {k:aH} {a b:Int} {t E:ai} {v:AV} (h:nf op k a b=some v) (A:ev N σ x= .int k a) (C:ev N σ y= .int k b):YP P r N σ ⟨dst,.binOp op t x y E,ty,pos,af,g⟩ v:=by
 unfold nf at h;split at h
 · rw [dA,mb] at h; cases h; exact ⟨_,rfl,fun w=>rD _ A C rfl⟩
 · rw [dA,mb] at h; cases h; exact ⟨_,rfl,fun w=>uB _ A C rfl⟩
 · rw [dA,mb] at h; cases h; exact ⟨_,rfl,fun w=>Af _ A C rfl⟩
 · cases h; exact ⟨_,rfl,fun w=>lt A C⟩
 · cases h; exact ⟨_,rfl,fun w=>le A C⟩
 · cases h; exact ⟨_,rfl,fun w=>gt A C⟩
 · cases h; exact ⟨_,rfl,fun w=>ge A C⟩
 · cases h; exact ⟨_,rfl,fun w=>su A C⟩
 · cases h; exact ⟨_,rfl,fun w=>tU A C⟩
 · split at h
   · rename_i a b;rw [dA,mb] at h; cases h;exact ⟨_,U,fun w=>AP _ A C ⟨dE _,vY.2<|xa _⟩ U⟩
   · cases h
 · split at h
   · rename_i a b;rw [dA] at h; cases h;exact ⟨_,U,fun w=>rm A C ⟨dE _,vY.2<|xa _⟩⟩
   · cases h
 · rw [dA] at h; cases h; exact ⟨_,rfl,fun w=>xQ A C rfl⟩
 · rw [dA] at h; cases h; exact ⟨_,rfl,fun w=>bJ A C rfl⟩
 · cases h
theorem Bj {op:BinOp} {k E:aH} {a:Int} {b:Nat} {t I:ai} {v:AV} (h:qy op k a b=some v) (A:ev N σ x= .int k a) (C:ev N σ y= .int E (gF b)):YP P r N σ ⟨dst,.binOp op t x y I,ty,pos,af,g⟩ v:=by
 unfold qy at h;split at h
 · rw [dA] at h; cases h; exact ⟨_,rfl,fun w=>shr A C (dE _) rfl⟩
 · rw [dA] at h; cases h; exact ⟨_,rfl,fun w=>shl A C (dE _) rfl⟩
 · cases h
theorem BK {op:BinOp} {l m:List UInt8} {t E:ai} {v:AV} (h:qH op l m=some v) (A:ev N σ x=str l) (C:ev N σ y=str m):YP P r N σ ⟨dst,.binOp op t x y E,ty,pos,af,g⟩ v:=by
 unfold qH at h;simp only [kh,tL] at h;split at h
 · cases h; exact ⟨_,rfl,fun w=>sA A C⟩
 · cases h; exact ⟨.bool (decide (l≠m)),by simp [den],fun w=>tV A C⟩
 · cases h; exact ⟨_,rfl,fun w=>z6 A C⟩
 · cases h; exact ⟨_,rfl,fun w=>zo A C⟩
 · cases h; exact ⟨_,rfl,fun w=>zV A C⟩
 · cases h; exact ⟨_,rfl,fun w=>zk A C⟩
 · cases hb:aA (l.length+m.length) 9223372036854775807
   · rw [hb] at h; cases h
   · rw [hb] at h; cases h; exact ⟨_,rfl,fun w=>cc A C<|aP hb⟩
 · cases h
def au:ax→Bool
 | .const _=>true
 | _=>false
def oO (P:aj) (t:ai) (x y:ax) (u v:ab) (q:Bool):Prop :=
 (∀ w,(binOp .eql t u v).run P w= .ok (.bool q) w)∧(∀ w,(binOp .neq t u v).run P w= .ok (.bool<|!q) w)∧∀ op w,(eqGuard op t x y u v).run P w= .ok () w
theorem oO.of {t:ai} {u v:ab} {q:Bool} (h:∀ d w,(eI (d+1) t u v).run P w= .ok q w) (A:∀ w,(binOp .eql t u v).run P w=((jS t u v).run P w).andThen fun q w=> .ok (.bool q) w)
 (C:∀ w,(binOp .neq t u v).run P w=((jS t u v).run P w).andThen fun q w=> .ok (.bool<|!q) w) (E:∀ op w,(eqGuard op t x y u v).run P w= .ok () w):oO P t x y u v q:=by
 have e:∀ w,(jS t u v).run P w= .ok q w:=h 9999;exact ⟨fun w=>by rw [A,e]; rfl,fun w=>by rw [C,e]; rfl,E⟩
theorem sr {Z:Bool} {t:ai} {a b:AV} {u v:ab} {q:Bool} (ad:Z=true→(au x || au y)=true) (h:mY P Z t a b=some q) (hu:den r a=some u) (E:den r b=some v):oO P t x y u v q:=by
 have J:lJ P t=true→∃ e i,P.underlying t=some (.pointer e)∧P.info? e=some i:=by
  intro hp;unfold lJ at hp;split at hp
  · rename_i e he;obtain ⟨i,hi⟩:=Option.isSome_iff_exists.1 hp;exact ⟨e,i,he,hi⟩
  · cases hp
 have O:fI P t=true→∃ e,P.underlying t=some (.slice e):=by
  intro hp; unfold fI at hp; split at hp
  · exact ⟨_,by assumption⟩
  · cases hp
 have L:ng P t=true→∃ a b c,P.underlying t=some (.func a b c):=by
  intro hp; unfold ng at hp; split at hp
  · exact ⟨_,_,_,by assumption⟩
  · cases hp
 have M:nh P t=true→∃ m,P.underlying t=some (.interface m):=by
  intro hp; unfold nh at hp; split at hp
  · exact ⟨_,by assumption⟩
  · cases hp
 have B1:pL P t=true→P.underlying t=some .bool:=by
  intro hp; unfold pL at hp; split at hp
  · assumption
  · cases hp
 have I:∀ {c:Bool} {p:Option Bool} {q:Bool},cond c p none=some q→c=true∧p=some q:=by
  intro c p q h; cases c
  · cases h
  · exact ⟨U,h⟩
 unfold mY at h;split at h
 · obtain ⟨y,V,rfl⟩:=eM hu;obtain rfl :=kf E;obtain ⟨A,C⟩:=I h;cases C;obtain ⟨e,i,he,hi⟩:=J A;exact .of (fun d w=>po d he) (fun w=>by simp [binOp]) (fun w=>by simp [binOp]) fun op w=>by simp [eqGuard]
 · obtain rfl :=kf hu;obtain rfl :=kf E;obtain ⟨A,C⟩:=I h;cases C;obtain ⟨e,i,he,hi⟩:=J A;exact .of (fun d w=>po d he) (fun w=>by simp [binOp]) (fun w=>by simp [binOp]) fun op w=>by simp [eqGuard]
 · rename_i b o ah ak;obtain ⟨A,C⟩:=I h;cases C;simp only [aD] at A;obtain ⟨hp,aa,ac⟩:=A;obtain rfl :=aW aa;obtain rfl :=aW ac;rw [hu] at E; cases E;obtain ⟨y,V,rfl⟩:=eM hu;obtain ⟨e,i,he,hi⟩:=J hp;exact .of (fun d w=>by simp [eI,aC he,sizeOf,bU hi,sameAddr]) (fun w=>by simp [binOp]) (fun w=>by simp [binOp]) fun op w=>by simp [eqGuard]
 · obtain ⟨y,cap,V,_,rfl,_⟩:=eN hu;obtain rfl :=eA E;obtain ⟨A,C⟩:=I h;cases C;obtain ⟨e,he⟩:=O A;exact .of (fun d w=>sB d he) (fun w=>by simp [binOp]) (fun w=>by simp [binOp]) fun op w=>by simp [eqGuard]
 · obtain rfl :=eA hu;obtain rfl :=eA E;obtain ⟨A,C⟩:=I h;cases C;obtain ⟨e,he⟩:=O A;exact .of (fun d w=>sB d he) (fun w=>by simp [binOp]) (fun w=>by simp [binOp]) fun op w=>by simp [eqGuard]
 · obtain ⟨ag,c',ha,_,rfl⟩:=iB hu;obtain rfl :=lz E;obtain ⟨A,C⟩:=I h;cases C;obtain ⟨_,_,_,he⟩:=L A;exact .of (fun d w=>by simp [eI,aC he]) (fun w=>by simp [binOp]) (fun w=>by simp [binOp]) fun op w=>by simp [eqGuard]
 · obtain rfl :=lz hu;obtain rfl :=lz E;obtain ⟨A,C⟩:=I h;cases C;obtain ⟨_,_,_,he⟩:=L A;exact .of (fun d w=>by simp [eI,aC he]) (fun w=>by simp [binOp]) (fun w=>by simp [binOp]) fun op w=>by simp [eqGuard]
 · obtain rfl :=fg hu;obtain rfl :=fg E;obtain ⟨A,C⟩:=I h;cases C;exact .of (fun d w=>yS d<|B1 A) (fun w=>by simp [binOp]) (fun w=>by simp [binOp]) fun op w=>by simp [eqGuard]
 · obtain ⟨al,aj,rfl⟩:=mU hu;obtain rfl :=ke E;obtain ⟨A,C⟩:=I h;cases C;obtain ⟨_,he⟩:=M A;exact .of (fun d w=>by simp [eI,aC he]) (fun w=>by simp [binOp]) (fun w=>by simp [binOp]) fun op w=>by simp [eqGuard]
 · obtain rfl :=ke hu;obtain rfl :=ke E;obtain ⟨A,C⟩:=I h;cases C;simp only [aD] at A;obtain ⟨_,he⟩:=M A.1;have ae:=ad A.2;exact .of (fun d w=>by simp [eI,aC he]) (fun w=>by simp [binOp]) (fun w=>by simp [binOp]) (fun op w=>by
    cases x <;> cases y <;> first | (cases ae; done) | simp [eqGuard])
 · cases h
theorem xN {Z:Bool} {op:BinOp} {t aa:ai} {a b v:AV} (C:Z=true→(au x || au y)=true) (h:oW P Z op t a b=some v) (I:den r a=some (ev N σ x)) (J:den r b=some (ev N σ y)):YP P r N σ ⟨dst,.binOp op t x y aa,ty,pos,af,g⟩ v:=by
 unfold oW at h;split at h
 · rename_i k a V b;have A:=bG I;have O:=bG J;have key:(cond (av (cy k)<|cy V) (nf op k a b) none)=some v→YP P r N σ ⟨dst,.binOp op t x y aa,ty,pos,af,g⟩ v:=by
    intro E;cases C:av (cy k) (cy V)
    · rw [C] at E; cases E
    · rw [C] at E;obtain rfl :=jo C;exact zx E A O
   cases op <;> first
    | exact key h
    | (dsimp only at h
       split at h
       · exact Bj h A O
       · cases h)
 · exact BK h (dZ I)<|dZ J
 · split at h
   · split at h
     · rename_i q M;cases h;obtain ⟨A,_,L⟩:=sr C M I J;exact ⟨_,U,fun w=>by simp [execOp,A,L]⟩
     · cases h
   · split at h
     · rename_i q M;cases h;obtain ⟨_,A,L⟩:=sr C M I J;exact ⟨_,U,fun w=>by simp [execOp,A,L]⟩
     · cases h
   · cases h
end
def qA (e b o n c:Nat) (x:Bool) (i j:Nat):Option AV:=
 cond (aA i j) (cond x (cond (aA j c) (cond (av c i) (some<|.sl b o (j - i) (c - i) true)<|some<|.sl b (o+i*e) (j - i) (c - i) true) none)
  (cond (aA j n && (av i 0 || aq i n)) (some<|.sl b (o+i*e) (j - i) (c+i) false) none)) none
def kK (P:aj) (t:ai) (x:AV) (lo hi:Option Nat):Option AV:=match x with
 | .str l=>cond (isStr P t && (aA (lo.getD 0) (hi.getD l.length) && aA (hi.getD l.length) l.length)) (some<|.str<|(l.take<|hi.getD l.length).drop<|lo.getD 0) none
 | .sl b o n c q=>match cC P t with
   | some e=>qA e b o n c q (lo.getD 0)<|hi.getD n
   | none=>none
 | .cW=>match cC P t with
   | some _=>cond (av (lo.getD 0) 0 && av (hi.getD 0) 0) (some .cW) none
   | none=>none
 | _=>none
def qz (P:aj) (t:ai) (lo hi mx:Option ax) (xs:List AV):Option AV:=match lo,hi,mx with
 | none,some _,none=>match xs with
   | [x,.int _ (.ofNat j)]=>kK P t x none<|some j
   | _=>none
 | some _,none,none=>match xs with
   | [x,.int _ (.ofNat i)]=>kK P t x (some i) none
   | _=>none
 | some _,some _,none=>match xs with
   | [x,.int _ (.ofNat i),.int _ (.ofNat j)]=>kK P t x (some i)<|some j
   | _=>none
 | none,some _,some _=>match xs with
   | [.sl b o n c q,.int _ (.ofNat j),.int _ (.ofNat m)]=>match cC P t with
     | some e=>cond (av j m && aA m n) (some<|.sl b o j j true) none
     | none=>none
   | _=>none
 | some _,some _,some _=>match xs with
   | [.sl b o n c q,.int _ (.ofNat i),.int _ (.ofNat j),.int _ (.ofNat m)]=>match cC P t with
     | some e=>cond (aA i j && (aA j m && aA m n)) (cond (av m i) (some<|.sl b o (j - i) (m - i) true)<|some<|.sl b (o+i*e) (j - i) (m - i) true) none
     | none=>none
   | _=>none
 | _,_,_=>none
section
variable {P:aj} {r:Rn} {N:Fm} {σ:Nat→ab} {dst:Option Nat} {ty:ai} {pos :String} {af:Array bD} {g:Option (Nat×Bool)} {x y z:ax}
theorem ay {α:Type} {c:Bool} {p:Option α} {q:α} (h:cond c p none=some q):c=true∧p=some q:=by
 cases c
 · cases h
 · exact ⟨U,h⟩
theorem iA {b o n c:Nat} {q:Loc} (A:r b=some q) (h:n≤c):den r (.sl b o n c true)=some (.slice (some ⟨q.ak,q.sh+o,none⟩) n c):=by
 simp only [den,A,cond_true,rn h]
theorem kd {b o n c:Nat} {q:Loc} (A:r b=some q) (h:c+n≤q.room):den r (.sl b o n c false)=some (.slice (some ⟨q.ak,q.sh+o,none⟩) n<|q.room - c):=by
 simp only [den,A,cond_true,cond_false,rn h]
theorem qB {e b o n c i j:Nat} {q:Bool} {v:AV} {u:ab} (h:qA e b o n c q i j=some v) (hu:den r (.sl b o n c q)=some u):
 ∃ a cap,u= .slice a n cap∧n≤cap∧i≤j∧j≤cap∧den r v=some (.slice (bT a cap i e) (j - i)<|cap - i):=by
 unfold qA at h;replace h:=ay h; obtain ⟨C,h⟩:=h;have C:=aP C;cases q
 · simp only [cond_false] at h;replace h:=ay h; obtain ⟨A,h⟩:=h;simp only [aD,jM] at A;obtain ⟨q,E,I,rfl⟩:=mV hu;have M:=aP A.1;cases h;refine ⟨_,_,U,ag,C,ag,?_⟩;have L:bT (some ⟨q.ak,q.sh+o,none⟩) (q.room - c) i e=some ⟨q.ak,q.sh+(o+i*e),none⟩:=by
    unfold bT;rcases A.2 with A | A
    · obtain rfl :=aW A;split
      · simp
      · simp [cE]
    · have :=bA.1 A;rw [if_neg ag];simp [cE,eo]
   rw [L,kd E ag,show q.room - (c+i)=q.room - c - i from by omega]
 · simp only [cond_true] at h;replace h:=ay h; obtain ⟨A,h⟩:=h;have A:=aP A;obtain ⟨q,E,I,rfl⟩:=sf hu;refine ⟨_,_,U,I,C,A,?_⟩;cases hb:av c i
   · rw [hb] at h; cases h;have J:c≠i:=fun e=>by subst e; simp at hb
     rw [iA E ag];simp only [bT,if_neg J,cM,cE,eo]
   · rw [hb] at h; cases h;obtain rfl :=aW hb;rw [iA E ag];simp only [bT,if_true]
theorem iG {t:ai} (h:isStr P t=true):P.underlying t=some .string:=by
 unfold isStr at h; split at h
 · assumption
 · cases h
theorem uI (c i e:Nat):bT none c i e=none:=by unfold bT; split <;> rfl
theorem Bk (a:Option Addr) (c e:Nat):bT a c 0 e=a:=by
 unfold bT; split
 · rfl
 · cases a <;> simp [Addr.add]
theorem Bn {t:ai} {lo hi mx:Option ax} {xs:List AV} {v:AV} (h:qz P t lo hi mx xs=some v) (V:ar r xs=some ((x::(lo.toList++(hi.toList++mx.toList))).map<|ev N σ)):
 YP P r N σ ⟨dst,.slice t x lo hi mx,ty,pos,af,g⟩ v:=by
 unfold qz at h;split at h
 · rename_i z;split at h
   · rename_i a k j;obtain ⟨C,I⟩:=eu (u:=ev N σ x) (v:=ev N σ z) V;have E:=bG I;unfold kK at h;split at h
     · replace h:=ay h; obtain ⟨A,h⟩:=h;simp only [aD,ll,e8] at A;cases h;refine ⟨_,U,fun w=>(Bq (iG A.1) (dZ C) E ⟨dE _,?_⟩).trans ?_⟩
       · have :=aP A.2.2; simp; omega
       · simp
     · split at h
       · rename_i e he;obtain ⟨a,cap,hu,aa,J,L,M⟩:=qB h C;simp only [ll,e8] at J L M;refine ⟨_,M,fun w=>(qE he hu E ⟨dE _,by simp; omega⟩).trans ?_⟩;simp [Bk]
       · cases h
     · split at h
       · rename_i e he;replace h:=ay h; obtain ⟨A,h⟩:=h;simp only [aD,ll,e8] at A;obtain rfl :=aW A.2;cases h;exact ⟨_,U,fun w=>qE he (eA C) E ⟨dE _,by simp⟩⟩
       · cases h
     · cases h
   · cases h
 · rename_i z;split at h
   · rename_i a k j;obtain ⟨C,I⟩:=eu (u:=ev N σ x) (v:=ev N σ z) V;have E:=bG I;unfold kK at h;split at h
     · replace h:=ay h; obtain ⟨A,h⟩:=h;simp only [aD,ll,e8] at A;cases h;refine ⟨_,U,fun w=>(Br (iG A.1) (dZ C) E ⟨dE _,?_⟩).trans ?_⟩
       · have :=aP A.2.1; simp; omega
       · simp
     · split at h
       · rename_i e he;obtain ⟨a,cap,hu,aa,J,L,M⟩:=qB h C;simp only [ll,e8] at J L M;exact ⟨_,M,fun w=>nX he hu E ⟨dE _,by simp; omega⟩⟩
       · cases h
     · split at h
       · rename_i e he;replace h:=ay h; obtain ⟨A,h⟩:=h;simp only [aD,ll,e8] at A;obtain rfl :=aW A.1;cases h;exact ⟨_,U,fun w=>(nX he (eA C) E ⟨dE _,by simp⟩).trans<|by simp [uI]⟩
       · cases h
     · cases h
   · cases h
 · rename_i y z;split at h
   · rename_i a k i ae j;obtain ⟨C,I,J⟩:=iz (u:=ev N σ x) (v:=ev N σ y) (t:=ev N σ z) V;have O:=bG I;have E:=bG J;unfold kK at h;split at h
     · replace h:=ay h; obtain ⟨A,h⟩:=h;simp only [aD,e8] at A;cases h;have :=aP A.2.1;have :=aP A.2.2;exact ⟨_,U,fun w=>Bp (iG A.1) (dZ C) O E ⟨dE _,by simp; omega,by simp; omega⟩⟩
     · split at h
       · rename_i e he;obtain ⟨a,cap,hu,aa,L,M,ac⟩:=qB h C;simp only [e8] at L M ac;exact ⟨_,ac,fun w=>nW he hu O E ⟨dE _,by simp; omega,by simp; omega⟩⟩
       · cases h
     · split at h
       · rename_i e he;replace h:=ay h; obtain ⟨A,h⟩:=h;simp only [aD,e8] at A;obtain rfl :=aW A.1;obtain rfl :=aW A.2;cases h;exact ⟨_,U,fun w=>(nW he (eA C) O E ⟨dE _,by simp,by simp⟩).trans<|by simp [uI]⟩
       · cases h
     · cases h
   · cases h
 · rename_i y z;split at h
   · rename_i b o n c q k j ae m;obtain ⟨C,I,J⟩:=iz (u:=ev N σ x) (v:=ev N σ y) (t:=ev N σ z) V;have O:=bG I;have E:=bG J;split at h
     · rename_i e he;replace h:=ay h; obtain ⟨A,h⟩:=h;simp only [aD] at A;obtain rfl :=aW A.1;have :=aP A.2;cases h;obtain ⟨q,cap,ab,aa,hu,_⟩:=eN C;exact ⟨_,iA ab (aI _),fun w=>yo he hu O E ag⟩
     · cases h
   · cases h
 · rename_i y z u;split at h
   · rename_i b o n c q k i ae j am m;obtain ⟨_,_,Z,C,L⟩:=cF V;obtain ⟨I,J,L⟩:=iz (u:=ev N σ y) (v:=ev N σ z) (t:=ev N σ u)<|by simp at Z; rw [L,← Z.2]
     have O:=bG I;have E:=bG J;have hu:=bG L;simp at Z;rw [← Z.1] at C;split at h
     · rename_i e he;replace h:=ay h; obtain ⟨A,h⟩:=h;simp only [aD] at A;have ak:=aP A.1;have al:=aP A.2.1;have an:=aP A.2.2;obtain ⟨q,cap,ab,aa,aj,_⟩:=eN C;have ad:=fun w=>uK (dst:=dst) (ty:=ty) (pos :=pos) (af:=af) (g:=g) (w:=w) he aj O E hu ⟨ak,al,ag⟩;cases hb:av m i
       · rw [hb] at h; cases h;have ah:m≠i:=fun e=>by subst e; simp at hb
         refine ⟨_,iA ab ag,fun w=>(ad w).trans ?_⟩;simp only [bT,if_neg ah,cM,cE,eo]
       · rw [hb] at h; cases h;obtain rfl :=aW hb;refine ⟨_,iA ab ag,fun w=>(ad w).trans ?_⟩;simp only [bT,if_true]
     · cases h
   · cases h
 · cases h
end
end Go.Hb
namespace Go.Hb
def gM:AV→List AV
 | .agg l=>l
 | v=> [v]
theorem o6 {r:Rn} {v:AV} {u:ab} (h:den r v=some u):ar r (gM v)=some u.cells.toList:=by
 cases v with
 | agg l=>
   obtain ⟨us,C,rfl⟩:=ly h;simpa [gM,Value.cells] using C
 | bool b=>have :=fg h; subst this; exact cB h<|by simp [ar]
 | int k n=>have :=bG h; subst this; exact cB h<|by simp [ar]
 | str l=>have :=dZ h; subst this; exact cB h<|by simp [ar]
 | ptr b o=>obtain ⟨q,A,rfl⟩:=eM h; exact cB h<|by simp [ar]
 | ec=>have :=kf h; subst this; exact cB h<|by simp [ar]
 | sl b o n c x=>obtain ⟨q,cap,A,_,rfl,_⟩:=eN h; exact cB h<|by simp [ar]
 | cW=>have :=eA h; subst this; exact cB h<|by simp [ar]
 | map b=>obtain ⟨q,A,rfl⟩:=jj h; exact cB h<|by simp [ar]
 | gn=>have :=se h; subst this; exact cB h<|by simp [ar]
 | fn f a c=>obtain ⟨_,_,_,_,rfl⟩:=iB h; exact cB h<|by simp [ar]
 | dU l=>obtain ⟨q,A,rfl⟩:=pj h; exact cB h<|by simp [ar]
 | eP=>have :=lz h; subst this; exact cB h<|by simp [ar]
 | eE t v=>obtain ⟨_,_,rfl⟩:=mU h; exact cB h<|by simp [ar]
 | cQ=>have :=ke h; subst this; exact cB h<|by simp [ar]
 | bo l=>obtain ⟨_,_,rfl⟩:=si h; exact cB h<|by simp [ar]
def nH:AV→Bool
 | .agg _ | .bo _=>false
 | _=>true
theorem Ar {r:Rn} {v:AV} {u:ab} (h:den r v=some u) (C:nH v=true):u.oneCell'=true :=by
 cases v with
 | agg l=>cases C
 | bool b=>have :=fg h; subst this; rfl
 | int k n=>have :=bG h; subst this; rfl
 | str l=>have :=dZ h; subst this; rfl
 | ptr b o=>obtain ⟨q,A,rfl⟩:=eM h; rfl
 | ec=>have :=kf h; subst this; rfl
 | sl b o n c x=>obtain ⟨q,cap,A,_,rfl,_⟩:=eN h; rfl
 | cW=>have :=eA h; subst this; rfl
 | map b=>obtain ⟨q,A,rfl⟩:=jj h; rfl
 | gn=>have :=se h; subst this; rfl
 | fn f a c=>obtain ⟨_,_,_,_,rfl⟩:=iB h; rfl
 | dU l=>obtain ⟨q,A,rfl⟩:=pj h; rfl
 | eP=>have :=lz h; subst this; rfl
 | eE t v=>obtain ⟨_,_,rfl⟩:=mU h; rfl
 | cQ=>have :=ke h; subst this; rfl
 | bo l=>cases C
def cI:List AV→Bool
 | []=>true
 | v::l=>cond (nH v) (cI l) false
theorem ku {r:Rn} :∀ {l:List AV} {us:List ab},ar r l=some us→cI l=true→∀ u∈us,u.oneCell'=true
 | [],us,h,_,u,hu=>by rw [fZ h] at hu; cases hu
 | v::l,us,h,h1,u,hu=>by
   obtain ⟨E,I,rfl,A,C⟩:=cF h;simp only [cI] at h1;cases hv:nH v
   · rw [hv] at h1; cases h1
   · rw [hv] at h1;rcases cU.1 hu with rfl | hu
     · exact Ar A hv
     · exact ku C h1 u hu
def jm (pl:Nat→Option (Nat×Nat)):List AV→List (Nat×AV)→Option (List AV)
 | A,[]=>some A
 | A,(i,v)::ps=>match pl i with
   | some (off,s)=>cond (av (gM v).length s && aA (off+s) A.length) (jm pl (A.take off++(gM v++A.drop (off+s))) ps) none
   | none=>none
theorem sF:∀ (l:List ab) (m off :Nat) (cs:Array ab),off+m+l.length≤cs.size→
 (l.zipIdx m).foldl (fun (cs:Array ab) (c,j)=>cs.setIfInBounds (off+j) c) cs=(cs.toList.take (off+m)++(l++cs.toList.drop (off+m+l.length))).toArray
 | [],m,off,cs,h=>by simp
 | c::l,m,off,cs,h=>by
   simp only [List.zipIdx_cons,List.foldl_cons,cr] at h ⊢;rw [sF l (m+1) off _ (by simp; omega)];apply vv.1;have A:off+m < cs.toList.length:=by rw [jL]; omega
   simp only [Array.toList_setIfInBounds];rw [show off+(m+1)=off+m+1 from by omega,uG A,uF ag,show off+m+1 +l.length=off+m+(l.length+1) from by omega];simp
theorem pz {r:Rn} {pl:Nat→Option (Nat×Nat)} :∀ {ps:List (Nat×AV)} {J L:List AV} {Z:List ab} {A:List (Nat×ab)},jm pl J ps=some L→ar r J=some Z→
 A.map bC=ps.map bC→ar r (ps.map j1)=some (A.map j1)→∃ C,ar r L=some C∧fN pl Z.toArray A=some C.toArray
 | [],J,L,Z,A,h,hz,E,I=>by
   simp only [jm,aQ] at h;subst h;obtain rfl :A= []:=by simpa using E
   exact ⟨Z,hz,U⟩
 | (i,v)::ps,J,L,Z,A,h,hz,E,I=>by
   cases A with
   | nil=>simp at E
   | cons p A=>
     obtain ⟨j,u⟩:=p;simp only [cx,fQ] at E;obtain ⟨rfl,E⟩:=E;simp only [cx] at I;obtain ⟨am,an,he,ai,I⟩:=cF I;simp only [fQ] at he;obtain ⟨rfl,rfl⟩:=he;simp only [jm] at h;split at h
     · rename_i off s ah;replace h:=ay h; obtain ⟨M,h⟩:=h;simp only [aD] at M;have aa:=aW M.1;have ak:=aP M.2;have O:=o6 ai;have ag:=bM O;have al:=bM hz;have aj:=dk (ff off hz)<|dk O<|fD (off+s) hz;obtain ⟨C,ac,ad⟩:=pz h aj E I;refine ⟨C,ac,?_⟩;have V:u.cells.size=s:=by rw [← jL,ag,aa]
       simp only [fN,ah,V];rw [if_neg (by simp; omega),← ad];congr 1;have ae:=sF u.cells.toList 0 off Z.toArray<|by simp; omega
       rw [show u.cells.zipIdx.foldl (fun (cs:Array ab) (c,j)=>cs.setIfInBounds (off+j) c) Z.toArray=((u.cells.toList.zipIdx 0).foldl (fun (cs:Array ab) (c,j)=>cs.setIfInBounds (off+j) c) Z.toArray) from by
        rw [← vr]; simp [Array.toList_zipIdx],ae]
       simp [V]
     · cases h
def ie:List (Nat×ax)→List AV→List (Nat×AV)
 | p::ps,v::vs=>(p.1,v)::ie ps vs
 | _,_=> []
theorem qZ {r:Rn} {f:ax→ab} :∀ {ps:List (Nat×ax)} {xs:List AV},ar r xs=some ((ps.map (·.2)).map f)→
 (ps.map fun p=>(p.1,f p.2)).map bC=(ie ps xs).map bC∧ar r ((ie ps xs).map j1)=some ((ps.map fun p=>(p.1,f p.2)).map j1)
 | [],xs,h=>by
   have :=bM h;obtain rfl :xs= []:=im<|by simpa using this.symm
   simp [ie,ar]
 | p::ps,[],h=>by have :=bM h; simp at this
 | p::ps,v::xs,h=>by
   simp only [cx] at h;obtain ⟨u,us,he,A,C⟩:=cF h;simp only [fQ] at he;obtain ⟨rfl,rfl⟩:=he;obtain ⟨E,I⟩:=qZ (f:=f) C;refine ⟨?_,?_⟩
   · simp only [cx,ie,fQ,true_and]; exact E
   · simp only [cx,ie]; exact cB A I
def rX (P:aj) (t u:ai) (n:Int):Option AV:=match P.underlying u with
 | some (.int k)=>cond (P.underlying t).isSome (de k<|jJ k n) none
 | _=>none
def oX (P:aj) (b:Builtin) (A:Array ai) (xs:List AV):Option AV:=match b with
 | .len=>match xs,A with
   | [.str l],⟨[t]⟩=>cond (isStr P t) (de .i64 l.length) none
   | [.sl _ _ n _ _],⟨[t]⟩=>cond (fI P t) (de .i64 n) none
   | [.cW],⟨[t]⟩=>cond (fI P t) (de .i64 0) none
   | _,_=>none
 | .min =>match xs with
   | [.int k a,.int k' b]=>cond (av (cy k)<|cy k') (de k<|min a b) none
   | _=>none
 | .max =>match xs with
   | [.int k a,.int k' b]=>cond (av (cy k)<|cy k') (de k<|max a b) none
   | _=>none
 | _=>none
def rI (P:aj) (t:ai):Option (Nat×Nat):=match P.underlying t with
 | some (.array n e)=>match P.info? e with
   | some i=>match cP P e with
     | some none=>some (n,i.size)
     | _=>none
   | none=>none
 | _=>none
def jw (P:aj) (o:Op) (xs:List AV):Option AV:=match o with
 | .move _=>match xs with
   | [x]=>some x
   | _=>none
 | .assign _=>match xs with
   | [x]=>some x
   | _=>none
 | .pick _ _ _=>match xs with
   | [.bool true,a,_]=>some a
   | [.bool false,_,b]=>some b
   | _=>none
 | .nilCheck _=>match xs with
   | [.ptr b o]=>some<|.ptr b o
   | _=>none
 | .extract _ i=>match xs with
   | [.bo l]=>l[i]?
   | _=>none
 | .fieldAddr s _ f=>match xs with
   | [.ptr b o]=>match kj P s f with
     | some n=>some<|.ptr b<|o+n
     | none=>none
   | _=>none
 | .field s _ f=>match xs with
   | [.agg l]=>match pw P s f with
     | some n=>l[n]?
     | none=>match px P s f with
       | some (C,off)=>match cP P C with
         | some (some n)=>some<|.agg<|(l.drop off).take n
         | _=>none
       | none=>none
   | _=>none
 | .indexAddr s _ _=>match xs with
   | [.sl b o n _ _,.int _ (.ofNat i)]=>match cC P s with
     | some e=>cond (aq i n) (some<|.ptr b<|o+i*e) none
     | none=>none
   | [.ptr b o,.int _ (.ofNat i)]=>match j9 P s with
     | some (n,e)=>cond (aq i n) (some<|.ptr b<|o+i*e) none
     | none=>none
   | _=>none
 | .index t _ _=>match xs with
   | [.str l,.int _ (.ofNat i)]=>cond (isStr P t) (match l[i]? with
     | some c=>de .u8 c.toNat
     | none=>none) none
   | [.agg l,.int _ (.ofNat i)]=>match rI P t with
     | some (n,s)=>cond (aq i n) l[i*s]? none
     | none=>none
   | _=>none
 | .binOp op t x y _=>match xs with
   | [a,b]=>oW P (au x || au y) op t a b
   | _=>none
 | .unOp .not _ _=>match xs with
   | [.bool b]=>some<|.bool<|!b
   | _=>none
 | .convert t u _=>match xs with
   | [.int _ n]=>rX P t u n
   | _=>none
 | .slice t _ lo hi mx=>qz P t lo hi mx xs
 | .makeInterface t _=>match xs with
   | [x]=>cond (gV P t) (some<|.eE t x) none
   | _=>none
 | .typeAssert _ _ a true =>match xs with
   | [.cQ]=>cond (gV P a) (match zeroV P a with
     | some z=>match fk 4 z with
       | some z=>some<|.bo [z,.bool false]
       | none=>none
     | none=>none) none
   | [.eE t v]=>cond (gV P a && av t a) (some<|.bo [v,.bool true]) none
   | _=>none
 | .makeFunc (.func f) ⟨a⟩ _=>some<|.fn f (xs.take a.length)<|xs.drop a.length
 | .build t ⟨ps⟩=>match jE P t with
   | some (pl,A)=>match gp (fk 4) A with
     | some A=>match jm (fun i=>pl.toArray[i]?) A (ie ps xs) with
       | some l=>some<|.agg l
       | none=>none
     | none=>none
   | none=>none
 | .call ⟨.builtin b,_,ts⟩=>oX P b ts xs
 | _=>none
section
variable {P:aj} {r:Rn} {N:Fm} {σ:Nat→ab} {dst:Option Nat} {ty:ai} {pos :String} {af:Array bD} {g:Option (Nat×Bool)} {x y z:ax}
theorem lK {t:ai} (h:fI P t=true):∃ e,P.underlying t=some (.slice e):=by
 unfold fI at h; split at h
 · exact ⟨_,by assumption⟩
 · cases h
theorem xP {b:Builtin} {l:List ax} {J:Array ai} {xs:List AV} {v:AV} (h:oX P b J xs=some v) (E:ar r xs=some (l.map<|ev N σ)):YP P r N σ ⟨dst,.call ⟨.builtin b,⟨l⟩,J⟩,ty,pos,af,g⟩ v:=by
 unfold oX at h;have one:∀ {a:AV},ar r [a]=some (l.map<|ev N σ)→∃ x,l= [x]∧den r a=some (ev N σ x):=by
  intro a h;have :=bM h;simp at this;obtain ⟨x,rfl⟩:=mC.1 this;exact ⟨x,U,c9 h⟩
 have two:∀ {a b:AV},ar r [a,b]=some (l.map<|ev N σ)→∃ x y,l= [x,y]∧den r a=some (ev N σ x)∧den r b=some (ev N σ y):=by
  intro a b h;have :=bM h;simp at this;obtain ⟨x,y,rfl⟩:∃ x y,l= [x,y]:=by
   match l,this with
   | [x,y],_=>exact ⟨x,y,rfl⟩
  exact ⟨x,y,U,eu h⟩
 split at h
 · split at h
   · obtain ⟨x,rfl,C⟩:=one E;replace h:=ay h; obtain ⟨A,h⟩:=h;rw [dA] at h; cases h;exact ⟨_,U,fun w=>tI (iG A) U<|dZ C⟩
   · obtain ⟨x,rfl,C⟩:=one E;replace h:=ay h; obtain ⟨A,h⟩:=h;rw [dA] at h; cases h;obtain ⟨e,he⟩:=lK A;obtain ⟨q,cap,M,_,hu,_⟩:=eN C;exact ⟨_,U,fun w=>pS he U hu⟩
   · obtain ⟨x,rfl,C⟩:=one E;replace h:=ay h; obtain ⟨A,h⟩:=h;rw [dA] at h; cases h;obtain ⟨e,he⟩:=lK A;exact ⟨_,U,fun w=>pS he U<|eA C⟩
   · cases h
 · split at h
   · rename_i k a L b;obtain ⟨x,y,rfl,C,I⟩:=two E;replace h:=ay h; obtain ⟨A,h⟩:=h;obtain rfl :=jo A;rw [dA] at h; cases h;exact ⟨_,U,fun w=>mn (bG C)<|bG I⟩
   · cases h
 · split at h
   · rename_i k a L b;obtain ⟨x,y,rfl,C,I⟩:=two E;replace h:=ay h; obtain ⟨A,h⟩:=h;obtain rfl :=jo A;rw [dA] at h; cases h;exact ⟨_,U,fun w=>mx (bG C)<|bG I⟩
   · cases h
 · cases h
theorem xO {t:ai} {parts:Array (Nat×ax)} {pl:List (Nat×Nat)} {C L:List ab} (h:jE P t=some (pl,C)) (A:fN (pl.toArray[·]?) C.toArray (parts.toList.map fun p=>(p.1,ev N σ p.2))=some L.toArray) (w:ae):
 (execOp (ev N σ) ⟨dst,.build t parts,ty,pos,af,g⟩).run P w= .ok (.value<|.agg L.toArray) w:=by
 unfold jE at h;split at h
 · rename_i it fields hi hu;split at h
   · rename_i z I E hm;simp only [aQ,oM] at h;obtain ⟨rfl,rfl⟩:=h;have hb:P.built t (parts.map fun p=>(p.1,ev N σ p.2)).toList=some L.toArray:=by
      simp only [Array.toArray_toList] at A;simp only [Program.built,hi,hu,E,hm,gy]; exact A
     simp [execOp,run_build w t _ _ hb]
   · cases h
 · cases h
theorem uf {o:Op} {xs:List AV} {v:AV} (h:jw P o xs=some v) (E:ar r xs=some ((dK o).map<|ev N σ)):YP P r N σ ⟨dst,o,ty,pos,af,g⟩ v:=by
 unfold jw at h;split at h
 · split at h
   · cases h; exact ⟨_,c9 E,fun w=>mv⟩
   · cases h
 · split at h
   · cases h; exact ⟨_,c9 E,fun w=>aF⟩
   · cases h
 · split at h
   · cases h;obtain ⟨A,I,aa⟩:=iz E;exact ⟨_,I,fun w=>qk<|fg A⟩
   · cases h;obtain ⟨A,I,aa⟩:=iz E;exact ⟨_,aa,fun w=>uj<|fg A⟩
   · cases h
 · split at h
   · cases h;have A:=c9 E;obtain ⟨q,O,hu⟩:=eM A;exact ⟨_,A.trans (by rw [hu]),fun w=>nc hu⟩
   · cases h
 · split at h
   · obtain ⟨us,L,hu⟩:=si<|c9 E;obtain ⟨u,V,Z⟩:=kb L h;exact ⟨u,Z,fun w=>xt hu<|by simpa using V⟩
   · cases h
 · split at h
   · split at h
     · rename_i n hn;cases h;obtain ⟨q,O,hu⟩:=eM<|c9 E;exact ⟨_,by simp only [den,O]; rfl,fun w=>(fa hn hu).trans<|by rw [eo]⟩
     · cases h
   · cases h
 · split at h
   · split at h
     · rename_i n hn;obtain ⟨us,L,hu⟩:=ly<|c9 E;obtain ⟨u,V,Z⟩:=kb L h;exact ⟨u,Z,fun w=>y5 hn hu<|by simpa using V⟩
     · split at h
       · rename_i ao off aj;split at h
         · rename_i n ha;cases h;obtain ⟨us,L,hu⟩:=ly<|c9 E;have A:=ff n<|fD off L;exact ⟨_,by simp only [den,A],fun w=>zd aj ha hu U⟩
         · cases h
       · cases h
   · cases h
 · split at h
   · split at h
     · rename_i e he;replace h:=ay h; obtain ⟨J,h⟩:=h;cases h;obtain ⟨A,I⟩:=eu E;obtain ⟨q,cap,O,L,hu,_⟩:=eN A;have :=bA.1 J;refine ⟨_,by simp only [den,O]; rfl,fun w=>(ia he hu (bG I) ⟨dE _,by simp; omega⟩).trans ?_⟩;simp [eo]
     · cases h
   · split at h
     · rename_i n e he;replace h:=ay h; obtain ⟨J,h⟩:=h;cases h;obtain ⟨A,I⟩:=eu E;obtain ⟨q,O,hu⟩:=eM A;have :=bA.1 J;refine ⟨_,by simp only [den,O]; rfl,fun w=>(zt he hu (bG I) ⟨dE _,by simp; omega⟩).trans ?_⟩;simp [eo]
     · cases h
   · cases h
 · split at h
   · rename_i t _ _ l k i;replace h:=ay h; obtain ⟨J,h⟩:=h;obtain ⟨A,I⟩:=eu E;split at h
     · rename_i c L;rw [dA] at h; cases h;obtain ⟨am,ae⟩:=bZ.1 L;refine ⟨_,U,fun w=>(ni (iG J) (dZ A) (bG I) am).trans ?_⟩;simp [iU,L]
     · cases h
   · rename_i l k i;split at h
     · rename_i n s M;replace h:=ay h; obtain ⟨J,h⟩:=h;have J:=bA.1 J;obtain ⟨A,I⟩:=eu E;obtain ⟨us,L,hu⟩:=ly A;obtain ⟨u,V,Z⟩:=kb L h;have an:=bG I;unfold rI at M;split at M
       · rename_i ap e hn;split at M
         · rename_i j ak;split at M
           · rename_i ha;cases M;refine ⟨u,Z,fun w=> ?_⟩;have ae:us.toArray[i*j.size]? =some u:=by simpa using V
             have h0:(0:Int)≤gF i∧gF i < (n:Int):=⟨dE _,by simp; omega⟩
             simp only [execOp,Instr.index,hu,an,asIntOf,ek,fP,dV,aC hn,Sem.run_ite,h0,and_self,if_true,sizeOf,bU ak,part,uy ha];simp [ae]
           · cases M
         · cases M
       · cases M
     · cases h
   · cases h
 · split at h
   · obtain ⟨A,I⟩:=eu E;exact xN (fun h=>h) h A I
   · cases h
 · split at h
   · cases h; exact ⟨_,rfl,fun w=>no<|fg<|c9 E⟩
   · cases h
 · split at h
   · unfold rX at h;split at h
     · rename_i k al;replace h:=ay h; obtain ⟨J,h⟩:=h;rw [dA,mb] at h; cases h;exact ⟨_,U,fun w=>yz al J (bG<|c9 E) U⟩
     · cases h
   · cases h
 · exact Bn h E
 · split at h
   · replace h:=ay h; obtain ⟨J,h⟩:=h;cases h;have A:=c9 E;exact ⟨_,by simp only [den,A],fun w=>Ae J U⟩
   · cases h
 · split at h
   · replace h:=ay h; obtain ⟨J,h⟩:=h;split at h
     · rename_i z ab;split at h
       · rename_i av ac;cases h;have aa:=iK (r:=r) 4 ac;exact ⟨_,by simp [den,ar,aa],fun w=>BN J ab<|ke<|c9 E⟩
       · cases h
     · cases h
   · replace h:=ay h; obtain ⟨J,h⟩:=h;simp only [aD] at J;obtain rfl :=aW J.2;cases h;obtain ⟨au,A,I⟩:=mU<|c9 E;exact ⟨_,by simp [den,ar,A],fun w=>BM J.1 I⟩
   · cases h
 · rename_i f a c;cases h;simp only [dK,mD] at E;obtain ⟨c⟩:=c;simp only at E;have A:=ff a.length E;have I:=fD a.length E;rw [List.take_left' (by simp)] at A;rw [List.drop_left' (by simp)] at I;exact ⟨_,by simp only [den,A,I],fun w=>ny⟩
 · rename_i t ps;split at h
   · rename_i pl aw M;split at h
     · rename_i ax ab;split at h
       · rename_i l ah;cases h;have ac:=kr (r:=r) (fun v a=>iK 4) ab;obtain ⟨A,I⟩:=qZ (f:=ev N σ) E;obtain ⟨C,ag,ai⟩:=pz ah ac A I;exact ⟨.agg C.toArray,by simp only [den,ag],fun w=>xO M ai w⟩
       · cases h
     · cases h
   · cases h
 · rename_i b ad aq;obtain ⟨ad⟩:=ad;exact xP h E
 · cases h
end
end Go.Hb
namespace Go.Hb
theorem tO {r s:Rn} (h:r.le s):∀ {l:List (AV×AV)} {es:List MapEntry},dJ r l es→dJ s l es
 | [],[],_=>trivial
 | p::l,m::es,hm=>⟨gO h hm.1,gO h hm.2.1,tO h hm.2.2⟩
 | [],_::_,hm=>hm.elim
 | _::_,[],hm=>hm.elim
theorem OR.le {P:aj} {r s:Rn} (h:r.le s) {q:Loc} {o:AO} {ob:Option Obj} (I:OR P r q o ob):OR P s q o ob:=by
 cases o with
 | cells l e U ex=>obtain ⟨c,fr,us,A,C,E⟩:=I; exact ⟨c,fr,us,A,ew h C,E⟩
 | map l=>obtain ⟨es,c,A,C,E⟩:=I; exact ⟨es,c,A,tO h C,E⟩
 | loop st V n fr ps aF body D=>
   obtain ⟨fn,L,O,A,⟨x,C,E⟩,h4,h5⟩:=I;refine ⟨fn,L,O,A,⟨x,h _ _ C,E⟩,h4,fun i hi=> ?_⟩;have J:=h5 i hi;have M:i < L.size:=ag;rw [jK M] at J ⊢;exact gO h J
 | ji b=>exact I
 | qI l p=>exact I
structure HR (P:aj) (G:Nat) (r:Rn) (T:Nat) (h:Hp) (w:ae):Prop where
 live:∀ i o,h.t.get i=some o→∃ q,r i=some q∧OR P r q o w.heap[q.ak]?
 inj:∀ i j o o' q q',h.t.get i=some o→h.t.get j=some o'→r i=some q→r j=some q'→q.ak=q'.ak→i=j
 new:∀ i,h.nx≤i→i < T→r i=none
 dz:j3 G r
 base:G≤h.nx
def Fr (G:Nat) (r:Rn) (h:Hp) (k:Nat):Prop := ∃ i o q,G≤i∧h.t.get i=some o∧r i=some q∧q.ak=k
structure St (P:aj) (G T:Nat) (r:Rn) (h:Hp) (w:ae) (r':Rn) (h':Hp) (w':ae):Prop where
 le:r.le r'
 hr:HR P G r' T h' w'
 nx:h.nx≤h'.nx
 md:Md (Fr G r h) w w'
 cH:∀ g,g≤G→∀ k,k < w.heap.size→Fr g r' h' k→Fr g r h k
 out:∀ i,h'.nx≤i→r' i=r i
theorem St.trans {P:aj} {G T:Nat} {r r' L:Rn} {h E I:Hp} {w w' w'':ae} (a:St P G T r h w r' E w') (b:St P G T r' E w' L I w''):St P G T r h w L I w'':=
 ⟨Rn.le_trans a.le b.le,b.hr,bK a.nx b.nx,Md.trans' a.md b.md (fun k A C=>a.cH G (aI _) k A C),fun g J k A C=>a.cH g J k A (b.cH g J k (iY A a.md.size) C),fun i hi=>(b.out i hi).trans<|a.out i<|bK b.nx hi⟩
theorem St.refl {P:aj} {G T:Nat} {r:Rn} {h:Hp} {w:ae} (hr:HR P G r T h w):St P G T r h w r h w:=⟨Rn.le_refl r,hr,aI _,Md.refl _ _,fun _ _ _ _ h=>h,fun _ _=>rfl⟩
theorem St.drew {P:aj} {G T:Nat} {r r':Rn} {h A:Hp} {w w':ae} (a:St P G T r h w.drew r' A w'):St P G T r h w r' A w':=⟨a.le,a.hr,a.nx,⟨a.md.os,a.md.output,a.md.size,a.md.bW⟩,a.cH,a.out⟩
section
variable {P:aj} {G:Nat} {r:Rn} {T:Nat} {h:Hp} {w:ae}
theorem HR.drew (hr:HR P G r T h w):HR P G r T h w.drew:=⟨hr.live,hr.inj,hr.new,hr.dz,hr.base⟩
theorem HR.cells (hr:HR P G r T h w) {b:Nat} {l:List AV} {e C:Nat} {ex:Ck} (hb:h.t.get b=some (.cells l e C ex)):
 ∃ q us,r b=some q∧ar r l=some us∧(∀ j u,us[j]? =some u→aK w.heap q.ak (q.sh+j)=some u)∧∃ c fr,w.heap[q.ak]? =some (.cells c e fr):=by
 obtain ⟨q,L,c,fr,us,A,E,M,I,_⟩:=hr.live b _ hb;exact ⟨q,us,L,E,fun j u J=>by rw [dQ A]; exact I j u J,c,fr,A⟩
def YL (P:aj) (r:Rn) (N:Fm) (σ:Nat→ab) (o:an) (w:ae) (v:AV):Prop := ∃ u,den r v=some u∧(execOp (ev N σ) o).run P w= .ok (.value u) w
end
def jF:List AV→Option (List UInt8)
 | []=>some []
 | .int .u8 (.ofNat n)::l=>match jF l with
   | some m=>cond (aq n 256) (some (dF n::m)) none
   | none=>none
 | _=>none
theorem qN {r:Rn} :∀ {l:List AV} {m:List UInt8} {us:List ab},jF l=some m→ar r l=some us→us=U8 m
 | [],m,us,h,hd=>by simp only [jF,aQ] at h; subst h; rw [fZ hd]; rfl
 | a::l,m,us,h,hd=>by
   unfold jF at h;split at h
   · rename_i h0; cases h0
   · rename_i n I h0;cases h0;split at h
     · rename_i J hm;replace h:=ay h; obtain ⟨E,h⟩:=h;cases h;obtain ⟨u,L,rfl,A,C⟩:=cF hd;obtain rfl :=bG A;obtain rfl :=qN hm C;have :=bA.1 E;simp only [U8,cx,fQ,and_true];congr 1;exact (BW n this).symm
     · cases h
   · cases h
inductive KK | s | i (k:aH) | bs
def js (P:aj) (k:ai) (a:AV):Option KK:=match a with
 | .str _=>cond (isStr P k) (some .s) none
 | .int q _=>match P.underlying k with
   | some (.int _)=>some<|.i q
   | _=>none
 | .agg _=>cond (je P k) (some .bs) none
 | _=>none
def cg (A:KK) (a:AV):Bool:=match A,a with
 | .s,.str _=>true
 | .i k,.int k' _=>av (cy k)<|cy k'
 | .bs,.agg [.bool _,.str _]=>true
 | _,_=>false
def dd (A:KK):List (AV×AV)→Bool
 | []=>true
 | p::l=>cond (cg A p.1) (dd A l) false
def ko:KK→ab→Prop
 | .s=>zy
 | .i k=>tf k
 | .bs=>pM
where zy (v:ab):Prop := ∃ s:List UInt8,v=str s
def dI (a b:AV):Bool:=match a,b with
 | .str l,.str m=>eB l m
 | .int _ a,.int _ b=>decide (a=b)
 | .agg [.bool a,.str l],.agg [.bool b,.str m]=>cond (a==b) (eB l m) false
 | _,_=>false
def iH (x:AV):List (AV×AV)→Option AV
 | []=>none
 | p::l=>cond (dI p.1 x) (some p.2)<|iH x l
section
variable {P:aj} {r:Rn}
theorem nj {C:KK} {a:AV} {u:ab} (h:cg C a=true) (A:den r a=some u):ko C u:=by
 unfold cg at h;split at h
 · exact ⟨_,dZ A⟩
 · rename_i k O n;obtain rfl :=jo h;exact ⟨_,bG A⟩
 · obtain ⟨us,E,rfl⟩:=ly A;obtain ⟨V,aa,rfl,I,J⟩:=cF E;obtain ⟨Z,ac,rfl,L,M⟩:=cF J;obtain rfl :=fZ M;obtain rfl :=fg I;obtain rfl :=dZ L;exact ⟨_,_,U⟩
 · cases h
theorem tt {a:AV} (h:cg .s a=true):∃ l,a= .str l:=by
 cases a with
 | str l=>exact ⟨l,rfl⟩
 | _=>exact cz (show false =true from h)
theorem tq {k:aH} {a:AV} (h:cg (.i k) a=true):∃ n,a= .int k n:=by
 cases a with
 | int A n=>exact ⟨n,by rw [jo (show av (cy k) (cy A)=true from h)]⟩
 | _=>exact cz (show false =true from h)
theorem tl {a:AV} (h:cg .bs a=true):∃ f l,a= .agg [.bool f,.str l]:=by
 unfold cg at h;split at h <;> first
  | exact ⟨_,_,rfl⟩
  | contradiction
  | (exfalso; cases h; done)
  | (rename_i A; cases A; done)
  | (rename_i A _; cases A; done)
theorem sd {f:Bool} {l:List UInt8} {u:ab} (h:den r (.agg [.bool f,.str l])=some u):u= .agg #[.bool f,str l]:=by simpa [den,ar] using h.symm
theorem str_inj {l m:List UInt8} (h:str l=str m):l=m:=by unfold str at h; cases h; rfl
theorem gU {I:KK} {a b:AV} {u v:ab} (A:cg I a=true) (C:cg I b=true) (hu:den r a=some u) (E:den r b=some v):dI a b=true↔u=v:=by
 cases I with
 | s=>
   obtain ⟨l,rfl⟩:=tt A;obtain ⟨m,rfl⟩:=tt C;rw [dZ hu,dZ E];simp only [dI,kh,decide_eq_true_iff];exact ⟨fun h=>by rw [h],str_inj⟩
 | i k=>
   obtain ⟨l,rfl⟩:=tq A;obtain ⟨m,rfl⟩:=tq C;rw [bG hu,bG E];simp only [dI,decide_eq_true_iff];exact ⟨fun h=>by rw [h],fun h=>by cases h; rfl⟩
 | bs=>
   obtain ⟨f,l,rfl⟩:=tl A;obtain ⟨g,m,rfl⟩:=tl C;rw [sd hu,sd E];simp only [dI,kh];cases hab:(f==g)
   · have :f≠g:=by simpa using hab
     exact ⟨fun h=>cz h,fun h=>by simp at h; exact absurd h.1 this⟩
   · obtain rfl :f=g:=by simpa using hab
     simp only [cond_true,decide_eq_true_iff];exact ⟨fun h=>by rw [h],fun h=>by simp at h; exact str_inj h⟩
theorem pP {k:ai} {a:AV} {C:KK} (h:js P k a=some C):j4 P k (ko C):=by
 unfold js at h;split at h
 · replace h:=ay h; obtain ⟨A,h⟩:=h;cases h;exact (pO<|iG A).key
 · split at h
   · cases h; exact (tj<|by assumption).key
   · cases h
 · replace h:=ay h; obtain ⟨A,h⟩:=h;cases h;exact zI A
 · cases h
theorem nv {A:KK} :∀ {l:List (AV×AV)} {es:List MapEntry},dJ r l es→dd A l=true→∀ p∈es.map (fun e=>(e.key,e.val)),ko A p.1
 | [],[],_,_,p,hp=>by simp at hp
 | q::l,m::es,hm,hk,p,hp=>by
   simp only [dd] at hk;cases h1:cg A q.1
   · rw [h1] at hk; cases hk
   · rw [h1] at hk;rcases cU.1 hp with rfl | hp
     · exact nj h1 hm.1
     · exact nv hm.2.2 hk p hp
 | [],_::_,hm,_,_,_=>hm.elim
 | _::_,[],hm,_,_,_=>hm.elim
theorem th {E:KK} {x v:AV} {kx:ab} (C:cg E x=true) (A:den r x=some kx):∀ {l:List (AV×AV)} {es:List MapEntry},dJ r l es→dd E l=true→iH x l=some v→∃ u,den r v=some u∧(kx,u)∈es.map (fun e=>(e.key,e.val))
 | [],_,_,_,h=>by cases h
 | q::l,[],hm,_,_=>hm.elim
 | q::l,m::es,hm,hk,h=>by
   simp only [dd] at hk;cases h1:cg E q.1
   · rw [h1] at hk; cases hk
   · rw [h1] at hk;simp only [iH] at h;cases he:dI q.1 x
     case true =>
      have he:=(gU h1 C hm.1 A).1 he;rw [(gU h1 C hm.1 A).2 he] at h;cases h;exact ⟨m.val,hm.2.1,by rw [← he]; exact fS⟩
     case false =>
      rw [he] at h;obtain ⟨u,I,J⟩:=th C A hm.2.2 hk h;exact ⟨u,I,gH _ J⟩
theorem pN {C:KK} {x:AV} {kx:ab} (I:cg C x=true) (E:den r x=some kx):∀ {l:List (AV×AV)} {es:List MapEntry},dJ r l es→dd C l=true→iH x l=none→∀ v,(kx,v)∉es.map (fun e=>(e.key,e.val))
 | [],[],_,_,_,v=>by simp
 | [],_::_,hm,_,_,_=>hm.elim
 | q::l,[],hm,_,_,_=>hm.elim
 | q::l,m::es,hm,hk,h,v=>by
   simp only [dd] at hk;cases h1:cg C q.1
   · rw [h1] at hk; cases hk
   · rw [h1] at hk;simp only [iH] at h;cases he:dI q.1 x
     case true =>rw [he] at h; cases h
     case false =>
      rw [he] at h;intro J;rcases cU.1 J with A | A
      · cases A; have :=(gU h1 I hm.1 E).2 rfl; rw [he] at this; cases this
      · exact pN I E hm.2.2 hk h v A
end
end Go.Hb
namespace Go.Hb
def rY (P:aj) (t u:ai) (x:AV) (h:Hp):Option AV:=match x with
 | .sl _ _ 0 _ _=>match P.underlying t with
   | some (.slice e)=>cond (iy P t e u) (some<|.str []) none
   | _=>none
 | .sl b o n _ _=>match h.t.get b with
   | some (.cells l e _ _)=>cond (iy P t e u && aA (o+n) l.length) (match jF ((l.drop o).take n) with
     | some m=>some<|.str m
     | none=>none) none
   | _=>none
 | .cW=>match P.underlying t with
   | some (.slice e)=>cond (iy P t e u) (some<|.str []) none
   | _=>none
 | .ptr b 0=>match h.t.get b with
   | some (.cells l e 0 .x)=>cond (jG P t u e l.length || jG P u t e l.length) (some<|.ptr b 0) none
   | _=>none
 | _=>none
def nk (P:aj) (t:ai) (x:AV) (h:Hp):Option AV:=match x with
 | .ptr b o=>match h.t.get b with
   | some (.cells l _ _ _)=>match cP P t with
     | some none=>l[o]?
     | some (some n)=>cond (aA (o+n) l.length) (some<|.agg<|(l.drop o).take n) none
     | none=>none
   | _=>none
 | _=>none
def fm (P:aj) (o:Op) (xs:List AV) (h:Hp):Option AV:=match o with
 | .load t _=>match xs with
   | [x]=>nk P t x h
   | _=>none
 | .lookup t _ _ ok=>match xs with
   | [.map b,k]=>match h.t.get b with
     | some (.map l)=>match P.underlying t with
       | some (.map kt e)=>match js P kt k with
         | some A=>cond (cg A k && dd A l) (match iH k l with
           | some v=>some<|cond ok (.bo [v,.bool true]) v
           | none=>match zeroV P e with
             | some z=>match fk 4 z with
               | some z=>some<|cond ok (.bo [z,.bool false]) z
               | none=>none
             | none=>none) none
         | none=>none
       | _=>none
     | _=>none
   | _=>none
 | .convert t u _=>match xs with
   | [x]=>rY P t u x h
   | _=>none
 | .slice t _ none none none=>match xs with
   | [.ptr b 0]=>match h.t.get b with
     | some (.cells _ _ _ .x)=>match j9 P t with
       | some (n,_)=>some<|.sl b 0 n n true
       | none=>none
     | _=>none
   | _=>none
 | .call ⟨.builtin .len,_,⟨[t]⟩⟩=>match xs with
   | [.map b]=>match h.t.get b with
     | some (.map l)=>match P.underlying t with
       | some (.map _ _)=>de .i64 l.length
       | _=>none
     | _=>none
   | _=>none
 | _=>none
section
variable {P:aj} {G:Nat} {r:Rn} {T:Nat} {h:Hp} {w:ae} {N:Fm} {σ:Nat→ab} {dst:Option Nat} {ty:ai} {pos :String} {af:Array bD} {g:Option (Nat×Bool)} {x y z:ax}
theorem tP:∀ {l:List (AV×AV)} {es:List MapEntry},dJ r l es→es.length=l.length
 | [],[],_=>rfl
 | p::l,m::es,hm=>by simp [tP hm.2.2]
 | [],_::_,hm=>hm.elim
 | _::_,[],hm=>hm.elim
theorem HR.map (hr:HR P G r T h w) {b:Nat} {l:List (AV×AV)} (hb:h.t.get b=some (.map l)):∃ q es c,r b=some q∧w.heap[q.ak]? =some (.map es c)∧dJ r l es.toList∧(es.toList.map fun e=>e.key).Nodup:=by
 obtain ⟨q,I,es,c,A,C,E⟩:=hr.live b _ hb;exact ⟨q,es,c,I,A,C,E⟩
theorem tz (hr:HR P G r T h w) {t:ai} {a v:AV} {v0:ab} (A:nk P t a h=some v) (V:den r a=some v0):∃ b off u,v0= .pointer (some ⟨b,off,none⟩)∧den r v=some u∧
 ((cP P t=some none∧aK w.heap b off =some u)∨∃ (n:Nat) (cs:List ab),cP P t=some (some n)∧u= .agg cs.toArray∧cs.length=n∧∀ j,j < n→aK w.heap b (off+j)=cs[j]?):=by
 unfold nk at A;split at A
 · rename_i b o;split at A
   · rename_i l _ _ _ hb;obtain ⟨q,us,aa,E,I,_⟩:=hr.cells hb;obtain ⟨q',L,rfl⟩:=eM V;rw [aa] at L; cases L;split at A
     · rename_i ha;obtain ⟨u,C,M⟩:=kb E A;exact ⟨_,_,u,U,M,.inl ⟨ha,I _ _ C⟩⟩
     · rename_i n ha;replace A:=ay A; obtain ⟨O,A⟩:=A;have hle:=aP O;cases A;have C:=ff n<|fD o E;have hlen:=bM E;refine ⟨_,_,.agg ((us.drop o).take n).toArray,U,by simp only [den,C],.inr ⟨n,_,ha,U,by simp; omega,fun j Z=> ?_⟩⟩;rw [fR,if_pos Z,gG];have J:o+j < us.length:=ag;rw [eo,cK J];exact I _ _<|cK J
     · cases A
   · cases A
 · cases A
theorem ue (hr:HR P G r T h w) {o:Op} {xs:List AV} {v:AV} (A:fm P o xs h=some v) (Z:ar r xs=some ((dK o).map<|ev N σ)):YL P r N σ ⟨dst,o,ty,pos,af,g⟩ w v:=by
 unfold fm at A;split at A
 · split at A
   · obtain ⟨b,off,u,O,hu,J⟩:=tz hr A<|c9 Z;rcases J with ⟨ha,E⟩ | ⟨n,cs,ha,rfl,aa,E⟩
     · exact ⟨u,hu,ld ha O E⟩
     · exact ⟨_,hu,tA ha O aa E⟩
   · cases A
 · rename_i t a b ok;split at A
   · rename_i b k;split at A
     · rename_i l hb;obtain ⟨q,es,c,L,hw,hm,hn⟩:=hr.map hb;obtain ⟨J,M⟩:=eu Z;obtain ⟨q',C,hu⟩:=jj J;rw [L] at C; cases C;split at A
       · rename_i kt e ae;split at A
         · rename_i aA av;replace A:=ay A; obtain ⟨E,A⟩:=A;simp only [aD] at E;have aj:=pP av;have am:fW w.heap q.ak (es.toList.map fun e=>(e.key,e.val)):=⟨es,c,hw,rfl⟩
           have al:=nv hm E.2;have hi:=nj E.1 M;split at A
           · rename_i aB ai;cases A;obtain ⟨u,V,ab⟩:=th E.1 M hm E.2 ai;refine ⟨if ok then .tuple #[u,.bool true] else u,?_,tD ae aj am al hu U hi (by rw [oG]; exact hn) ab⟩;cases ok
             · exact V
             · simp [den,ar,V]
           · rename_i ai;have ab:=pN E.1 M hm E.2 ai;split at A
             · rename_i z ax;split at A
               · rename_i aC az;cases A;have V:=iK (r:=r) 4 az;refine ⟨if ok then .tuple #[z,.bool false] else z,?_,tE ae ax aj am al hu U hi ab⟩;cases ok
                 · exact V
                 · simp [den,ar,V]
               · cases A
             · cases A
         · cases A
       · cases A
     · cases A
   · cases A
 · rename_i t u a;split at A
   · rename_i x;have O:=c9 Z;unfold rY at A;split at A
     · split at A
       · rename_i e he;replace A:=ay A; obtain ⟨I,A⟩:=A;cases A;obtain ⟨q',cap,C,hn,hu,_⟩:=eN O;exact ⟨_,U,pf I hu (aZ.nil _ _) U⟩
       · cases A
     · rename_i b o n c q _;split at A
       · rename_i l e _ _ hb;obtain ⟨q,us,L,aa,E,_⟩:=hr.cells hb;obtain ⟨q',cap,C,hn,hu,_⟩:=eN O;rw [L] at C; cases C;replace A:=ay A; obtain ⟨I,A⟩:=A;simp only [aD] at I;have hle:=aP I.2;split at A
         · rename_i m hm;cases A;have J:=ff n<|fD o aa;have M:=qN hm J;have hlen:=bM aa;have aw:m.length=n:=by
            have :=congrArg wx M;simp [oS] at this;omega
           refine ⟨_,U,pf I.1 hu ⟨fun _=>rfl,fun j u ac=> ?_⟩ aw⟩;rw [← M,fR] at ac;split at ac
           · rw [gG] at ac;show aK w.heap q.ak (q.sh+o+j)=some u;rw [eo]; exact E _ _ ac
           · cases ac
         · cases A
       · cases A
     · split at A
       · rename_i e he;replace A:=ay A; obtain ⟨I,A⟩:=A;cases A;exact ⟨_,U,pf I (eA O) (aZ.nil _ _) U⟩
       · cases A
     · rename_i b;split at A
       · rename_i l e hb;replace A:=ay A; obtain ⟨I,A⟩:=A;cases A;obtain ⟨q,L,c,fr,us,J,M,V,ab,ao,ap,ah,aq⟩:=hr.live b _ hb;obtain ⟨ad,an,rfl⟩:=ah.1 rfl;obtain ⟨q',C,hu⟩:=eM O;rw [L] at C; cases C;rw [ad] at hu;have au:c=c.toList.toArray:=by simp
         rw [au] at J;refine ⟨_,O.trans (congrArg some hu),?_⟩;rcases vw.1 I with I | I
         · exact uV I hu J<|by simpa using an
         · exact sQ I hu J<|by simpa using an
       · cases A
     · cases A
   · cases A
 · split at A
   · rename_i b;split at A
     · rename_i hb;split at A
       · rename_i n _ hn;cases A;obtain ⟨q,L,c,fr,us,J,M,V,ab,ao,ap,ah,aq⟩:=hr.live b _ hb;obtain ⟨ad,_,_⟩:=ah.1 rfl;obtain ⟨q',C,hu⟩:=eM<|c9 Z;rw [L] at C; cases C;rw [ad] at hu;exact ⟨_,by rw [iA L (aI _),ad],xG hn hu⟩
       · cases A
     · cases A
   · cases A
 · rename_i ag t;split at A
   · rename_i b;split at A
     · rename_i l hb;obtain ⟨q,es,c,L,hw,hm,hn⟩:=hr.map hb;split at A
       · rename_i ae;rw [dA] at A; cases A;obtain ⟨ag⟩:=ag;have aa:=bM Z;obtain ⟨x,rfl⟩:∃ x,ag= [x]:=mC.1<|by simpa [dK] using aa
         obtain ⟨q',C,hu⟩:=jj<|c9 Z;rw [L] at C; cases C;refine ⟨_,U,?_⟩;have :=tH (dst:=dst) (ty:=ty) (pos :=pos) (af:=af) (g:=g) (P:=P) ae rfl hu hw;rw [this];have :=tP hm;rw [jL] at this;rw [this]
       · cases A
     · cases A
   · cases A
 · cases A
end
end Go.Hb
namespace Go.Hb
def Rn.ext (r:Rn) (i:Nat) (q:Loc):Rn:=fun k=>if k=i then some q else r k
theorem Rn.ea (r:Rn) (i:Nat) (q:Loc):r.ext i q i=some q:=if_pos rfl
theorem Rn.fG (r:Rn) {i k:Nat} (q:Loc) (h:k≠i):r.ext i q k=r k:=if_neg h
theorem Rn.lL {r:Rn} {i:Nat} (q:Loc) (h:r i=none):r.le (r.ext i q):=fun k x A=>by
 by_cases e:k=i
 · subst e; rw [h] at A; cases A
 · rw [Rn.fG r q e]; exact A
theorem OR.obj {P:aj} {r:Rn} {q:Loc} {o:AO} {ob:Option Obj} (h:OR P r q o ob):∃ b,ob=some b:=by
 cases o with
 | cells l e C ex=>obtain ⟨c,fr,us,A,_⟩:=h; exact ⟨_,A⟩
 | map l=>obtain ⟨es,c,A,_⟩:=h; exact ⟨_,A⟩
 | loop st E n fr ps aF body D=>obtain ⟨_,_,_,A,_⟩:=h; exact ⟨_,A⟩
 | ji b=>exact ⟨_,h⟩
 | qI l p=>exact ⟨_,h⟩
section
variable {P:aj} {G:Nat} {r:Rn} {T:Nat} {h:Hp} {w:ae}
theorem j3.le {r s:Rn} (A:j3 G r) (h:r.le s):j3 G s:=fun g C=>let ⟨m,hm⟩:=A g C; ⟨m,h _ _ hm⟩
theorem HR.lt (hr:HR P G r T h w) {i:Nat} {o:AO} {q:Loc} (hi:h.t.get i=some o) (E:r i=some q):q.ak < w.heap.size:=by
 obtain ⟨q',A,C⟩:=hr.live i o hi;rw [E] at A; cases A;obtain ⟨b,hb⟩:=C.obj;exact (bu.1 hb).1
theorem HR.put (hr:HR P G r T h w) {i aa:Nat} {o:AO} {q:Loc} {r':Rn} {w':ae} (hle:r.le r') (hi:aq i bp=true) (Z:r' i=some q) (ag:OR P r' q o w'.heap[q.ak]?)
 (hw:∀ k,k≠q.ak→k < w.heap.size→w'.heap[k]? =w.heap[k]?) (V:∀ j M q',j≠i→h.t.get j=some M→r j=some q'→q'.ak≠q.ak)
 (ad:h.nx≤aa) (ac:∀ k,aa≤k→k < T→r' k=none):HR P G r' T ⟨h.t.set i o,aa⟩ w':=by
 refine ⟨fun j M A=> ?_,fun j k O U ai aj A I C J he=> ?_,ac,hr.dz.le hle,bK hr.base ad⟩
 · rw [Tr.iD _ _ _ _ hi] at A;split at A
   · rename_i e; subst e; cases A; exact ⟨q,Z,ag⟩
   · rename_i e;obtain ⟨q',C,E⟩:=hr.live j M A;refine ⟨q',hle _ _ C,?_⟩;rw [hw _ (V j M q' e A C) (hr.lt A C)];exact E.le hle
 · simp only [Tr.iD _ _ _ _ hi] at A I;split at A
   · rename_i e;split at I
     · rename_i L; rw [e,L]
     · rename_i L;exfalso;subst e;rw [Z] at C; cases C;obtain ⟨q',E,_⟩:=hr.live k U I;rw [hle _ _ E] at J; cases J;exact V k U _ L I E he.symm
   · rename_i e;split at I
     · rename_i L;exfalso;subst L;rw [Z] at J; cases J;obtain ⟨q',E,_⟩:=hr.live j O A;rw [hle _ _ E] at C; cases C;exact V j O _ e A E he
     · obtain ⟨q',E,_⟩:=hr.live j O A;obtain ⟨ah,ab,_⟩:=hr.live k U I;rw [hle _ _ E] at C; cases C;rw [hle _ _ ab] at J; cases J;exact hr.inj j k O U _ _ A I E ab he
theorem HR.del (hr:HR P G r T h w) {i:Nat} (hi:aq i bp=true):HR P G r T ⟨h.t.del i,h.nx⟩ w:=by
 refine ⟨fun j o A=> ?_,fun j k E I J L A C=> ?_,hr.new,hr.dz,hr.base⟩
 · rw [Tr.kn _ _ _ hi] at A;split at A
   · cases A
   · exact hr.live j o A
 · simp only [Tr.kn _ _ _ hi] at A C;split at A
   · cases A
   · split at C
     · cases C
     · exact hr.inj j k E I J L A C
theorem Fr.set {g:Nat} {r':Rn} {i O:Nat} {o:AO} {q:Loc} (hi:aq i bp=true) (M:r' i=some q) (hle:r.le r') (hr:HR P G r T h w) {k:Nat} (L:Fr g r' ⟨h.t.set i o,O⟩ k):k=q.ak∨Fr g r h k:=by
 obtain ⟨j,I,q',J,A,C,rfl⟩:=L;rw [Tr.iD _ _ _ _ hi] at A;split at A
 · rename_i e; subst e; rw [M] at C; cases C; exact .inl rfl
 · obtain ⟨V,E,_⟩:=hr.live j I A;have :=hle _ _ E;rw [C] at this; cases this;exact .inr ⟨j,I,_,J,A,E,U⟩
def YM (P:aj) (G:Nat) (r:Rn) (T:Nat) (N:Fm) (σ:Nat→ab) (o:an) (h:Hp) (w:ae) (v:AV) (A:Hp):Prop :=
 ∃ r' u w',den r' v=some u∧((execOp (ev N σ) o).run P w= .ok (.value u) w'∨(execOp (ev N σ) o).run P w= .ok .skip w'∧u=undef)∧St P G T r h w r' A w'
def bI (h:Hp) (o:AO):Option Hp:=cond (aq h.nx bp) (some ⟨h.t.set h.nx o,h.nx+1⟩) none
theorem Ab (w:ae) (ob:Obj) (F:Nat→Prop):Md F w {w with heap:=w.heap.push ob} :=
 ⟨rfl,rfl,by simp,fun k A _=>by simp only [oh]; rw [if_neg ag]⟩
theorem HR.bI (hr:HR P G r T h w) {o:AO} {C:Hp} (hn:bI h o=some C) (hT:C.nx≤T) (room:Nat) {w':ae} {ob:Obj} (I:w'.heap=w.heap.push ob) (aa:w'.os=w.os) (ab:w'.output=w.output) (Z:∀ r',r.le r'→r' h.nx=some ⟨w.heap.size,0,room⟩→OR P r' ⟨w.heap.size,0,room⟩ o (some ob)):
 ∃ r',r' h.nx=some ⟨w.heap.size,0,room⟩∧St P G T r h w r' C w':=by
 unfold Hb.bI at hn;replace hn:=ay hn; obtain ⟨J,hn⟩:=hn;cases hn;simp only at hT;have hle:=Rn.lL (i:=h.nx) ⟨w.heap.size,0,room⟩<|hr.new h.nx (aI _) ag;have L:∀ k,k < w.heap.size→w'.heap[k]? =w.heap[k]? :=fun k A=>by rw [I,oh,if_neg ag]
 refine ⟨r.ext h.nx ⟨w.heap.size,0,room⟩,Rn.ea _ _ _,hle,hr.put hle J (Rn.ea _ _ _) ?_ (fun k _ V=>L k V) (fun j ah q' ad O ac=> ?_) (iu _) (fun k A U=> ?_),iu _,⟨aa,ab,by rw [I]; simp,fun k A _=>L k A⟩,fun g _ k A M=> ?_,fun k A=>Rn.fG _ _<|by simp only at A; omega⟩
 · rw [I]; simp only [oh,if_true]; exact Z _ hle<|Rn.ea _ _ _
 · have :=hr.lt O ac; simp only; omega
 · rw [Rn.fG _ _ ag]; exact hr.new k ag U
 · rcases Fr.set J (Rn.ea _ _ _) hle hr M with E | E
   · simp only at E; omega
   · exact E
theorem qf {r':Rn} {l:List AV} {us:List ab} {e b:Nat} (A:ar r' l=some us) (C:cI l=true):OR P r' ⟨b,0,0⟩ (.cells l e 0 .x) (some<|.cells us.toArray e (0,0)):=
 ⟨us.toArray,(0,0),us,rfl,A,by simp [bM A],fun j u E=>by simpa using E,aI _,ku A C,⟨fun _=>⟨rfl,by simp [bM A],rfl⟩,fun _=>rfl⟩,fun s _=>by simp⟩
variable {N:Fm} {σ:Nat→ab} {dst:Option Nat} {ty:ai} {pos :String} {af:Array bD} {g:Option (Nat×Bool)} {x y z:ax}
theorem YM.new (hr:HR P G r T h w) {o:an} {l:List AV} {us:List ab} {e:Nat} {A:Hp} {v:AV} {f:Nat→ab} (hn:Hb.bI h (.cells l e 0 .x)=some A) (hT:A.nx≤T) (E:ar r l=some us) (C:cI l=true)
 (L:(execOp (ev N σ) o).run P w= .ok (.value<|f w.heap.size) {w with heap:=w.heap.push<|.cells us.toArray e (0,0)}) (M:∀ r':Rn,r' h.nx=some ⟨w.heap.size,0,0⟩→den r' v=some (f w.heap.size)):YM P G r T N σ o h w v A:=by
 obtain ⟨r',I,J⟩:=hr.bI hn hT 0 (w':= {w with heap:=w.heap.push<|.cells us.toArray e (0,0)}) rfl rfl rfl fun r' hle _=>qf (ew hle E) C;exact ⟨r',_,_,M r' I,.inl L,J⟩
theorem HR.gZ (hr:HR P G r T h w) {i:Nat} {o L:AO} {q:Loc} {w':ae} (hi:h.t.get i=some L) (hb:aq i bp=true) (E:r i=some q) (M:G≤i) (Z:OR P r q o w'.heap[q.ak]?) (hm:Md (fun k=>k=q.ak) w w'):
 St P G T r h w r ⟨h.t.set i o,h.nx⟩ w':=by
 have J:∀ g,g≤G→Fr g r h q.ak:=fun g C=>⟨i,L,q,bK C M,hi,E,rfl⟩
 refine ⟨Rn.le_refl r,hr.put (Rn.le_refl r) hb E Z (fun k I V=>hm.bW k V I) (fun j aa ab U C A he=>U<|hr.inj j i _ _ _ _ C hi A E he) (aI _) hr.new,aI _,hm.mono fun k _ I=>by rw [I]; exact J G (aI _),fun g C k _ O=> ?_,fun _ _=>rfl⟩;rcases Fr.set hb E (Rn.le_refl r) hr O with A | A
 · rw [A]; exact J g C
 · exact A
end
end Go.Hb
namespace Go.Hb
def jr (x v:AV):List (AV×AV)→List (AV×AV)
 | []=> [(x,v)]
 | p::l=>cond (dI p.1 x) ((p.1,v)::l) (p::jr x v l)
def tu:KK→Bool
 | .bs=>false
 | _=>true
def kD (P:aj) (t:ai) (b:Nat) (k v:AV) (h:Hp):Option Hp:=match h.t.get b with
 | some (.map l)=>match P.underlying t with
   | some (.map kt e)=>match js P kt k with
     | some A=>cond (aq b bp && (aA h.nx b==false) && (cg A k && dd A l) && (tu A || (iH k l).isNone)) (some ⟨h.t.set b (.map<|jr k v l),h.nx⟩) none
     | none=>none
   | _=>none
 | _=>none
section
variable {P:aj} {G:Nat} {r:Rn} {T:Nat} {h:Hp} {w:ae}
theorem tQ {x v:AV} {kx u:ab} {C:KK} (J:cg C x=true) (A:den r x=some kx) (I:den r v=some u) {m:MapEntry} (pI:m.key=kx) (E:m.val=u):∀ {l:List (AV×AV)} {es:List MapEntry},dJ r l es→dd C l=true→(∀ e∈es,e.key≠kx)→dJ r (jr x v l) (es++ [m])
 | [],[],_,_,_=>⟨by rw [pI]; exact A,by rw [E]; exact I,trivial⟩
 | [],_::_,hm,_,_=>hm.elim
 | _::_,[],hm,_,_=>hm.elim
 | q::l,e::es,hm,hk,hn=>by
   simp only [dd] at hk;cases h1:cg C q.1
   · rw [h1] at hk; cases hk
   · rw [h1] at hk;have he:dI q.1 x=false :=by
      cases hq:dI q.1 x
      · rfl
      · exact absurd ((gU h1 J hm.1 A).1 hq)<|hn e fS
     simp only [jr,he,cond_false];exact ⟨hm.1,hm.2.1,tQ J A I pI E hm.2.2 hk fun e he=>hn e<|gH _ he⟩
theorem tR {x v:AV} {kx u:ab} {C:KK} (I:cg C x=true) (E:den r x=some kx) (L:den r v=some u) {f:MapEntry→MapEntry} (J:∀ e,e.key=kx→(f e).key=kx∧(f e).val=u):∀ {l:List (AV×AV)} {es:List MapEntry} {j:Nat} {A:MapEntry},dJ r l es→dd C l=true→
 es[j]? =some A→A.key=kx→(es.map fun e=>e.key).Nodup→dJ r (jr x v l) (es.modify j f)
 | [],[],j,A,_,_,hj,_,_=>by simp at hj
 | [],_::_,_,_,hm,_,_,_,_=>hm.elim
 | _::_,[],_,_,hm,_,_,_,_=>hm.elim
 | q::l,e::es,0,A,hm,hk,hj,hk',_=>by
   simp only [dd] at hk;cases h1:cg C q.1
   · rw [h1] at hk; cases hk
   · simp only [fB,aQ] at hj;subst hj;simp only [jr,(gU h1 I hm.1 E).2 hk',cond_true];obtain ⟨M,O⟩:=J e hk';exact ⟨by show den r q.1=some (f e).key; rw [hm.1,M,hk'],by show den r v=some (f e).val; rw [O]; exact L,hm.2.2⟩
 | q::l,e::es,j+1,A,hm,hk,hj,hk',hn=>by
   simp only [dd] at hk;cases h1:cg C q.1
   · rw [h1] at hk; cases hk
   · rw [h1] at hk;simp only [eY] at hj;simp only [cx,jZ] at hn;have he:dI q.1 x=false :=by
      cases hq:dI q.1 x
      · rfl
      · have :=(gU h1 I hm.1 E).1 hq;exact absurd (dM.2 ⟨A,gI hj,hk'.trans this.symm⟩) hn.1
     simp only [jr,he,cond_false];exact ⟨hm.1,hm.2.1,tR I E L J hm.2.2 hk hj hk' hn.2⟩
theorem zN {k:ai} {a:AV} {A:KK} (h:js P k a=some A) (E:tu A=true):∀ w v,ko A v→(mo v v).run P w= .ok v w:=by
 unfold js at h;split at h
 · replace h:=ay h; obtain ⟨C,h⟩:=h;cases h;exact (pO<|iG C).stays
 · split at h
   · cases h; exact (tj<|by assumption).stays
   · cases h
 · replace h:=ay h; obtain ⟨C,h⟩:=h;cases h;cases E
 · cases h
theorem uo (hr:HR P G r T h w) {t:ai} {b:Nat} {k v:AV} {Z:Hp} {q:Loc} {kx u:ab} (aa:G≤b) (hp:kD P t b k v h=some Z) (V:r b=some q) (E:den r k=some kx) (ao:den r v=some u):
 ∃ w',(kX t (.map<|some q.ak) kx u).run P w= .ok () w'∧St P G T r h w r Z w':=by
 unfold kD at hp;split at hp
 · rename_i l hb;split at hp
   · rename_i kt e an;split at hp
     · rename_i aw ah;replace hp:=ay hp; obtain ⟨ae,hp⟩:=hp;simp only [aD] at ae;obtain ⟨⟨⟨ad,_⟩,hka,hkl⟩,hstay⟩:=ae;cases hp;obtain ⟨q',es,c,am,hw,hm,hn⟩:=hr.map hb;rw [V] at am; cases am;have J:=pP ah;have hi:=nj hka E;have aq:∀ e∈es.toList,ko aw e.key:=mZ rfl (nv hm hkl);have aj:=(bu.1 hw).1;rcases J.find w kx es.toList hi aq with ⟨M,al⟩ | ⟨j,L,M,C,A⟩
       · refine ⟨{w with heap:=w.heap.setIfInBounds q.ak<|.map (es.push {key:=kx,val:=u,born:=c})<|c+1},by simp [kX,aC an,run_getObj_map hw,J.check _ w kx hi,M,setObj,fO,hw],?_⟩;refine hr.gZ hb ad V aa ?_ ⟨U,U,by simp,fun i _ O=>by simp only; rw [ig (fun e=>O e.symm)]⟩;refine ⟨_,_,by simp only; rw [iO aj],?_,?_⟩
         · simp only [oo];exact tQ hka E ao U U hm hkl al
         · simp only [oo,mD,cx,List.map_nil];rw [List.nodup_append];refine ⟨hn,by simp,?_⟩;intro a ha ax ac ap;simp at ac;subst ap ac;obtain ⟨p,hp,av⟩:=dM.1 ha;exact al p hp av
       · have au:(mo kx kx).run P w= .ok kx w:=by
          rcases vw.1 hstay with I | I
          · exact zN ah I w kx hi
          · exfalso;cases hg:iH k l with
            | none=>exact pN hka E hm hkl hg L.val<|by rw [← A]; exact dM.2 ⟨L,gI C,rfl⟩
            | some v=>rw [hg] at I; cases I
         have ar:es[j]? =some L:=by simpa using C
         refine ⟨{w with heap:=w.heap.setIfInBounds q.ak<|.map (es.modify j fun e=> {e with key:=kx,val:=u}) c},?_,?_⟩
         · simp [kX,aC an,run_getObj_map hw,J.check _ w kx hi,M,ar,A,au,setObj,fO,hw]
         · refine hr.gZ hb ad V aa ?_ ⟨U,U,by simp,fun i _ O=>by simp only; rw [ig (fun e=>O e.symm)]⟩;refine ⟨_,_,by simp only; rw [iO aj],?_,?_⟩
           · rw [mj];exact tR hka E ao (fun e _=>⟨U,U⟩) hm hkl C A hn
           · rw [mj];have :(es.toList.modify j fun e=> {e with key:=kx,val:=u}).map (fun e=>e.key)=es.toList.map fun e=>e.key:=by
              apply wu;intro i;simp only [eZ,List.getElem?_modify];by_cases ag:j=i
              · subst ag; rw [C]; simp [A]
              · simp [ag]
             rw [this]; exact hn
     · cases hp
   · cases hp
 · cases hp
end
def gu (A:List AV):Nat→List AV
 | 0=> []
 | n+1=>A++gu A n
def l6 (P:aj) (G:Nat) (t:ai) (b o:Nat) (v:AV) (h:Hp):Option Hp:=match h.t.get b with
 | some (.cells l e A ex)=>match dj P t with
   | some n=>cond ((av (gM v).length n && aA (o+n) l.length) && (aA A o && (cI (gM v) && (aA G b && aq b bp)))) (some ⟨h.t.set b (.cells (l.take o++(gM v++l.drop (o+n))) e A ex),h.nx⟩) none
   | none=>none
 | _=>none
def kM (P:aj) (t:ai):Option (Nat×Nat×Nat×List AV):=match P.underlying t with
 | some (.slice e)=>match P.info? e with
   | some i=>match i.zero with
     | some z=>match gp (fk 4) z.cells.toList with
       | some A=>cond (av A.length i.size && (aq 0 i.size && cI A)) (some (e,i.size,i.bytes,A)) none
       | none=>none
     | none=>none
   | none=>none
 | _=>none
def kB (P:aj) (G:Nat) (o:Op) (xs:List AV) (h:Hp):Option (AV×Hp):=match o with
 | .alloc e=>match zeroOf P e with
   | some (some C)=>match gp (fk 4) C with
     | some l=>cond (cI l) (match bI h (.cells l e 0 .x) with
       | some A=>some (.ptr h.nx 0,A)
       | none=>none) none
     | none=>none
   | _=>none
 | .box e _=>match xs with
   | [x]=>cond (cI<|gM x) (match bI h (.cells (gM x) e 0 .x) with
     | some A=>some (.ptr h.nx 0,A)
     | none=>none) none
   | _=>none
 | .makeMap _ none=>match bI h (.map []) with
   | some A=>some (.map h.nx,A)
   | none=>none
 | .buildSlice t n ⟨ps⟩=>match kM P t with
   | some (e,s,_,C)=>cond (aA (n*s) 16777216) (match jm (fun i=>some (i*s,s)) (gu C n) (ie ps xs) with
     | some l=>cond (cI l) (match bI h (.cells l e 0 .x) with
       | some A=>some (.sl h.nx 0 n n true,A)
       | none=>none) none
     | none=>none) none
   | none=>none
 | .makeSlice t _ _=>match xs with
   | [.int .i64 (.ofNat n),.int .i64 (.ofNat c)]=>match kM P t with
     | some (e,s,by_,C)=>cond (aA n c && (aA (by_*c) 281474976710656 && aq c 9223372036854775808)) (match bI h (.cells (gu C c) e 0 .x) with
       | some A=>some (.sl h.nx 0 n c true,A)
       | none=>none) none
     | none=>none
   | _=>none
 | .store t _ _=>match xs with
   | [.ptr b o,v]=>match l6 P G t b o v h with
     | some A=>some (.bo [],A)
     | none=>none
   | _=>none
 | .mapUpdate t _ _ _=>match xs with
   | [.map b,k,v]=>cond (aA G b) (match kD P t b k v h with
     | some A=>some (.bo [],A)
     | none=>none) none
   | _=>none
 | .insert t _ _ _=>match xs with
   | [.map b,k,v]=>cond (aA G b) (match kD P t b k v h with
     | some A=>some (.bo [],A)
     | none=>none) none
   | _=>none
 | _=>none
section
variable {P:aj} {G:Nat} {r:Rn} {T:Nat} {h:Hp} {w:ae} {N:Fm} {σ:Nat→ab} {dst:Option Nat} {ty:ai} {pos :String} {af:Array bD} {g:Option (Nat×Bool)} {x y z:ax}
theorem eL (r:Rn):den r (.bo [])=some undef:=by simp [den,ar]; rfl
theorem nO {r:Rn} {A:List AV} {Z:List ab} (h:ar r A=some Z):∀ n,ar r (gu A n)=some ((iW n Z).flatten)
 | 0=>by simp [gu,ar]
 | n+1=>by simp only [gu,wN,lg]; exact dk h<|nO h n
theorem uc:∀ {l m:List AV},cI l=true→cI m=true→cI (l++m)=true
 | [],m,_,h=>h
 | a::l,m,h,h'=>by
   simp only [cI,List.cons_append] at h ⊢;cases ha:nH a
   · rw [ha] at h; cases h
   · rw [ha] at h; exact uc h h'
theorem qp {A:List AV} (h:cI A=true):∀ n,cI (gu A n)=true
 | 0=>rfl
 | n+1=>uc h<|qp h n
theorem qn (Z:Array ab) (A:0 < Z.size):∀ n,(ij<|n*Z.size).map (Z[· % Z.size]!)=((iW n Z.toList).flatten).toArray:=by
 intro n;apply vv.1;simp only [gy,Array.toList_range]
 induction n with
 | zero=>simp
 | succ n ih=>
   rw [Nat.succ_mul,wT,List.range_add,mD,wN,lg,oG];congr 1
   · apply wu;intro i;simp only [eZ];by_cases hi:i < Z.size
     · rw [List.getElem?_range hi,cM,Nat.mod_eq_of_lt hi];rw [getElem!_pos Z i hi];simp [hi]
     · rw [oF (by simp; omega),oF (by simp; omega)]; rfl
   · rw [← ih];apply List.map_congr_left;intro i _;simp
theorem nV {r:Rn} {t e s E:Nat} {C:List AV} (h:kM P t=some (e,s,E,C)):∃ i z,P.underlying t=some (.slice e)∧P.info? e=some i∧i.zero=some z∧i.size=s∧i.bytes=E∧z.cells.size=s∧0 < s∧ar r C=some z.cells.toList∧cI C=true∧C.length=s:=by
 unfold kM at h;split at h
 · rename_i O hu;split at h
   · rename_i i hi;split at h
     · rename_i z L;split at h
       · rename_i V M;replace h:=ay h; obtain ⟨A,h⟩:=h;simp only [aD] at A;cases h;have I:=kr (r:=r) (fun v a=>iK 4) M;have J:=aW A.1;have :=bM I;exact ⟨i,z,hu,hi,L,U,U,by rw [← jL]; omega,bA.1 A.2.1,I,A.2.2,J⟩
       · cases h
     · cases h
   · cases h
 · cases h
theorem Bz (hr:HR P G r T h w) {t b o:Nat} {v:AV} {ad:Hp} {u:ab} (A:l6 P G t b o v h=some ad) (aB:den r v=some u) (aC:den r (.ptr b o)=some (ev N σ x)) (aE:ev N σ y=u):YM P G r T N σ ⟨dst,.store t x y,ty,pos,af,g⟩ h w (.bo []) ad:=by
 unfold l6 at A;split at A
 · rename_i l e aG ex hb;split at A
   · rename_i n hn;replace A:=ay A; obtain ⟨al,A⟩:=A;simp only [aD] at al;obtain ⟨⟨I,aa⟩,ac,c4,J,c6⟩:=al;have I:=aW I;have aa:=aP aa;have ac:=aP ac;have J:=aP J;cases A;obtain ⟨q,an,c,fr,us,ae,M,aH,ah,au,ai,aj,av⟩:=hr.live b _ hb;obtain ⟨q',ao,hu⟩:=eM aC;rw [an] at ao; cases ao;have V:=o6 aB;have az:=bM V;have aJ:=bM M;have am:=ku V c4;have hlen:u.cells.toList.length=n:=by rw [az,I]
     have bh:=run_storeCells_atF P q.ak (q.sh+o) e fr u.cells.toList 0 c w ae ag ag am;unfold dj at hn;simp only [eJ] at hn;obtain ⟨i,hi,A⟩:=hn;have aA:u.cells.size=n:=by rw [← jL,hlen]
     obtain ⟨L,O⟩:∃ L,c.toList.take (q.sh+o+0)++u.cells.toList++c.toList.drop (q.sh+o+0 +u.cells.toList.length)=L:=⟨_,rfl⟩
     rw [O] at bh;have aI:L.length=c.size:=by rw [← O]; simp; omega
     have aw:∀ k,L[k]? =if k < q.sh+o then c[k]? else if k < q.sh+o+n then u.cells.toList[k - (q.sh+o)]? else c[k]? :=by
      intro k;rw [← O,ir];by_cases E:k < q.sh+o
      · rw [if_pos E,oD,fy (by simp; omega),fR,if_pos E]; simp
      · rw [if_neg E];by_cases Z:k < q.sh+o+n
        · rw [if_pos Z,fy (by simp; omega),fA (by simp; omega)];congr 1; simp; omega
        · rw [if_neg Z,fA (by simp; omega),gG];simp only [cn,dW,jL,kS];congr 1; omega
     refine ⟨r,undef,w.setRow q.ak L.toArray,eL r,.inr ⟨?_,U⟩,?_⟩
     · simp [execOp,Instr.storeAt,hu,aE,Instr.sureAddr,storeVar,sizeOf,bU hi,A,aA,bh]
     · refine hr.gZ hb c6 an J ?_ ⟨U,U,by simp,fun k _ ax=>setRow_other w q.ak k _ ax⟩;rw [setRow_heap w q.ak _ _ e _ ae];refine ⟨L.toArray,fr,us.take o++(u.cells.toList++us.drop (o+n)),U,dk (ff o M) (dk V<|fD (o+n) M),?_,fun j a C=> ?_,au,?_,⟨fun hex=> ?_,aj.2⟩,fun s A=> ?_⟩
       · simp only [cn,dW,lh,c7]; omega
       · rw [jX,aw];by_cases E:j < o
         · rw [fy (by simp; omega),fR,if_pos E] at C;rw [if_pos ag]; exact ah _ _ C
         · rw [fA (by simp; omega)] at C;rw [if_neg ag];have ap:(us.take o).length=o:=by simp; omega
           rw [ap] at C;by_cases Z:j < o+n
           · rw [fy ag] at C;rw [if_pos ag,show q.sh+j - (q.sh+o)=j - o from by omega]; exact C
           · rw [fA ag,gG,hlen] at C;rw [if_neg ag];refine ah j a ?_;rw [← C]; congr 1; omega
       · intro a ha;rcases dL.1 ha with ha | ha
         · exact ai a<|oJ ha
         · rcases dL.1 ha with ha | ha
           · exact am a ha
           · exact ai a<|oI ha
       · obtain ⟨aq,aF,ar⟩:=aj.1 hex;refine ⟨aq,?_,ar⟩;simp only [cn,dW,lh,c7]; omega
       · have :=av s A;simp only [c7]; omega
   · cases A
 · cases A
end
end Go.Hb
namespace Go.Hb
section
variable {P:aj} {G:Nat} {r:Rn} {T:Nat} {h:Hp} {w:ae} {N:Fm} {σ:Nat→ab} {dst:Option Nat} {ty:ai} {pos :String} {af:Array bD} {g:Option (Nat×Bool)} {x y z:ax}
theorem r9 {r':Rn} {i b room n c:Nat} (hi:r' i=some ⟨b,0,room⟩) (hn:n≤c):den r' (.sl i 0 n c true)=some (.slice (some ⟨b,0,none⟩) n c):=by
 rw [iA hi hn]
theorem y6 {t e s n:Nat} {A L:List AV} {Z:ab} {ps:List (Nat×ax)} {xs:List AV} (ac:0 < s) (aa:Z.cells.size=s) (V:ar r A=some Z.cells.toList) (O:jm (fun i=>some (i*s,s)) (gu A n) (ie ps xs)=some L) (M:ar r xs=some ((ps.map (·.2)).map<|ev N σ)):
 ∃ C,ar r L=some C∧fN (fun i=>some (i*s,s)) ((ij<|n*s).map (Z.cells[· % Z.cells.size]!)) (ps.map fun p=>(p.1,ev N σ p.2))=some C.toArray:=by
 obtain ⟨E,I⟩:=qZ (f:=ev N σ) M;obtain ⟨C,J,U⟩:=pz O (nO V n) E I;refine ⟨C,J,?_⟩;rw [← U];congr 1;have :=qn Z.cells ag n;rw [aa] at this ⊢;exact this
theorem Ax (hr:HR P G r T h w) {o:Op} {xs:List AV} {v:AV} {aa:Hp} (A:kB P G o xs h=some (v,aa)) (hT:aa.nx≤T) (V:ar r xs=some ((dK o).map<|ev N σ)):YM P G r T N σ ⟨dst,o,ty,pos,af,g⟩ h w v aa:=by
 unfold kB at A;split at A
 · rename_i e;split at A
   · rename_i ap O;split at A
     · rename_i l aA;replace A:=ay A; obtain ⟨E,A⟩:=A;split at A
       · rename_i L hn;cases A;have ax:=kr (r:=r) (fun v a=>iK 4) aA;unfold zeroOf at O;simp only [eJ] at O;obtain ⟨i,hi,zv,aK,rfl⟩:=O;refine YM.new hr (f:=fun b=> .pointer<|some ⟨b,0,none⟩) hn hT ax E ?_ fun r' I=>by simp only [den,I]
         simp [execOp,ov,zeroValue,bU hi,aK,newVar,newRow]
       · cases A
     · cases A
   · cases A
 · rename_i e _;split at A
   · rename_i x;replace A:=ay A; obtain ⟨E,A⟩:=A;split at A
     · rename_i L hn;cases A;have J:=c9 V;refine YM.new hr (f:=fun b=> .pointer<|some ⟨b,0,none⟩) hn hT (o6 J) E ?_ fun r' I=>by simp only [den,I]
       simp [execOp,Instr.box,newVar,newRow]
     · cases A
   · cases A
 · split at A
   · rename_i L hn;cases A;obtain ⟨r',aE,I⟩:=hr.bI hn hT 0 (w':= {w with heap:=w.heap.push<|.map #[] 0}) rfl rfl rfl fun r' hle _=>⟨#[],0,rfl,trivial,by simp⟩
     refine ⟨r',.map (some w.heap.size),_,by simp only [den,aE],.inl ?_,I⟩;simp [execOp,Instr.makeMap]
   · cases A
 · rename_i t n ps;split at A
   · rename_i e s aq ap O;replace A:=ay A; obtain ⟨E,A⟩:=A;have E:=aP E;split at A
     · rename_i l az;replace A:=ay A; obtain ⟨J,A⟩:=A;split at A
       · rename_i L hn;cases A;obtain ⟨i,zv,hu,hi,ai,rfl,rfl,Z,am,aj,ao,aJ⟩:=nV (r:=r) O;obtain ⟨C,aw,ad⟩:=y6 (N:=N) (σ:=σ) (t:=t) (e:=e) am Z aj az V;refine YM.new hr (f:=fun b=> .slice (some ⟨b,0,none⟩) n n) hn hT aw J ?_ fun r' I=>r9 I<|aI _;have aN:(ps.toArray.map fun p=>(p.1,ev N σ p.2)).toList=ps.map fun p=>(p.1,ev N σ p.2):=by simp
         by_cases al:n*i.size=0
         · have aB:n=0:=by rcases Nat.mul_eq_zero.1 al with h | h; exact h; omega
           subst aB;have ak:∀ f:Nat→ab,Array.map f (ij 0)= #[]:=fun f=>Array.eq_empty_of_size_eq_zero<|by simp
           rw [mI,ak] at ad;simp [execOp,ow,aC hu,sizeOf,bU hi,ak,ad,newRow]
         · simp only [execOp,ow,ek,aC hu,dV,sizeOf,bU hi,fP,Sem.run_ite,zeroValue,ai,gy,ad];rw [if_neg (by rw [show (2:Nat) ^ 24=16777216 from rfl]; omega),if_neg al];simp [newRow]
       · cases A
     · cases A
   · cases A
 · rename_i t _ _;split at A
   · rename_i n c;split at A
     · rename_i e s aq ap O;replace A:=ay A; obtain ⟨E,A⟩:=A;simp only [aD] at E;have au:=aP E.1;have aL:=aP E.2.1;have aM:=bA.1 E.2.2;split at A
       · rename_i L hn;cases A;obtain ⟨i,zv,hu,hi,ai,rfl,rfl,Z,am,aj,ao,aJ⟩:=nV (r:=r) O;have an:=run_make (P:=P) w t e i zv hu hi ai .i64 .i64 n c ag ag (by rw [← Int.natCast_mul]; omega) ag;have av:madeCells zv.cells (c*i.size)=((iW c zv.cells.toList).flatten).toArray:=by
          have :=qn zv.cells ag c;rw [Z] at this;rw [← this]; unfold madeCells; rw [Z]
         rw [vZ,vZ,av] at an;refine YM.new hr (f:=fun b=> .slice (some ⟨b,0,none⟩) n c) hn hT (nO aj c) (qp ao c) ?_ fun r' I=>r9 I au;obtain ⟨J,M⟩:=eu V;have aG:=bG J;have aH:=bG M;simp [execOp,aG,aH,an]
       · cases A
     · cases A
   · cases A
 · split at A
   · split at A
     · rename_i L aF;cases A;obtain ⟨J,M⟩:=eu V;exact Bz hr aF M J U
     · cases A
   · cases A
 · split at A
   · replace A:=ay A; obtain ⟨E,A⟩:=A;split at A
     · rename_i L hp;cases A;obtain ⟨J,M,ac⟩:=iz V;obtain ⟨q,ae,hu⟩:=jj J;obtain ⟨w',ah,I⟩:=uo hr (aP E) hp ae M ac;exact ⟨r,undef,w',eL r,.inr ⟨by simp [execOp,hu,ah],U⟩,I⟩
     · cases A
   · cases A
 · split at A
   · replace A:=ay A; obtain ⟨E,A⟩:=A;split at A
     · rename_i L hp;cases A;obtain ⟨J,M,ac⟩:=iz V;obtain ⟨q,ae,hu⟩:=jj J;obtain ⟨w',ah,I⟩:=uo hr (aP E) hp ae M ac;exact ⟨r,undef,w',eL r,.inr ⟨by simp [execOp,hu,ah],U⟩,I⟩
     · cases A
   · cases A
 · cases A
end
end Go.Hb
namespace Go.Hb
def n5:List UInt8→List AV
 | []=> []
 | c::l=> .int .u8 (gF c.toNat)::n5 l
def lx (o:Nat):Ck→Ck
 | .a=> .a
 | _=>match o with
   | 0=> .z
   | _=> .a
theorem rU {o:Nat} {e:Ck} :lx o e≠.x:=by
 cases e <;> simp only [lx] <;> first | (intro h; cases h; done) | (split <;> intro h <;> cases h)
theorem ym {o:Nat} {e:Ck} (h:lx o e≠.a):e≠.a∧o=0:=by
 cases e with
 | a=>exact absurd rfl h
 | _=>
   refine ⟨fun h=>(by cases h),?_⟩;simp only [lx] at h;split at h
   · rfl
   · exact absurd U h
def qG (P:aj) (s:Nat) (A:ai) (x:AV) (h:Hp):Option (Nat×List AV):=match x with
 | .sl b o n _ _=>match h.t.get b with
   | some (.cells l _ _ _)=>cond (fI P A && aA (o+n*s) l.length) (some (n,(l.drop o).take (n*s))) none
   | _=>none
 | .cW=>cond (fI P A) (some (0,[])) none
 | .str l=>cond (isStr P A && av s 1) (some (l.length,n5 l)) none
 | _=>none
def oU (P:aj) (G:Nat) (t J:ai) (I L:AV) (h:Hp):Option (AV×Hp):=match kM P t with
 | some (e,s,by_,_)=>match qG P s J L h with
   | some (m,news)=>cond (cI news) (match I with
     | .cW=>match m with
       | 0=>some (.cW,h)
       | _=>cond (aA (m*by_) 140737488355328 && aA m 1000000000) (match bI h (.cells news e 0 .z) with
         | some A=>some (.sl h.nx 0 m 0 false,A)
         | none=>none) none
     | .sl b o n c x=>match m with
       | 0=>some (.sl b o n c x,h)
       | _=>match h.t.get b with
         | some (.cells l E C ex)=>cond ((av e E && (aA ((n+m)*by_) 140737488355328 && aA (n+m) 1000000000)) && (aA (o+n*s) l.length && (aA G b && aq b bp)))
           (cond x (cond (aA (n+m) c)
            (cond (aA (o+(n+m)*s) l.length && aA C (o+n*s)) (some (.sl b o (n+m) c true,⟨h.t.set b (.cells (l.take (o+n*s)++(news++l.drop (o+(n+m)*s))) e C ex),h.nx⟩)) none)
            (match bI h (.cells ((l.drop o).take (n*s)++news) e 0 .z) with
             | some A=>some (.sl h.nx 0 (n+m) 0 false,A)
             | none=>none))
            (cond (av o (c*s) && aA C (o+n*s)) (match bI ⟨h.t.del b,h.nx⟩ (.cells ((l.drop o).take (n*s)++news) e (C - o)<|lx o ex) with
             | some A=>some (.sl h.nx 0 (n+m) 0 false,A)
             | none=>none) none)) none
         | _=>none
     | _=>none) none
   | none=>none
 | none=>none
section
variable {P:aj} {G:Nat} {r:Rn} {T:Nat} {h:Hp} {w:ae} {N:Fm} {σ:Nat→ab} {dst:Option Nat} {ty:ai} {pos :String} {af:Array bD} {g:Option (Nat×Bool)} {x y z:ax}
theorem u5:∀ l:List UInt8,ar r (n5 l)=some (U8 l)
 | []=>by simp [n5,ar,U8]
 | c::l=>cB rfl (u5 l)
theorem Bv (hr:HR P G r T h w) {s m:Nat} {M:ai} {x:AV} {news:List AV} {u:ab} (he:qG P s M x h=some (m,news)) (U:cI news=true) (hu:den r x=some u):∃ N,ar r news=some N∧Src P s M u m N w:=by
 unfold qG at he;split at he
 · rename_i b o n aa ac;split at he
   · rename_i l _ _ _ hb;replace he:=ay he; obtain ⟨A,he⟩:=he;simp only [aD] at A;cases he;obtain ⟨q,us,Z,J,V,_⟩:=hr.cells hb;obtain ⟨q',cap,L,hn,rfl,_⟩:=eN hu;rw [Z] at L; cases L;obtain ⟨O,E⟩:=lK A.1;have hle:=aP A.2;have hlen:=bM J;have I:=ff (m*s)<|fD o J;refine ⟨_,I,Src.ofSlice w E _ _ _ _ (by simp; omega) (fun j u C=> ?_)<|ku I U⟩;rw [cE,et,eo];rw [fR] at C;split at C
     · rw [gG] at C; exact V _ _ C
     · cases C
   · cases he
 · replace he:=ay he; obtain ⟨A,he⟩:=he;cases he;obtain rfl :=eA hu;obtain ⟨O,E⟩:=lK A;exact ⟨[],by simp [ar],Src.ofNil w E 0⟩
 · replace he:=ay he; obtain ⟨A,he⟩:=he;simp only [aD] at A;cases he;obtain rfl :=dZ hu;obtain rfl :=aW A.2;exact ⟨_,u5 _,Src.ofString w (iG A.1) ⟨⟨_⟩⟩⟩
 · cases he
theorem rG {t J ty e:ai} {i:TypeInfo} (I:P.underlying t=some (.slice e)) (hi:P.info? e=some i) {x:ab} {news:List ab} (A:Src P i.size J x 0 news w) {base:Option Addr} {n c:Nat} (hn:n≤c):
 (fM #[t,J] ty #[.slice base n c,x]).run P w= .ok (.slice base n c) w:=by
 have M:news= []:=im<|by rw [A.newsLen]; simp
 subst M;have E:=A.cells;cases base with
 | none=>rcases A.kind with ⟨L,C⟩ | C <;> simp [fM,run_underlying I,run_underlying C,sizeOf,typeInfo,hi,A.len,hn,E]
 | some a=>rcases A.kind with ⟨L,C⟩ | C <;> simp [fM,run_underlying I,run_underlying C,sizeOf,typeInfo,hi,A.len,hn,E,storeCells]
theorem rH {t I ty e:ai} {i:TypeInfo} (J:P.underlying t=some (.slice e)) (hi:P.info? e=some i) {x:ab} {m:Nat} {news:List ab} (A:Src P i.size I x m news w) {b off n c:Nat} {cur:Array ab} {C:Nat×Nat} (hn:n+m≤c)
 (hb:w.heap[b]? =some (.cells cur e C)) (M:C.2≤off+n*i.size) (O:off+n*i.size+news.length≤cur.size):
 (fM #[t,I] ty #[.slice (some ⟨b,off,none⟩) n c,x]).run P w= .ok (.slice (some ⟨b,off,none⟩) (n+m) c) (w.setRow b (cur.toList.take (off+n*i.size)++news++cur.toList.drop (off+n*i.size+news.length)).toArray):=by
 have bh:=run_storeCells_atF P b (off+n*i.size) e C news 0 cur w hb ag ag A.one;simp only [ir] at bh;rcases A.kind with ⟨L,E⟩ | E <;> simp [fM,run_underlying J,run_underlying E,sizeOf,typeInfo,hi,A.len,hn,A.cells,Addr.add_lit,bh]
theorem qw (L X:List ab) (a:Nat) (h:a+X.length≤L.length) (k:Nat):(L.take a++X++L.drop (a+X.length))[k]? =if k < a then L[k]? else if k < a+X.length then X[k - a]? else L[k]? :=by
 by_cases A:k < a
 · rw [if_pos A,oD,fy (by simp; omega),fR,if_pos A]
 · rw [if_neg A];by_cases C:k < a+X.length
   · rw [if_pos C,fy (by simp; omega),fA (by simp; omega)];congr 1; simp; omega
   · rw [if_neg C,fA (by simp; omega),gG];simp only [cn,dW];congr 1; omega
theorem rF {t A ty e:ai} {i:TypeInfo} {z:ab} (L:P.underlying t=some (.slice e)) (hi:P.info? e=some i) (M:i.zero=some z) (O:z.cells.size=i.size) (Z:0 < i.size) {x:ab} {m:Nat} {olds news:List ab} (I:Src P i.size A x m news w) {base:Option Addr} {n c:Nat}
 (J:olds.length=n*i.size) (hold:(ou i.size n<|.slice base n c).run P w.drew= .ok olds.toArray w.drew) (V:∀ u∈olds,u.oneCell'=true) (C:c < n+m) (U:n+m≤1000000000) (hb:(n+m)*i.bytes≤140737488355328):
 ∃ (cap:Nat) (cs:Array ab),n+m≤cap∧cap*i.size=cs.size∧(∀ (j:Nat) (u:ab),(olds++news)[j]? =some u→cs[j]? =some u)∧(fM #[t,A] ty #[.slice base n c,x]).run P w= .ok (.slice (some ⟨w.heap.size,0,none⟩) (n+m) cap) {w.drew with heap:=w.heap.push<|.cells cs e (0,0)} :=by
 have hr:=run_append_grow_src (P:=P) w t A ty e i z L hi M base n c olds hold x m news I C ag<|growslice_fits C hb;refine ⟨_,_,grownCap_ge w (n+m) c e,?_,?_,hr⟩
 · have :=grownCap_ge w (n+m) c e;simp only [Array.size_append,c7,size_zeroCells,O,cn,J,I.newsLen,← iX];congr 1; omega
 · intro j u E;rw [Array.getElem?_append_left (by have :=(bZ.1 E).1; simpa using this)];simpa using E
theorem y9 (hr:HR P G r T h w) {b o n c s:Nat} {x:Bool} {l:List AV} {e J:Nat} {ex:Ck} {us:List ab} {q:Loc} (hb:h.t.get b=some (.cells l e J ex)) (M:r b=some q) (C:ar r l=some us) (hle:o+n*s≤l.length) (cap:Nat):
 (ou s n<|.slice (some ⟨q.ak,q.sh+o,none⟩) n cap).run P w.drew= .ok ((us.drop o).take<|n*s).toArray w.drew:=by
 obtain ⟨q',O,I,E,L,_⟩:=hr.cells hb;rw [M] at I; cases I;rw [C] at E; cases E;have hlen:=bM C;refine run_firstCells_some (P:=P) w.drew s n _ n cap _ (by simp; omega) fun j u A=> ?_;rw [cE,et,eo];rw [fR] at A;split at A
 · rw [gG] at A; exact L _ _ A
 · cases A
theorem xE (hr:HR P G r T h w) {t ap:ai} {a5 a7 v:AV} {aE:Hp} (ha:oU P G t ap a5 a7 h=some (v,aE)) (hT:aE.nx≤T) (ax:den r a5=some (ev N σ x)) (bx:den r a7=some (ev N σ y)):YM P G r T N σ ⟨dst,.call ⟨.builtin .append,#[x,y],#[t,ap]⟩,ty,pos,af,g⟩ h w v aE:=by
 have aj:∀ {u:ab} {w':ae},(fM #[t,ap] ty #[ev N σ x,ev N σ y]).run P w= .ok u w'→(execOp (ev N σ) ⟨dst,.call ⟨.builtin .append,#[x,y],#[t,ap]⟩,ty,pos,af,g⟩).run P w= .ok (.value u) w':=by
  intro u w' h;simp [execOp,resolve,invoke,builtin,h]
 unfold oU at ha;split at ha
 · rename_i e s bC bS bz;obtain ⟨i,zv,hu,hi,a2,rfl,rfl,a3,a0,bN,bP,bO⟩:=nV (r:=r) bz;split at ha
   · rename_i m news bv;replace ha:=ay ha; obtain ⟨aY,ha⟩:=ha;obtain ⟨Nw,an,V⟩:=Bv hr bv aY bx;have bg:=bM an;have aO:=ku an aY;split at ha
     · have ac:=eA ax;split at ha
       · cases ha;exact ⟨r,_,w,ax,.inl (aj<|by rw [ac]; exact rG hu hi V<|aI _),St.refl hr⟩
       · rename_i aM;replace ha:=ay ha; obtain ⟨C,ha⟩:=ha;simp only [aD] at C;have az:=aP C.1;have aq:=aP C.2;have hm:0 < m:=wZ fun e=>aM<|by rw [e]
         split at ha
         · rename_i Z hn;cases ha;obtain ⟨cap,cs,g1,g2,g3,g4⟩:=rF (w:=w) (ty:=ty) (base:=none) (n:=0) (c:=0) (olds:= []) hu hi a2 a3 a0 V (by simp) (run_firstCells_none (P:=P) w.drew i.size 0 0 0) (by simp) ag ag<|by rw [b9]; exact az
           rw [b9] at g1 g4;rw [List.nil_append] at g3;obtain ⟨r',av,bh⟩:=hr.bI hn hT cap (w':= {w.drew with heap:=w.heap.push<|.cells cs e (0,0)}) rfl rfl rfl fun r' hle _=>by
            refine ⟨cs,(0,0),Nw,U,ew hle an,?_,fun j u A=>by rw [b9]; exact g3 j u A,by simp,aO,⟨(fun h=>by cases h),fun _=>rfl⟩,fun s E=> ?_⟩
            · rw [b9,← bg,V.newsLen,← g2]; exact rp _ g1
            · have :s=i.size:=by unfold dj at E; rw [hi] at E; simpa using E.symm
              rw [this,b9,g2]; exact aI _
           refine ⟨r',_,_,?_,.inl (aj<|by rw [ac]; exact g4),bh⟩;rw [kd av (by simpa using g1)]; simp
         · cases ha
     · rename_i b o n c a6;obtain ⟨q,cap,ad,br,ac,bl,bj⟩:=eN ax;split at ha
       · cases ha;exact ⟨r,_,w,ax,.inl (aj<|by rw [ac]; exact rG hu hi V br),St.refl hr⟩
       · rename_i aM;have hm:0 < m:=wZ fun e=>aM<|by rw [e]
         split at ha
         · rename_i l bD bF ex hb;replace ha:=ay ha; obtain ⟨C,ha⟩:=ha;simp only [aD] at C;obtain ⟨⟨az,aq,aB⟩,aC,ar,c6⟩:=C;obtain rfl :=aW az;have aq:=aP aq;have aB:=aP aB;have aC:=aP aC;have ar:=aP ar;obtain ⟨q',ah,cc,fr,us,O,aa,bG,aF,bc,aG,aH,aS⟩:=hr.live b _ hb;rw [ad] at ah; cases ah;have bL:=bM aa;have bn:=y9 (s:=i.size) (x:=a6) (c:=c) hr hb ad aa aC;have holds:=ff (n*i.size)<|fD o aa;have aN:((us.drop o).take<|n*i.size).length=n*i.size:=by simp; omega
           have aZ:∀ u∈(us.drop o).take (n*i.size),u.oneCell'=true :=fun u hu=>aG u<|oI<|oJ hu;have au:=dk holds an;have aU:∀ u∈(us.drop o).take (n*i.size)++Nw,u.oneCell'=true :=fun u hu=>(dL.1 hu).elim (aZ u)<|aO u;have aV:∀ s,dj P e=some s→s=i.size:=fun s E=>by unfold dj at E; rw [hi] at E; simpa using E.symm
           have aX:((us.drop o).take (n*i.size)++Nw).length=(n+m)*i.size:=by rw [cn,aN,V.newsLen,iX]
           have grow:∀ {h0 Z:Hp} {aR:Nat} {ck:Ck},ck≠.x→HR P G r T h0 w→St P G T r h w r h0 w→h0.nx=h.nx→cap < n+m→Hb.bI h0 (.cells ((l.drop o).take (n*i.size)++news) e aR ck)=some Z→Z.nx≤T→
            YM P G r T N σ ⟨dst,.call ⟨.builtin .append,#[x,y],#[t,ap]⟩,ty,pos,af,g⟩ h w (.sl h.nx 0 (n+m) 0 false) Z:=by
            intro h0 Z aR ck bi bu bw bt J hn hT;obtain ⟨a8,cs,g1,g2,g3,g4⟩:=rF (w:=w) (ty:=ty) (base:=some ⟨q.ak,q.sh+o,none⟩) (n:=n) (c:=cap) hu hi a2 a3 a0 V aN (bn cap) aZ J aB aq;obtain ⟨r',av,bh⟩:=bu.bI hn hT a8 (w':= {w.drew with heap:=w.heap.push<|.cells cs e (0,0)}) rfl rfl rfl fun r' hle _=>by
             refine ⟨cs,(0,0),_,U,ew hle au,?_,fun j u A=>by rw [b9]; exact g3 j u A,by simp,aU,⟨fun h=>absurd h bi,fun _=>rfl⟩,fun s E=> ?_⟩
             · rw [b9,← bM au,aX,← g2]; exact rp _ g1
             · rw [aV s E,b9,g2]; exact aI _
            rw [bt] at av;refine ⟨r',_,_,?_,.inl (aj<|by rw [ac]; exact g4),St.trans bw bh⟩;rw [kd av (by simpa using g1)]; simp
           cases a6
           · obtain ⟨rfl,bJ⟩:=bj rfl;simp only [cond_false] at ha;replace ha:=ay ha; obtain ⟨C,ha⟩:=ha;simp only [aD] at C;have d1:=aW C.1;have d2:=aP C.2;split at ha
             · rename_i Z hn;cases ha;have aw:=hr.del c6;have a1:St P G T r h w r ⟨h.t.del b,h.nx⟩ w:=⟨Rn.le_refl r,aw,aI _,Md.refl _ _,fun g _ k _ aK=>by
                obtain ⟨j,a4,q',bd,A,ah,rfl⟩:=aK;rw [Tr.kn _ _ _ c6] at A;split at A
                · cases A
                · exact ⟨j,a4,q',bd,A,ah,U⟩,fun _ _=>rfl⟩
               by_cases M:n+m≤q.room - c
               ·
                have bH:=aS i.size<|by unfold dj; rw [hi]; rfl
                have bE:q.sh+o+(n+m)*i.size≤cc.size:=by
                 have :(c+(n+m))*i.size≤q.room*i.size:=rp _ ag;rw [iX] at this;omega
                have a9:Nw.length=m*i.size:=V.newsLen;have ba:(n+m)*i.size=n*i.size+m*i.size:=iX _ _ _;have ao:=rH (w:=w) (ty:=ty) (off :=q.sh+o) hu hi V M O ag ag;unfold Hb.bI at hn;replace hn:=ay hn; obtain ⟨aJ,hn⟩:=hn;cases hn;simp only at hT aJ;have hle:=Rn.lL (i:=h.nx) ⟨q.ak,q.sh+o,q.room - c⟩<|hr.new h.nx (aI _) ag;obtain ⟨L,al⟩:∃ L,cc.toList.take (q.sh+o+n*i.size)++Nw++cc.toList.drop (q.sh+o+n*i.size+Nw.length)=L:=⟨_,rfl⟩
                have am:=qw cc.toList Nw (q.sh+o+n*i.size)<|by simp; omega
                rw [al] at ao am;have bf:L.length=cc.size:=by rw [← al]; simp; omega
                have aL:=setRow_heap w q.ak _ L.toArray e _ O;have aT:∀ g,g≤G→Fr g r h q.ak:=fun g J=>⟨b,_,q,bK J ar,hb,ad,rfl⟩
                refine ⟨r.ext h.nx ⟨q.ak,q.sh+o,q.room - c⟩,_,w.setRow q.ak L.toArray,?_,.inl (aj<|by rw [ac]; exact ao),⟨hle,aw.put hle aJ (Rn.ea _ _ _) ?_ (fun k I _=>setRow_other w q.ak k _ I) ?_ (iu _) (fun k I bq=> ?_),iu _,⟨U,U,by simp,fun k _ I=>setRow_other w q.ak k _ fun e=>I<|by rw [e]; exact aT G<|aI _⟩,fun g J k I aK=> ?_,fun k I=>Rn.fG _ _<|by simp only at I; omega⟩⟩
                · rw [kd (Rn.ea _ _ _) (by simpa using M)]; simp
                · rw [aL];refine ⟨L.toArray,fr,_,U,ew hle au,?_,fun j u A=> ?_,by simp only; omega,aU,⟨fun h=>absurd h rU,fun h=>by obtain ⟨O,aa⟩:=ym h; simp only; rw [aH.2 O,aa]⟩,fun s E=> ?_⟩
                  · rw [← bM au,aX]; simp only [c7]; omega
                  · simp only [jX];rw [am];by_cases aQ:j < n*i.size
                    · rw [fy ag,fR,if_pos aQ,gG] at A;rw [if_pos ag,kS,eo]; exact aF _ _ A
                    · rw [fA ag,aN] at A;have :=(bZ.1 A).1;rw [if_neg ag,if_pos ag,show q.sh+o+j - (q.sh+o+n*i.size)=j - n*i.size from by omega]; exact A
                  · rw [aV s E];simp only [c7];have :(c+(q.room - c))*i.size=q.room*i.size:=by congr 1; omega
                    rw [iX] at this;omega
                · intro j a4 q' A J ah he;rw [Tr.kn _ _ _ c6] at J;split at J
                  · cases J
                  · rename_i bp;exact bp<|hr.inj j b _ _ _ _ J hb ah ad he
                · rw [Rn.fG _ _ (by simp only at I; omega)]; exact hr.new k (by simp only at I; omega) bq
                · rcases Fr.set aJ (Rn.ea _ _ _) hle aw aK with O | O
                  · rw [O]; exact aT g J
                  · exact a1.cH g J k I O
               · exact grow rU aw a1 U ag hn hT
             · cases ha
           · obtain rfl :=bl rfl;simp only [cond_true] at ha;cases M:aA (n+m) cap
             · rw [M] at ha;simp only [cond_false] at ha;split at ha
               · rename_i Z hn;cases ha;exact grow (fun h=>by cases h) hr (St.refl hr) U (by
                  rcases e7 cap (n+m) with h | h
                  · exact h
                  · rw [rn h] at M; cases M) hn hT
               · cases ha
             · rw [M] at ha;simp only [cond_true] at ha;replace ha:=ay ha; obtain ⟨C,ha⟩:=ha;simp only [aD] at C;have d1:=aP C.1;have d2:=aP C.2;have M:=aP M;cases ha;have a9:Nw.length=m*i.size:=V.newsLen;have ba:(n+m)*i.size=n*i.size+m*i.size:=iX _ _ _;have ao:=rH (w:=w) (ty:=ty) (off :=q.sh+o) hu hi V M O ag ag;obtain ⟨L,al⟩:∃ L,cc.toList.take (q.sh+o+n*i.size)++Nw++cc.toList.drop (q.sh+o+n*i.size+Nw.length)=L:=⟨_,rfl⟩
               have am:=qw cc.toList Nw (q.sh+o+n*i.size)<|by simp; omega
               rw [al] at ao am;have bf:L.length=cc.size:=by rw [← al]; simp; omega
               have aL:=setRow_heap w q.ak _ L.toArray e _ O;refine ⟨r,_,w.setRow q.ak L.toArray,iA ad M,.inl (aj<|by rw [ac]; exact ao),hr.gZ hb c6 ad ar ?_ ⟨U,U,by simp,fun k _ I=>setRow_other w q.ak k _ I⟩⟩;rw [aL];have bm:=dk (ff (o+n*i.size) aa)<|dk an<|fD (o+(n+m)*i.size) aa;refine ⟨L.toArray,fr,_,U,bm,?_,fun j u A=> ?_,bc,?_,⟨fun hex=> ?_,aH.2⟩,fun s E=> ?_⟩
               · simp only [cn,dW,lh,c7]; omega
               · simp only [jX];rw [am];by_cases aQ:j < o+n*i.size
                 · rw [fy (by simp; omega),fR,if_pos aQ] at A;rw [if_pos ag,kS]; exact aF _ _ A
                 · rw [fA (by simp; omega)] at A;have bb:(us.take<|o+n*i.size).length=o+n*i.size:=by simp; omega
                   rw [bb] at A;rw [if_neg ag];by_cases bR:j < o+(n+m)*i.size
                   · rw [fy ag] at A;rw [if_pos ag,show q.sh+j - (q.sh+o+n*i.size)=j - (o+n*i.size) from by omega]; exact A
                   · rw [fA ag,gG] at A;rw [if_neg ag,kS];refine aF j u ?_;rw [← A]; congr 1; omega
               · intro a ha;rcases dL.1 ha with ha | ha
                 · exact aG a<|oJ ha
                 · rcases dL.1 ha with ha | ha
                   · exact aO a ha
                   · exact aG a<|oI ha
               · obtain ⟨bA,x2,bB⟩:=aH.1 hex;refine ⟨bA,?_,bB⟩;simp only [cn,dW,lh,c7]; omega
               · have :=aS s E;simp only [c7]; omega
         · cases ha
     · cases ha
   · cases ha
 · cases ha
end
end Go.Hb
namespace Go.Hb
def qJ (P:aj) (G:Nat) (t:ai) (b o n c i:Nat) (h:Hp):Option (AV×Hp):=match cC P t with
 | some e=>cond (av i n && (aA G b && aq b bp)) (match h.t.get b with
   | some (.cells l A E ex)=>match dj P A with
     | some C=>cond (av e C && (av o (c*e) && aA (o+n*e) l.length)) (match bI ⟨h.t.del b,h.nx⟩ (.cells [] A E .a) with
       | some I=>some (.sl h.nx 0 0 0 false,I)
       | none=>none) none
     | none=>none
   | _=>none) none
 | none=>none
def p9 (P:aj) (t:ai) (n i j:Nat) (h:Hp):Option (AV×Hp):=match cC P t with
 | some _=>cond (av i n && (av j n && aq h.nx bp)) (some (.sl h.nx 0 0 0 false,⟨h.t,h.nx+1⟩)) none
 | none=>none
def o8 (P:aj) (G:Nat) (t:ai) (x:AV) (h:Hp):Option (AV×Hp):=match x with
 | .cW=>cond (fI P t) (some (.bo [],h)) none
 | .sl b o n c q=>match kM P t with
   | some (e,s,_,zs)=>match n with
     | 0=>some (.bo [],h)
     | _=>match h.t.get b with
       | some (.cells l C A ex)=>cond ((aA (o+n*s) l.length && aA A o) && (aA G b && aq b bp)) (some (.bo [],⟨h.t.set b (.cells (l.take o++(gu zs n++l.drop (o+n*s))) C A ex),h.nx⟩)) none
       | _=>none
   | none=>none
 | _=>none
def gT (x:AV):List (AV×AV)→List (AV×AV)
 | []=> []
 | p::l=>cond (dI p.1 x) l (p::gT x l)
def ph (P:aj) (G:Nat) (t:ai) (b:Nat) (k:AV) (h:Hp):Option (AV×Hp):=match h.t.get b with
 | some (.map l)=>match P.underlying t with
   | some (.map kt e)=>match js P kt k with
     | some A=>cond ((aA G b && aq b bp) && (cg A k && dd A l)) (some (.bo [],⟨h.t.set b (.map<|gT k l),h.nx⟩)) none
     | none=>none
   | _=>none
 | _=>none
def qS (P:aj) (G:Nat) (C:ai) (x y:AV) (h:Hp):Option (AV×Hp):=match x,y with
 | .ptr _ _,.int .i64 0=>some (.str [],h)
 | .ec,.int .i64 0=>some (.str [],h)
 | .ptr b 0,.int .i64 (.ofNat n)=>match h.t.get b with
   | some (.cells l e A ex)=>match ex with
     | .a=>none
     | _=>cond ((ptrTo P C e && (aA n l.length && (aq 0 n && aq n 1000000000))) && (aA G b && aq b bp)) (match jF (l.take n) with
       | some m=>some (.str m,⟨h.t.set b (.cells l e (max A n) .z),h.nx⟩)
       | none=>none) none
   | _=>none
 | _,_=>none
def nK (P:aj) (G:Nat) (o:Op) (xs:List AV) (h:Hp):Option (AV×Hp):=match o with
 | .call ⟨.builtin .append,_,⟨[t,tx]⟩⟩=>match xs with
   | [s,x]=>oU P G t tx s x h
   | _=>none
 | .call ⟨.builtin .clear,_,⟨[t]⟩⟩=>match xs with
   | [x]=>o8 P G t x h
   | _=>none
 | .call ⟨.builtin .delete,_,⟨[t,_]⟩⟩=>match xs with
   | [.map b,k]=>ph P G t b k h
   | _=>none
 | .call ⟨.builtin .unsafeSliceData,_,_⟩=>match xs with
   | [.cW]=>some (.ec,h)
   | [.sl b o n c x]=>cond (aq 0 n) (some (.ptr b o,h)) none
   | _=>none
 | .call ⟨.builtin .unsafeString,_,⟨[pt,_]⟩⟩=>match xs with
   | [x,y]=>qS P G pt x y h
   | _=>none
 | .slice t _ (some _) none none=>match xs with
   | [.sl b o n c false,.int _ (.ofNat i)]=>qJ P G t b o n c i h
   | _=>none
 | .slice t _ (some _) (some _) none=>match xs with
   | [.sl b o n c false,.int _ (.ofNat i),.int _ (.ofNat j)]=>p9 P t n i j h
   | _=>none
 | _=>none
inductive AD | mark (D:Nat) | fn (f:Nat) (args:List AV)
inductive EX | bQ | ret | ext (id:Nat)
inductive Tk
 | cd (rd:Option Nat) (n:Nat) (c:bd) (fr:Tr AV) (D:List AD) (h:Hp)
 | lp (rd:Option Nat) (n:Nat) (c:bd) (fr:Tr AV) (D:List AD) (h:Hp)
 | cl (f:Nat) (args:List AV) (h:Hp)
 | yl (l:Nat) (args:List AV) (h:Hp)
 | df (f:Nat) (args:List AV) (h:Hp)
inductive Rs | no | cd (e:EX) (fr:Tr AV) (D:List AD) (h:Hp) | rv (v:AV) (h:Hp)
inductive Ro | no | v (x:AV) (h:Hp) | d (a:AD)
abbrev Xt:=Nat→Option (List AV→Hp→Option (AV×Hp))
def dB (n:Nat) (fr:Tr AV) (d:Option Nat) (v:AV):Option (Tr AV):=match d with
 | none=>some fr
 | some d=>cond (aq d n && aq d bp) (some<|fr.set d v) none
def mQ (X:Xt) (ih:Tk→Rs) (f:AV) (args:List AV) (h:Hp):Ro:=match f with
 | .fn f a c=>match X f with
   | some e=>match e (a++(args++c)) h with
     | some (v,h)=> .v v h
     | none=> .no
   | none=>match ih (.cl f (a++(args++c)) h) with
     | .rv v h=> .v v h
     | _=> .no
 | .dU l=>match ih (.yl l args h) with
   | .rv v h=> .v v h
   | _=> .no
 | _=> .no
def lS (P:aj) (G:Nat) (X:Xt) (ih:Tk→Rs) (o:Op) (xs:List AV) (h:Hp):Ro:=match jw P o xs with
 | some v=> .v v h
 | none=>match fm P o xs h with
   | some v=> .v v h
   | none=>match o with
     | .call ⟨.value _,_,_⟩=>match xs with
       | f::args=>mQ X ih f args h
       | []=> .no
     | .defer ⟨.value _,_,_⟩=>match xs with
       | .fn f a c::args=> .d<|.fn f<|a++(args++c)
       | _=> .no
     | _=>match kB P G o xs h with
       | some (v,h)=> .v v h
       | none=>match nK P G o xs h with
         | some (v,h')=>cond (aA h.nx h'.nx) (.v v h') .no
         | none=> .no
inductive Gd | y | n | no
def fH (n:Nat) (ops:List an) (fr:Tr AV) (g:Option (Nat×Bool)):Gd:=match g with
 | none=> .y
 | some (j,want)=>match ops[j]? with
   | some o=>match o.dst with
     | some t=>cond (aq t n) (match bN fr t with
       | .bool b=>cond (b==want) .y .n
       | .bo []=> .n
       | _=> .no) .no
     | none=> .no
   | none=> .no
def fK (P:aj) (G:Nat) (X:Xt) (ih:Tk→Rs) (rd:Option Nat) (n:Nat) (ops:List an):List an→Tr AV→List AD→Hp→Rs
 | [],fr,D,h=> .cd .bQ fr D h
 | o::l,fr,D,h=>match fH n ops fr o.guard with
   | .y=>match gr G n fr (dK o.op) with
     | some xs=>match lS P G X ih o.op xs h with
       | .v v h=>match dB n fr o.dst v with
         | some fr=>fK P G X ih rd n ops l fr D h
         | none=> .no
       | .d a=>match rd with
         | none=>match dB n fr o.dst (.bo []) with
           | some fr=>fK P G X ih rd n ops l fr (a::D) h
           | none=> .no
         | some _=> .no
       | .no=> .no
     | none=> .no
   | .n=>match dB n fr o.dst (.bo []) with
     | some fr=>fK P G X ih rd n ops l fr D h
     | none=> .no
   | .no=> .no
def eO:Nat→List AV→Tr AV→Tr AV
 | _,[],fr=>fr
 | i,v::l,fr=>eO (i+1) l<|fr.set i v
def jB (n:Nat):List Nat→List AV→Tr AV→Option (Tr AV)
 | [],[],fr=>some fr
 | p::ps,v::vs,fr=>match dB n fr (some p) v with
   | some fr=>jB n ps vs fr
   | none=>none
 | _,_,_=>none
def eQ (P:aj) (n:Nat) (fr:Tr AV) (h:Hp):List ResultVar→Option (List AV)
 | []=>some []
 | .tmp t::l=>match eQ P n fr h l with
   | some A=>cond (aq t n) (some (bN fr t::A)) none
   | none=>none
 | .cell a t::l=>match eQ P n fr h l with
   | some A=>cond (aq a n) (match nk P t (bN fr a) h with
     | some v=>some (v::A)
     | none=>none) none
   | none=>none
def jz:List AV→AV
 | [v]=>v
 | A=> .bo A
def fJ (G:Nat) (ih:Tk→Rs):List AD→Hp→Option Hp
 | [],h=>some h
 | .mark d::l,h=>match h.t.get d with
   | some (.ji true)=>cond (aA G d && aq d bp) (fJ G ih l ⟨h.t.set d (.ji false),h.nx⟩) none
   | _=>none
 | .fn f args::l,h=>match ih (.df f args h) with
   | .rv _ h=>fJ G ih l h
   | _=>none
def sD:EX→Option bd
 | .bQ=>none
 | .ret=>some .ret
 | .ext i=>some<|.exit i
def kg (G:Nat) (ih:Tk→Rs) (rd:Option Nat) (n:Nat) (fr:Tr AV) (D:List AD) (l:Nat) (h:Hp):Rs:=match h.t.get l with
 | some (.loop st A m C ps aF body d)=>match st with
   | .busy=> .no
   | _=>cond (aA G l && aq l bp) (match A with
     | none=> .cd .bQ fr D ⟨h.t.set l (.loop .exhausted A m C ps aF body d),h.nx⟩
     | some c=>ih (.cd rd n c fr D ⟨h.t.set l (.loop .exhausted A m C ps aF body d),h.nx⟩)) .no
 | _=> .no
def kH (ih:Tk→Rs) (G:Nat) (rd:Option Nat) (n:Nat) (g:ax) (ps:List Nat) (aF body:bd) (fr:Tr AV) (D:List AD) (h:Hp):Rs:=match gq G n fr g with
 | some (.fn f a c)=>match rd with
   | none=>match bI h (.ji true) with
     | some A=>match bI A (.loop .ready none n fr ps aF body h.nx) with
       | some C=>match ih (.cl f (a++(.dU A.nx::c)) C) with
         | .rv _ E=>kg G ih rd n fr (.mark h.nx::D) A.nx E
         | _=> .no
       | none=> .no
     | none=> .no
   | some I=>match h.t.get I with
     | some (.loop _ _ _ _ _ _ _ d)=>match bI h (.loop .ready none n fr ps aF body d) with
       | some C=>match ih (.cl f (a++(.dU h.nx::c)) C) with
         | .rv _ E=>kg G ih rd n fr D h.nx E
         | _=> .no
       | none=> .no
     | _=> .no
 | _=> .no
def me (G:Nat) (ih:Tk→Rs) (l:Nat) (args:List AV) (h:Hp):Rs:=match h.t.get l with
 | some (.loop .ready J n fr ps aF body d)=>match jB n ps args fr with
   | some fr=>match ih (.cd (some l) n aF fr [] h) with
     | .cd .bQ fr [] h=>match h.t.get l with
       | some (.loop .ready L C A M E I d1)=>cond (aA G l && aq l bp) (match ih (.cd (some l) n body fr [] ⟨h.t.set l (.loop .busy L C A M E I d1),h.nx⟩) with
         | .cd e fr [] h=>match h.t.get l with
           | some (.loop .busy J C A ps aF body d)=>match e with
             | .bQ=> .rv (.bool true) ⟨h.t.set l (.loop .ready none C A ps aF body d),h.nx⟩
             | e=> .rv (.bool false) ⟨h.t.set l (.loop .done (sD e) C A ps aF body d),h.nx⟩
           | _=> .no
         | _=> .no) .no
       | _=> .no
     | _=> .no
   | none=> .no
 | _=> .no
mutual
def dR:AV→AV→Bool
 | .bool a,.bool b=>a==b
 | .int k a,.int k' b=>cond (av (cy k)<|cy k') (decide (a=b)) false
 | .str l,.str m=>eB l m
 | .ptr b o,.ptr b' o'=>av b b' && av o o'
 | .ec,.ec=>true
 | .sl b o n c x,.sl b' o' n' c' x'=>(av b b' && av o o') && (av n n' && (av c c' && (x==x')))
 | .cW,.cW=>true
 | .map b,.map b'=>av b b'
 | .gn,.gn=>true
 | .fn f a c,.fn f' a' c'=>av f f' && (gQ a a' && gQ c c')
 | .dU l,.dU l'=>av l l'
 | .eP,.eP=>true
 | .eE t v,.eE t' v'=>av t t' && dR v v'
 | .cQ,.cQ=>true
 | .agg l,.agg m=>gQ l m
 | .bo l,.bo m=>gQ l m
 | _,_=>false
def gQ:List AV→List AV→Bool
 | [],[]=>true
 | a::l,b::m=>cond (dR a b) (gQ l m) false
 | _,_=>false
end
def kN:List ax→List Nat
 | []=> []
 | .tmp t::l=>t::kN l
 | _::l=>kN l
def pD (ops:List an) (g:Option (Nat×Bool)):List Nat:=match g with
 | none=> []
 | some (j,_)=>match ops[j]? with
   | some q=>match q.dst with
     | some t=> [t]
     | none=> []
   | none=> []
def kG (ops:List an) (o:an):List Nat:=pD ops o.guard++kN (dK o.op)
def lN (t:Nat):List Nat→Bool
 | []=>false
 | u::l=>cond (av t u) true<|lN t l
def nw (d:Option Nat) (l:List Nat):Bool:=match d with
 | some t=>lN t l
 | none=>false
def iJ (l:List Nat) (i:Nat):Nat:=gW l i 0
def iI (acc:List Nat):List bD→Nat
 | []=>0
 | e::l=>cond (cm .any e && aq e.on acc.length) (Nat.lor (Nat.lor (Nat.pow 2 e.on)<|iJ acc e.on)<|iI acc l)<|iI acc l
def ez:List an→List Nat→List Nat
 | [],acc=>acc
 | o::l,acc=>ez l<|acc++ [iI acc o.after.toList]
def fC (A:List Nat) (i j:Nat):Bool:=mH (iJ A i) j
def lA (i:Nat):List bD→Bool
 | []=>true
 | e::l=>cond (cm .any e && !(aq e.on i)) false<|lA i l
def sn (a b:Option Nat):Bool:=match a,b with
 | some a,some b=>av a b
 | _,_=>false
def mR (ops:List an) (E:List Nat) (i:Nat) (A:an):Nat→List an→Bool
 | _,[]=>true
 | j,C::l=>cond (aq j i) ((!(sn A.dst C.dst) && (fC E i j || (!(nw C.dst<|kG ops A) && !(nw A.dst<|kG ops C)))) && mR ops E i A (j+1) l) true
def ka (ops:List an) (A:List Nat):Nat→List an→Bool
 | _,[]=>true
 | i,C::l=>(lA i C.after.toList && mR ops A i C 0 ops) && ka ops A (i+1) l
inductive Cs | s | p | l | a | c
structure Rec where
 k:Cs
 xs:List AV
 v:AV
 hb:Hp
 ha:Hp
def mL (P:aj) (e:ai):Option (List AV):=match zeroOf P e with
 | some (some A)=>match gp (fk 4) A with
   | some l=>cond (cI l) (some l) none
   | none=>none
 | _=>none
def early (A:List Nat) (i:Nat) (last:Option Nat):Bool:=match last with
 | some c=> !(fC A i c)
 | none=>false
def qo (P:aj) (G:Nat) (X:Xt) (ih:Tk→Rs) (fr:Bool) (o:Op) (xs:List AV) (h:Hp):Option Rec:=match jw P o xs with
 | some v=>some ⟨.p,xs,v,h,h⟩
 | none=>match fm P o xs h with
   | some v=>some ⟨.l,xs,v,h,h⟩
   | none=>match fr,o with
     | true,.alloc e=>match mL P e with
       | some l=>match bI h (.cells l e 0 .x) with
         | some A=>some ⟨.a,xs,.ptr h.nx 0,h,A⟩
         | none=>none
       | none=>none
     | _,_=>match lS P G X ih o xs h with
       | .v v A=>some ⟨.c,xs,v,h,A⟩
       | _=>none
def zR (i:Nat) (last:Option Nat):Cs→Option Nat
 | .c=>some i
 | _=>last
def hP (P:aj) (G:Nat) (X:Xt) (ih:Tk→Rs) (n:Nat) (ops:List an) (A:List Nat):Nat→Option Nat→List an→Tr AV→Hp→Option (List Rec×Tr AV×Hp)
 | _,_,[],fr,h=>some ([],fr,h)
 | i,last,o::l,fr,h=>match fH n ops fr o.guard with
   | .y=>match gr G n fr (dK o.op) with
     | some xs=>match qo P G X ih (early A i last) o.op xs h with
       | some r=>match dB n fr o.dst r.v with
         | some fr=>match hP P G X ih n ops A (i+1) (zR i last r.k) l fr r.ha with
           | some (rs,fr,h)=>some (r::rs,fr,h)
           | none=>none
         | none=>none
       | none=>none
     | none=>none
   | .n=>match dB n fr o.dst (.bo []) with
     | some fr=>match hP P G X ih n ops A (i+1) last l fr h with
       | some (rs,fr,h')=>some (⟨.s,[],.bo [],h,h⟩::rs,fr,h')
       | none=>none
     | none=>none
   | .no=>none
def pn (a:Option AV) (v:AV):Bool:=match a with
 | some a=>dR a v
 | none=>false
def lQ (P:aj) (A:List Nat) (i:Nat) (o:Op) (xs:List AV) (v:AV):Nat→List Rec→Bool
 | _,[]=>true
 | j,q::l=>cond (match q.k with
   | .c=>cond (aq j i) (fC A i j || pn (fm P o xs q.hb) v) (fC A j i || pn (fm P o xs q.ha) v)
   | .a=> !(aq j i)
   | _=>true) (lQ P A i o xs v (j+1) l) false
def lP (A:List Nat) (i:Nat):Nat→List Rec→Bool
 | _,[]=>true
 | j,q::l=>cond (match q.k with
   | .c=>cond (aq j i) (fC A i j) true
   | .a=>cond (aq j i) (fC A i j) true
   | _=>true) (lP A i (j+1) l) false
def gX (P:aj) (A:List Nat) (rs:List Rec):Nat→List an→List Rec→Bool
 | _,[],[]=>true
 | i,o::l,q::m=>cond (match q.k with
   | .l=>lQ P A i o.op q.xs q.v 0 rs
   | .c=>lP A i 0 rs
   | _=>true) (gX P A rs (i+1) l m) false
 | _,_,_=>false
def mW (P:aj) (G:Nat) (X:Xt) (ih:Tk→Rs) (n:Nat) (ops:List an) (fr:Tr AV) (D:List AD) (h:Hp):Rs:=match ez ops [] with
 | A=>cond (ka ops A 0 ops) (match hP P G X ih n ops A 0 none ops fr h with
   | some (rs,fr,h)=>cond (gX P A rs 0 ops rs) (.cd .bQ fr D h) .no
   | none=> .no) .no
def dr (P:aj) (G:Nat) (X:Xt) (ih:Tk→Rs):Tk→Rs
 | .cd rd n c fr D h=>match c with
   | .skip => .cd .bQ fr D h
   | .region _ ⟨ops⟩ draw=>cond draw (mW P G X ih n ops fr D h)<|fK P G X ih rd n ops ops fr D h
   | .seq a b=>match ih (.cd rd n a fr D h) with
     | .cd .bQ fr D h=>ih<|.cd rd n b fr D h
     | r=>r
   | .cond x a b=>match gq G n fr x with
     | some (.bool true)=>ih<|.cd rd n a fr D h
     | some (.bool false)=>ih<|.cd rd n b fr D h
     | _=> .no
   | .block id c=>match ih (.cd rd n c fr D h) with
     | .cd (.ext j) fr D h=>cond (av j id) (.cd .bQ fr D h)<|.cd (.ext j) fr D h
     | r=>r
   | .loop c=>ih<|.lp rd n c fr D h
   | .rangeFunc g ⟨ps⟩ aF body=>kH ih G rd n g ps aF body fr D h
   | .exit id=> .cd (.ext id) fr D h
   | .ret=> .cd .ret fr D h
   | _=> .no
 | .lp rd n c fr D h=>match ih (.cd rd n c fr D h) with
   | .cd .bQ fr D h=>ih<|.lp rd n c fr D h
   | r=>r
 | .cl f args h=>match P.funcs[f]? with
   | some fn=>match fn.body with
     | some c=>cond (aA args.length fn.ntmps && aq fn.ntmps bp) (match ih (.cd none fn.ntmps c (eO 0 args .nil) [] h) with
       | .cd (.ext _) _ _ _=> .no
       | .cd _ fr D h=>match fJ G ih D h with
         | some h=>match eQ P fn.ntmps fr h fn.results.toList with
           | some A=> .rv (jz A) h
           | none=> .no
         | none=> .no
       | _=> .no) .no
     | none=> .no
   | none=> .no
 | .yl l args h=>me G ih l args h
 | .df f args h=>match P.funcs[f]? with
   | some fn=>match fn.body with
     | some c=>cond (aA args.length fn.ntmps && aq fn.ntmps bp) (match (match c with
       | .seq (.region _ ⟨⟨some d,.call ⟨.builtin .recover,⟨[]⟩,⟨[]⟩⟩,ty,pos,af,none⟩::rest⟩ false) y=>match dB fn.ntmps (eO 0 args .nil) (some d) .cQ with
         | some fr=>match fK P G X ih none fn.ntmps (⟨some d,.call ⟨.builtin .recover,⟨[]⟩,⟨[]⟩⟩,ty,pos,af,none⟩::rest) rest fr [] h with
           | .cd .bQ fr [] h=>ih<|.cd none fn.ntmps y fr [] h
           | _=> .no
         | none=> .no
       | c=>ih (.cd none fn.ntmps c (eO 0 args .nil) [] h)) with
       | .cd (.ext _) _ _ _=> .no
       | .cd _ fr [] h=>match eQ P fn.ntmps fr h fn.results.toList with
         | some A=> .rv (jz A) h
         | none=> .no
       | _=> .no) .no
     | none=> .no
   | none=> .no
def eC (P:aj) (G:Nat) (X:Xt):Nat→Tk→Rs
 | 0,_=> .no
 | n+1,t=>dr P G X (eC P G X n) t
def lI (c:Nat):List UInt8→Nat→Int
 | [],_=> -1
 | b::l,i=>cond (av b.toNat c) (gF i)<|lI c l<|i+1
def qX (xs:List AV) (h:Hp):Option (AV×Hp):=match xs with
 | [.str l,.int .u8 (.ofNat c)]=>cond (aq c 256) (match de .i64 (lI c l 0) with
   | some v=>some (v,h)
   | none=>none) none
 | _=>none
def qW (xs:List AV) (h:Hp):Option (AV×Hp):=match xs with
 | [x]=>some (x,h)
 | _=>none
end Go.Hb
namespace Go.Hb
section
variable {P:aj} {G:Nat} {r:Rn} {T:Nat} {h:Hp} {w:ae} {N:Fm} {σ:Nat→ab} {dst:Option Nat} {ty:ai} {pos :String} {af:Array bD} {g:Option (Nat×Bool)} {x y z:ax}
theorem HR.Be (hr:HR P G r T h w) {b o:Nat} {l news:List AV} {e C:Nat} {ex:Ck} {q:Loc} {Nw:List ab} (hb:h.t.get b=some (.cells l e C ex)) (am:aA G b=true) (an:aq b bp=true) (V:r b=some q) (I:ar r news=some Nw) (al:cI news=true) (hle:o+news.length≤l.length) (ay:C≤o):
 ∃ c fr,w.heap[q.ak]? =some (.cells c e fr)∧fr.2≤q.sh+o∧q.sh+o+Nw.length≤c.size∧(∀ u∈Nw,u.oneCell'=true)∧
   St P G T r h w r ⟨h.t.set b (.cells (l.take o++(news++l.drop (o+news.length))) e C ex),h.nx⟩ (w.setRow q.ak (c.toList.take (q.sh+o)++Nw++c.toList.drop (q.sh+o+Nw.length)).toArray):=by
 obtain ⟨q',Z,c,fr,us,aa,J,aC,ac,au,ad,ae,av⟩:=hr.live b _ hb;rw [V] at Z; cases Z;have az:=bM I;have aB:=bM J;have O:=ku I al;obtain ⟨L,E⟩:∃ L,c.toList.take (q.sh+o)++Nw++c.toList.drop (q.sh+o+Nw.length)=L:=⟨_,rfl⟩
 have M:=qw c.toList Nw (q.sh+o)<|by have :=jL (xs:=c); omega
 rw [E] at M;have ax:L.length=c.size:=by rw [← E]; simp; omega
 refine ⟨c,fr,aa,ag,ag,O,?_⟩;rw [E];refine hr.gZ hb an V (aP am) ?_ ⟨U,U,by simp,fun k _ ao=>setRow_other w q.ak k _ ao⟩;rw [setRow_heap w q.ak _ _ e _ aa];refine ⟨L.toArray,fr,_,U,dk (ff o J) (dk I<|fD (o+news.length) J),?_,fun j a A=> ?_,au,?_,⟨fun hex=> ?_,ae.2⟩,fun s ap=> ?_⟩
 · simp only [cn,dW,lh,c7]; omega
 · rw [jX,M];have ah:(us.take o).length=o:=by simp; omega
   by_cases m1:j < o
   · rw [fy ag,fR,if_pos m1] at A;rw [if_pos ag,kS]; exact ac _ _ A
   · rw [fA ag,ah] at A;rw [if_neg ag];by_cases aD:j < o+Nw.length
     · rw [fy ag] at A;rw [if_pos ag,show q.sh+j - (q.sh+o)=j - o from by omega]; exact A
     · rw [fA ag,gG] at A;rw [if_neg ag,kS];refine ac j a ?_;rw [← A]; congr 1; omega
 · intro a ha;rcases dL.1 ha with ha | ha
   · exact ad a<|oJ ha
   · rcases dL.1 ha with ha | ha
     · exact O a ha
     · exact ad a<|oI ha
 · obtain ⟨ai,aw,aj⟩:=ae.1 hex;refine ⟨ai,?_,aj⟩;simp only [cn,dW,lh,c7]; omega
 · have :=av s ap;simp only [c7]; omega
theorem Ap (hr:HR P G r T h w) {t b o n c i j:Nat} {L:Hp} {v:AV} {k ao:aH} (hn:p9 P t n i j h=some (v,L)) (hT:L.nx≤T) (al:den r (.sl b o n c false)=some (ev N σ x)) (am:ev N σ y= .int k (gF i)) (an:ev N σ z= .int ao (gF j)):YM P G r T N σ ⟨dst,.slice t x (some y) (some z) none,ty,pos,af,g⟩ h w v L:=by
 unfold p9 at hn;split at hn
 · rename_i e he;replace hn:=ay hn; obtain ⟨M,hn⟩:=hn;simp only [aD] at M;obtain rfl :=aW M.1;obtain rfl :=aW M.2.1;cases hn;simp only at hT;obtain ⟨q,au,ar,hu⟩:=mV al;have aj:=nW (dst:=dst) (ty:=ty) (pos :=pos) (af:=af) (g:=g) (w:=w) he hu am an ⟨dE _,Int.le_refl _,by simp; omega⟩;obtain ⟨ad,ac⟩:∃ ad:Nat,bT (some ⟨q.ak,q.sh+o,none⟩) (q.room - c) j e=some ⟨q.ak,ad,none⟩:=by
    unfold bT; split
    · exact ⟨_,U⟩
    · exact ⟨_,by rw [cM,cE]⟩
   have hle:=Rn.lL (i:=h.nx) ⟨q.ak,ad,q.room - c - j⟩<|hr.new h.nx (aI _) ag;refine ⟨r.ext h.nx ⟨q.ak,ad,q.room - c - j⟩,_,w,?_,.inl aj,hle,⟨fun j J C=> ?_,fun j k Z aa aw ap C E I A he=> ?_,fun k E ah=> ?_,hr.dz.le hle,bK hr.base<|iu _⟩,iu _,Md.refl _ _,fun g aq k E ae=> ?_,fun k E=>Rn.fG _ _<|by simp only at E; omega⟩
   · rw [kd (Rn.ea _ _ _) (by simp)];simp [ac]
   · obtain ⟨q',I,A⟩:=hr.live j J C;exact ⟨q',hle _ _ I,A.le hle⟩
   · obtain ⟨q',O,_⟩:=hr.live j Z C;obtain ⟨av,V,_⟩:=hr.live k aa E;rw [hle _ _ O] at I; cases I;rw [hle _ _ V] at A; cases A;exact hr.inj j k Z aa _ _ C E O V he
   · simp only at E; rw [Rn.fG _ _ ag]; exact hr.new k ag ah
   · obtain ⟨j,J,q',ab,C,ai,rfl⟩:=ae;obtain ⟨ap,A,_⟩:=hr.live j J C;have :=hle _ _ A;rw [ai] at this; cases this;exact ⟨j,J,_,ab,C,A,U⟩
 · cases hn
theorem HR.yJ (hr:HR P G r T h w) {b:Nat} (hb:aq b bp=true):St P G T r h w r ⟨h.t.del b,h.nx⟩ w:=
 ⟨Rn.le_refl r,hr.del hb,aI _,Md.refl _ _,fun g _ k _ E=>by
  obtain ⟨j,J,q',C,A,I,rfl⟩:=E;rw [Tr.kn _ _ _ hb] at A;split at A
  · cases A
  · exact ⟨j,J,q',C,A,I,U⟩,fun _ _=>rfl⟩
theorem HR.Ag (hr:HR P G r T h w) {b:Nat} {o:AO} {q q':Loc} {E:Hp} {ob:AO} (hb:h.t.get b=some ob) (L:aq b bp=true) (O:r b=some q) (Z:aA G b=true) (J:q'.ak=q.ak) (hn:Hb.bI ⟨h.t.del b,h.nx⟩ o=some E) (hT:E.nx≤T) (ad:∀ r',r.le r'→OR P r' q' o w.heap[q.ak]?):
 ∃ r',r' h.nx=some q'∧St P G T r h w r' E w:=by
 have U:=hr.del L;have ah:=hr.yJ L;unfold Hb.bI at hn;replace hn:=ay hn; obtain ⟨M,hn⟩:=hn;cases hn;simp only at hT M;have hle:=Rn.lL (i:=h.nx) q'<|hr.new h.nx (aI _) ag;have V:∀ g,g≤G→Fr g r h q.ak:=fun g A=>⟨b,_,q,bK A (aP Z),hb,O,rfl⟩
 refine ⟨r.ext h.nx q',Rn.ea _ _ _,hle,U.put hle M (Rn.ea _ _ _) (by rw [J]; exact ad _ hle) (fun _ _ _=>rfl) (fun j aj al ai A ae he=> ?_) (iu _) (fun k C ac=> ?_),iu _,Md.refl _ _,fun g A k C aa=> ?_,fun k C=>Rn.fG _ _<|by simp only at C; omega⟩
 · rw [Tr.kn _ _ _ L] at A;split at A
   · cases A
   · rename_i ab;exact ab<|hr.inj j b _ _ _ _ A hb ae O<|by rw [he,J]
 · simp only at C; rw [Rn.fG _ _ ag]; exact hr.new k ag ac
 · rcases Fr.set M (Rn.ea _ _ _) hle U aa with I | I
   · rw [I,J]; exact V g A
   · exact ah.cH g A k C I
theorem BO (hr:HR P G r T h w) {t b o n c i:Nat} {C:Hp} {v:AV} {k:aH} (hn:qJ P G t b o n c i h=some (v,C)) (hT:C.nx≤T) (aj:den r (.sl b o n c false)=some (ev N σ x)) (al:ev N σ y= .int k (gF i)):YM P G r T N σ ⟨dst,.slice t x (some y) none none,ty,pos,af,g⟩ h w v C:=by
 unfold qJ at hn;split at hn
 · rename_i e he;replace hn:=ay hn; obtain ⟨E,hn⟩:=hn;simp only [aD] at E;obtain rfl :=aW E.1;obtain ⟨_,O,V⟩:=E;split at hn
   · rename_i l aF ap ex hb;split at hn
     · rename_i ao I;replace hn:=ay hn; obtain ⟨A,hn⟩:=hn;simp only [aD] at A;obtain rfl :=aW A.1;have d1:=aW A.2.1;have d2:=aP A.2.2;split at hn
       · rename_i aq ac;cases hn;obtain ⟨q,J,av,hu⟩:=mV aj;obtain ⟨q',L,cc,fr,us,am,aw,ax,az,aA,aB,aC,an⟩:=hr.live b _ hb;rw [J] at L; cases L;have aE:=an e I;have ai:=nX (dst:=dst) (ty:=ty) (pos :=pos) (af:=af) (g:=g) (w:=w) he hu al ⟨dE _,Int.le_refl _⟩;have ah:(c+i+(q.room - c - i))*e=q.room*e:=by congr 1; omega
         rw [iX,iX] at ah;obtain ⟨ad,Z,au,aa⟩:∃ ad:Nat,bT (some ⟨q.ak,q.sh+o,none⟩) (q.room - c) i e=some ⟨q.ak,ad,none⟩∧q.sh≤ad∧ad+(q.room - c - i)*e≤cc.size:=by
          unfold bT; split
          · rename_i h0;refine ⟨_,U,ag,?_⟩;rw [show q.room - c - i=0 from by omega,mI]; omega
          · exact ⟨q.sh+o+i*e,by rw [cM,cE],ag,ag⟩
         obtain ⟨r',ae,bh⟩:=hr.Ag (q':=⟨q.ak,ad,q.room - c - i⟩) hb V J O rfl ac hT fun r' hle=>by
          refine ⟨cc,fr,[],am,by simp [ar],by simp only [wA,ir]; omega,fun j u ab=>by simp at ab,by simp only; omega,fun u hu=>by simp at hu,⟨(fun h=>by cases h),fun h=>absurd U h⟩,fun s M=> ?_⟩;rw [I] at M; cases M;exact aa
         refine ⟨r',_,w,?_,.inl ai,bh⟩;rw [kd ae (by simp)];simp [Z]
       · cases hn
     · cases hn
   · cases hn
 · cases hn
theorem yn (hr:HR P G r T h w) {t:ai} {a v:AV} {J:Hp} (hn:o8 P G t a h=some (v,J)) (U:den r a=some (ev N σ x)):YM P G r T N σ ⟨dst,.call ⟨.builtin .clear,#[x],#[t]⟩,ty,pos,af,g⟩ h w v J:=by
 have I:∀ {u:ab} {w':ae},(ot #[t] ty #[ev N σ x]).run P w= .ok u w'→(execOp (ev N σ) ⟨dst,.call ⟨.builtin .clear,#[x],#[t]⟩,ty,pos,af,g⟩).run P w= .ok (.value u) w':=by
  intro u w' h;simp [execOp,resolve,invoke,builtin,h]
 unfold o8 at hn;split at hn
 · replace hn:=ay hn; obtain ⟨A,hn⟩:=hn;cases hn;obtain ⟨e,he⟩:=lK A;have hu:=eA U;exact ⟨r,undef,w,eL r,.inl (I<|by rw [hu]; simp [ot,aC he]; rfl),St.refl hr⟩
 · rename_i b o n c q;split at hn
   · rename_i e s au ar ah;obtain ⟨i,zv,hu,hi,aj,rfl,rfl,ao,az,am,an,aA⟩:=nV (r:=r) ah;obtain ⟨Z,cap,ad,aw,V,_⟩:=eN U;split at hn
     · cases hn;exact ⟨r,undef,w,eL r,.inl (I<|by rw [V]; simp [ot,aC hu]; rfl),St.refl hr⟩
     · rename_i ac;split at hn
       · rename_i l aa av ex hb;replace hn:=ay hn; obtain ⟨A,hn⟩:=hn;simp only [aD] at A;obtain ⟨⟨C,E⟩,c3,c4⟩:=A;have C:=aP C;have E:=aP E;cases hn;have L:=nO am n;have hlen:=bM L;have M:(gu ar n).length=n*i.size:=by
          rw [← hlen]; simp [List.length_flatten,ao]
         obtain ⟨cc,fr,ap,aB,aE,aq,bh⟩:=hr.Be (o:=o) hb c3 c4 ad L (qp an n) (by rw [M]; exact C) E;have O:=run_storeCells_atF P Z.ak (Z.sh+o) aa fr _ 0 cc w ap ag ag aq;simp only [ir] at O;rw [M] at bh;refine ⟨r,undef,_,eL r,.inl (I ?_),bh⟩;rw [V];have al:(vy zv.cells n).toList=(iW n zv.cells.toList).flatten:=by
          have :=qn zv.cells ag n;have :=congrArg Array.toList this;simpa [vy] using this
         have ax:n≠0:=fun h=>ac<|by rw [h]
         obtain ⟨m,rfl⟩:∃ m,n=m+1:=⟨n - 1,ag⟩
         simp [ot,aC hu,zeroValue,bU hi,aj,al,O];rfl
       · cases hn
   · cases hn
 · cases hn
theorem tN {x:AV} {kx:ab} {C:KK} (I:cg C x=true) (E:den r x=some kx):∀ {l:List (AV×AV)} {es:List MapEntry} {j:Nat} {A:MapEntry},dJ r l es→dd C l=true→
 es[j]? =some A→A.key=kx→(es.map fun e=>e.key).Nodup→dJ r (gT x l) (es.eraseIdx j)
 | [],[],j,A,_,_,hj,_,_=>by simp at hj
 | [],_::_,_,_,hm,_,_,_,_=>hm.elim
 | _::_,[],_,_,hm,_,_,_,_=>hm.elim
 | q::l,e::es,0,A,hm,hk,hj,hk',_=>by
   simp only [dd] at hk;cases h1:cg C q.1
   · rw [h1] at hk; cases hk
   · simp only [fB,aQ] at hj;subst hj;simp only [gT,(gU h1 I hm.1 E).2 hk',cond_true];exact hm.2.2
 | q::l,e::es,j+1,A,hm,hk,hj,hk',hn=>by
   simp only [dd] at hk;cases h1:cg C q.1
   · rw [h1] at hk; cases hk
   · rw [h1] at hk;simp only [eY] at hj;simp only [cx,jZ] at hn;have he:dI q.1 x=false :=by
      cases hq:dI q.1 x
      · rfl
      · have :=(gU h1 I hm.1 E).1 hq;exact absurd (dM.2 ⟨A,gI hj,hk'.trans this.symm⟩) hn.1
     simp only [gT,he,cond_false];exact ⟨hm.1,hm.2.1,tN I E hm.2.2 hk hj hk' hn.2⟩
theorem tg {x:AV} {kx:ab} {A:KK} (E:cg A x=true) (C:den r x=some kx):∀ {l:List (AV×AV)} {es:List MapEntry},dJ r l es→dd A l=true→(∀ e∈es,e.key≠kx)→gT x l=l
 | [],_,_,_,_=>rfl
 | q::l,[],hm,_,_=>hm.elim
 | q::l,e::es,hm,hk,hn=>by
   simp only [dd] at hk;cases h1:cg A q.1
   · rw [h1] at hk; cases hk
   · rw [h1] at hk;have he:dI q.1 x=false :=by
      cases hq:dI q.1 x
      · rfl
      · exact absurd ((gU h1 E hm.1 C).1 hq)<|hn e fS
     simp only [gT,he,cond_false,tg E C hm.2.2 hk (fun e he=>hn e<|gH _ he)]
theorem yH (hr:HR P G r T h w) {t J:ai} {b:Nat} {k v:AV} {L:Hp} (hp:ph P G t b k h=some (v,L)) (ap:den r (.map b)=some (ev N σ x)) (I:den r k=some (ev N σ y)):YM P G r T N σ ⟨dst,.call ⟨.builtin .delete,#[x,y],#[t,J]⟩,ty,pos,af,g⟩ h w v L:=by
 have aa:∀ {u:ab} {w':ae},(kV #[t,J] ty #[ev N σ x,ev N σ y]).run P w= .ok u w'→(execOp (ev N σ) ⟨dst,.call ⟨.builtin .delete,#[x,y],#[t,J]⟩,ty,pos,af,g⟩).run P w= .ok (.value u) w':=by
  intro u w' h;simp [execOp,resolve,invoke,builtin,h]
 unfold ph at hp;split at hp
 · rename_i l hb;split at hp
   · rename_i kt e ac;split at hp
     · rename_i aq al;replace hp:=ay hp; obtain ⟨M,hp⟩:=hp;simp only [aD] at M;obtain ⟨⟨ag,ah⟩,hka,hkl⟩:=M;cases hp;obtain ⟨q,es,c,V,hw,hm,hn⟩:=hr.map hb;obtain ⟨q',Z,hu⟩:=jj ap;rw [V] at Z; cases Z;have C:=pP al;have hi:=nj hka I;have aj:∀ e∈es.toList,ko aq e.key:=mZ rfl (nv hm hkl);have am:=(bu.1 hw).1;have st:∀ (A:Array MapEntry),dJ r (gT k l) A.toList→(A.toList.map fun e=>e.key).Nodup→St P G T r h w r ⟨h.t.set b (.map<|gT k l),h.nx⟩ {w with heap:=w.heap.setIfInBounds q.ak<|.map A c} :=fun A g1 g2=>
        hr.gZ hb ah V (aP ag) ⟨A,c,by simp only; rw [iO am],g1,g2⟩ ⟨rfl,rfl,by simp,fun i _ an=>by simp only; rw [ig (fun e=>an e.symm)]⟩
       rcases C.find w (ev N σ y) es.toList hi aj with ⟨E,ao⟩ | ⟨j,ar,E,U,ad⟩
       · refine ⟨r,undef,_,eL r,.inl (aa ?_),st es (by rw [tg hka I hm hkl ao]; exact hm) hn⟩;rw [hu];simp [kV,aC ac,run_getObj_map hw,C.check _ w _ hi,E,setObj,fO,hw];rfl
       · have au:=(bZ.1 U).1;have O:(es.eraseIdxIfInBounds j).toList=es.toList.eraseIdx j:=by simp
         refine ⟨r,undef,_,eL r,.inl (aa ?_),st (es.eraseIdxIfInBounds j) (by rw [O]; exact tN hka I hm hkl U ad hn) (by
          rw [O];exact List.Nodup.sublist (rb _<|List.eraseIdx_sublist _ _) hn)⟩
         rw [hu];simp [kV,aC ac,run_getObj_map hw,C.check _ w _ hi,E,setObj,fO,hw];rfl
     · cases hp
   · cases hp
 · cases hp
theorem B9 (hr:HR P G r T h w) {A it:ai} {a b v:AV} {J:Hp} (hp:qS P G A a b h=some (v,J)) (ac:den r a=some (ev N σ x)) (ad:den r b=some (ev N σ y)):YM P G r T N σ ⟨dst,.call ⟨.builtin .unsafeString,#[x,y],#[A,it]⟩,ty,pos,af,g⟩ h w v J:=by
 have Z:∀ {u:ab} {w':ae},(Builtin.unsafeString_ #[A,it] ty #[ev N σ x,ev N σ y]).run P w= .ok u w'→(execOp (ev N σ) ⟨dst,.call ⟨.builtin .unsafeString,#[x,y],#[A,it]⟩,ty,pos,af,g⟩).run P w= .ok (.value u) w':=by
  intro u w' h;simp [execOp,resolve,invoke,builtin,h]
 have ar:den r (.str [])=some (.string .empty):=rfl;unfold qS at hp;split at hp
 · cases hp;obtain ⟨q,V,hu⟩:=eM ac;have E:=bG ad;exact ⟨r,_,w,ar,.inl (Z<|by rw [hu,E]; exact vQ w A it ty _),St.refl hr⟩
 · cases hp;have hu:=kf ac;have E:=bG ad;exact ⟨r,_,w,ar,.inl (Z<|by rw [hu,E]; exact vQ w A it ty _),St.refl hr⟩
 · rename_i I n _;split at hp
   · rename_i l e ax ex hb;have key:ex≠.a→cond ((ptrTo P A e && (aA n l.length && (aq 0 n && aq n 1000000000))) && (aA G I && aq I bp)) (match jF (l.take n) with
      | some m=>some (AV.str m,(⟨h.t.set I (.cells l e (max ax n) .z),h.nx⟩:Hp))
      | none=>none) none=some (v,J)→YM P G r T N σ ⟨dst,.call ⟨.builtin .unsafeString,#[x,y],#[A,it]⟩,ty,pos,af,g⟩ h w v J:=by
      intro hex hp;replace hp:=ay hp; obtain ⟨ap,hp⟩:=hp;simp only [aD] at ap;obtain ⟨⟨C,al,am,an⟩,hG,hbm⟩:=ap;have al:=aP al;have am:=bA.1 am;have an:=bA.1 an;split at hp
      · rename_i m hm;cases hp;obtain ⟨q,V,cc,fr,us,ah,aj,aK,aw,aL,aM,aN,aO⟩:=hr.live I _ hb;have aa:=aN.2 hex;obtain ⟨q',av,hu⟩:=eM ac;rw [V] at av; cases av;have E:=bG ad;rw [aa] at hu;have aE:=ff n aj;have ao:=qN hm aE;have aQ:=bM aj;have M:m.length=n:=by
         have :=congrArg wx ao;simp [oS] at this;omega
        unfold ptrTo at C;split at C
        · rename_i L aF;simp only [aD,beq_iff_eq] at C;obtain ⟨rfl,aB⟩:=C;have aJ:w.shape? q.ak=some (L,cc.size):=by simp [World.shape?,ah]
          have O:m≠[]:=fun h=>by rw [h] at M; simp at M; omega
          have aC:=Lib.run_unsafeString_row (P:=P) w A it ty L aF aB q.ak cc.size aJ m O ag ag (fun j u aG=>by
           have az:us[j]? =some (.int .u8 u.toNat):=by
            have :(us.take n)[j]? =some (.int .u8 u.toNat):=by rw [ao]; simp [U8,aG]
            rw [fR] at this;split at this
            · exact this
            · cases this
           rw [cE,et,dQ ah,b9];have :=aw j _ az;rwa [aa,b9] at this)
          have au:il w ⟨q.ak,0,none⟩ m.length= {w with heap:=w.heap.modify q.ak fun
           | .cells c elem (lo,hi)=> .cells c elem (if lo==hi then (0,0 +m.length) else (min lo 0,max hi (0 +m.length)))
           | o=>o} :=by
           unfold il;rw [if_neg ag];rfl
          obtain ⟨lo,hi⟩:=fr;have aI:(il w ⟨q.ak,0,none⟩ m.length).heap[q.ak]? =some (.cells cc L (if lo==hi then (0,0 +m.length) else (min lo 0,max hi (0 +m.length)))):=by
           rw [au];simp only [mh,if_true,ah];rfl
          refine ⟨r,.string ⟨m.toArray⟩,il w ⟨q.ak,0,none⟩ m.length,U,.inl (Z ?_),hr.gZ hb hbm V (aP hG) ?_ ?_⟩
          · rw [hu,E,← M]; exact aC
          · rw [aI];refine ⟨cc,_,us,U,aj,aK,aw,?_,aM,⟨(fun h=>by cases h),fun _=>aa⟩,aO⟩;simp only at aL;split <;> simp only <;> omega
          · rw [au];exact ⟨U,U,by simp,fun k _ aH=>by simp only [mh]; rw [if_neg (fun e=>aH e.symm)]⟩
        · cases C
      · cases hp
     split at hp
     · cases hp
     · rename_i O;exact key O hp
   · cases hp
 · cases hp
theorem Ay (hr:HR P G r T h w) {o:Op} {xs:List AV} {v:AV} {L:Hp} (A:nK P G o xs h=some (v,L)) (hT:L.nx≤T) (I:ar r xs=some ((dK o).map<|ev N σ)):YM P G r T N σ ⟨dst,o,ty,pos,af,g⟩ h w v L:=by
 have two:∀ {a b:AV} {l:List ax},ar r [a,b]=some (l.map<|ev N σ)→∃ x y,l= [x,y]∧den r a=some (ev N σ x)∧den r b=some (ev N σ y):=by
  intro a b l h;have :=bM h;simp at this;obtain ⟨x,y,rfl⟩:∃ x y,l= [x,y]:=by
   match l,this with
   | [x,y],_=>exact ⟨x,y,rfl⟩
  exact ⟨x,y,U,eu h⟩
 have one:∀ {a:AV} {l:List ax},ar r [a]=some (l.map<|ev N σ)→∃ x,l= [x]∧den r a=some (ev N σ x):=by
  intro a l h;have :=bM h;simp at this;obtain ⟨x,rfl⟩:=mC.1 this;exact ⟨x,U,c9 h⟩
 unfold nK at A;split at A
 · rename_i C t ad;split at A
   · obtain ⟨C⟩:=C;obtain ⟨x,y,rfl,E,J⟩:=two I;exact xE hr A hT E J
   · cases A
 · rename_i C t;split at A
   · obtain ⟨C⟩:=C;obtain ⟨x,rfl,E⟩:=one I;exact yn hr A E
   · cases A
 · rename_i C t kt;split at A
   · obtain ⟨C⟩:=C;obtain ⟨x,y,rfl,E,J⟩:=two I;exact yH hr A E J
   · cases A
 · rename_i C ac;obtain ⟨C⟩:=C;split at A
   · cases A;obtain ⟨x,rfl,E⟩:=one I;exact ⟨r,_,w,U,.inl (qR (v:= .nilFunc) (eA E)<|.inl U),St.refl hr⟩
   · replace A:=ay A; obtain ⟨V,A⟩:=A;have V:=bA.1 V;cases A;obtain ⟨x,rfl,E⟩:=one I;obtain ⟨q,cap,aa,hn,hu,_⟩:=eN E;exact ⟨r,_,w,by simp only [den,aa],.inl (qR (v:= .nilFunc) hu<|.inr ag),St.refl hr⟩
   · cases A
 · rename_i C ab it;split at A
   · obtain ⟨C⟩:=C;obtain ⟨x,y,rfl,E,J⟩:=two I;exact B9 hr A E J
   · cases A
 · split at A
   · obtain ⟨M,O⟩:=eu I;exact BO hr A hT M<|bG O
   · cases A
 · split at A
   · obtain ⟨M,O,Z⟩:=iz I;exact Ap hr A hT M (bG O)<|bG Z
   · cases A
 · cases A
end
end Go.Hb
namespace Go.Hb
def fF:EX→aE
 | .bQ=> .normal
 | .ret=> .ret
 | .ext i=> .exit i
def fE (r:Rn):List AD→List Deferred→Prop
 | [],[]=>True
 | .mark d::l,x::m=>(∃ q,r d=some q∧x= {target:= .collected q.ak,args:= #[]})∧fE r l m
 | .fn f args::l,x::m=>(∃ (a:List ab) (cap A:Array ab),ar r args=some a∧x= {target:= .fn (.func f) cap,args:=A}∧A++cap=a.toArray)∧fE r l m
 | _,_=>False
def lX (r:Rn):Option Nat→Option Nat→Prop
 | none,none=>True
 | some l,some k=> ∃ q,r l=some q∧q.ak=k
 | _,_=>False
theorem jh {r s:Rn} (h:r.le s):∀ {D:List AD} {m:List Deferred},fE r D m→fE s D m
 | [],[],_=>trivial
 | [],_::_,h'=>h'.elim
 | .mark d::l,[],h'=>h'.elim
 | .fn f args::l,[],h'=>h'.elim
 | .mark d::l,x::m,⟨⟨q,h1,h2⟩,h3⟩=>⟨⟨q,h _ _ h1,h2⟩,jh h h3⟩
 | .fn f args::l,x::m,⟨⟨a,cap,as_,h1,h2⟩,h3⟩=>⟨⟨a,cap,as_,ew h h1,h2⟩,jh h h3⟩
theorem uq {r s:Rn} (h:r.le s) {a b:Option Nat} (hr:lX r a b):lX s a b:=by
 cases a <;> cases b
 · trivial
 · exact hr.elim
 · exact hr.elim
 · obtain ⟨q,A,C⟩:=hr; exact ⟨q,h _ _ A,C⟩
theorem cO.le {r s:Rn} (h:r.le s) {n:Nat} {fr:Tr AV} {σ:Nat→ab} (A:cO r n fr σ):cO s n fr σ:=fun i hi=>gO h<|A i hi
def bX (P:aj) (G:Nat) (rd:Option Nat) (n:Nat) (W:Option Nat→(aE→Act→ae→Prop)→Act→ae→Prop) (fr:Tr AV) (D:List AD) (h:Hp) (e:EX) (I:Tr AV) (E:List AD) (A:Hp):Prop :=
 h.nx≤A.nx∧∀ (T:Nat) (r:Rn) (w:ae) (σ:Nat→ab) (Dl:List Deferred) (rr:Option Nat) (Q:aE→Act→ae→Prop),A.nx≤T→HR P G r T h w→cO r n fr σ→fE r D Dl→lX r rd rr→
  (∀ (r':Rn) (w':ae) (σ':Nat→ab) (C:List Deferred),St P G T r h w r' A w'→cO r' n I σ'→fE r' E C→Q (fF e) (act ⟨n,C,[],rr⟩ σ') w')→W rr Q (act ⟨n,Dl,[],rr⟩ σ) w
def rA (P:aj) (G:Nat) (f:Nat) (args:List AV) (h:Hp) (v:AV) (A:Hp):Prop :=
 h.nx≤A.nx∧∀ (T:Nat) (r:Rn) (w:ae) (L:List ab),A.nx≤T→HR P G r T h w→ar r args=some L→aO P f L.toArray w fun u w'=> ∃ r',den r' v=some u∧St P G T r h w r' A w'
def oR (P:aj) (G:Nat) (l:Nat) (args:List AV) (h:Hp) (v:AV) (A:Hp):Prop :=
 h.nx≤A.nx∧∀ (T:Nat) (r:Rn) (w:ae) (L:List ab) (q:Loc),A.nx≤T→HR P G r T h w→ar r args=some L→r l=some q→YieldAt dt 0 P q.ak L.toArray w fun e w'=> ∃ u r',e= .returned u∧den r' v=some u∧St P G T r h w r' A w'
def xj (P:aj) (G:Nat) (f:Nat) (args:List AV) (h A:Hp):Prop :=
 h.nx≤A.nx∧∀ (T:Nat) (r:Rn) (w:ae) (L:List ab),A.nx≤T→HR P G r T h w→ar r args=some L→CallsDIn dt 0 P f L.toArray .returning w fun e C w'=> ∃ v,e= .returned v∧C= .returning∧∃ r',St P G T r h w r' A w'
def n9 (P:aj) (c:bd) (rr:Option Nat) (Q:aE→Act→ae→Prop) (a:Act) (w:ae):Prop :=
 ∀ (b:Frame) (k:List Item) (cs:List Frame),b.roundOf=(fe rr).round→(fe rr).fn b.fn→(fe rr).room (cs.length+1 +0)→
   ∃ e A w',Q e A w'∧ArrivesIn (Machine.fenced P<|fe rr) P (lone (b.atR a (.code c:: .inLoop c::k)) cs w) b k cs e A w'
def ix (P:aj) (G:Nat):Tk→Rs→Prop
 | .cd rd n c fr D h,.cd e fr' D' h'=>bX P G rd n (fun rr Q a w=>c.wpIn (fe rr) 0 P Q a w) fr D h e fr' D' h'
 | .lp rd n c fr D h,.cd e fr' D' h'=>bX P G rd n (n9 P c) fr D h e fr' D' h'
 | .cl f args h,.rv v h'=>rA P G f args h v h'
 | .yl l args h,.rv v h'=>oR P G l args h v h'
 | .df f args h,.rv v h'=>xj P G f args h h'
 | _,.no=>True
 | _,_=>False
def Good (P:aj) (G:Nat) (ih:Tk→Rs):Prop := ∀ t,ix P G t (ih t)
def eK (P:aj) (G:Nat) (X:Xt):Prop := ∀ f e,X f=some e→∀ xs h v A,e xs h=some (v,A)→h.nx≤A.nx∧∀ (T:Nat) (r:Rn) (w:ae) (us:List ab),A.nx≤T→HR P G r T h w→ar r xs=some us→
 ∃ r' u w',den r' v=some u∧(callFunc f us.toArray).run P w= .ok (.value u) w'∧St P G T r h w r' A w'
def dN (P:aj):Prop := ∀ f fn c,P.funcs[f]? =some fn→fn.body=some c→fT P f
section
variable {P:aj} {G:Nat} {r:Rn} {T:Nat} {h:Hp} {w:ae} {N:Fm} {σ:Nat→ab} {dst:Option Nat} {ty:ai} {pos :String} {af:Array bD} {g:Option (Nat×Bool)} {x y z:ax} {K:Act→ae→Prop} {Q:aE→Act→ae→Prop}
theorem n8 {o:an} (hn:∀ c,o.op≠.defer c) {u:ab} {w':ae} (hr:(execOp (ev N σ) o).run P w= .ok (.value u) w'∨(execOp (ev N σ) o).run P w= .ok .skip w'∧u=undef) (A:K ((act N σ).put o.dst u) w'):o.wpIn (fe N.r) 0 P (act N σ) w K Q:=by
 refine ⟨fun f _=>ga _ f,?_⟩;rw [jl,mw _ _ _ hn,cD];rcases hr with hr | ⟨hr,rfl⟩
 · rw [hr]; exact A
 · rw [hr]; exact A
theorem rQ {f:Nat} {fo:ax} {first cap:Array ab} {args:Array ax} {A:Array ai} (C:ev N σ fo= .func (.func f) first cap):(execOp (ev N σ) ⟨dst,.call ⟨.value fo,args,A⟩,ty,pos,af,g⟩).run P w=(callFunc f<|first++args.map (ev N σ)++cap).run P w:=by
 simp only [execOp,resolve,C,kW,ek,fP,dV,invoke]
end
end Go.Hb
namespace Go.Hb
section
variable {P:aj} {G:Nat} {h:Hp}
theorem gk {o:AO} {A:Hp} (hn:bI h o=some A):A.nx=h.nx+1:=by
 unfold bI at hn;replace hn:=ay hn; obtain ⟨_,hn⟩:=hn;cases hn; rfl
theorem um {t:ai} {b:Nat} {k v:AV} {A:Hp} (hp:kD P t b k v h=some A):A.nx=h.nx:=by
 unfold kD at hp;split at hp
 · split at hp
   · split at hp
     · replace hp:=ay hp; obtain ⟨_,hp⟩:=hp; cases hp; rfl
     · cases hp
   · cases hp
 · cases hp
theorem By {t b o:Nat} {v:AV} {C:Hp} (A:l6 P G t b o v h=some C):C.nx=h.nx:=by
 unfold l6 at A;split at A
 · split at A
   · replace A:=ay A; obtain ⟨_,A⟩:=A; cases A; rfl
   · cases A
 · cases A
theorem Aw {o:Op} {xs:List AV} {v:AV} {C:Hp} (A:kB P G o xs h=some (v,C)):h.nx≤C.nx:=by
 unfold kB at A;split at A
 · split at A
   · split at A
     · replace A:=ay A; obtain ⟨_,A⟩:=A;split at A
       · rename_i hn; cases A; have :=gk hn; omega
       · cases A
     · cases A
   · cases A
 · split at A
   · replace A:=ay A; obtain ⟨_,A⟩:=A;split at A
     · rename_i hn; cases A; have :=gk hn; omega
     · cases A
   · cases A
 · split at A
   · rename_i hn; cases A; have :=gk hn; omega
   · cases A
 · split at A
   · replace A:=ay A; obtain ⟨_,A⟩:=A;split at A
     · replace A:=ay A; obtain ⟨_,A⟩:=A;split at A
       · rename_i hn; cases A; have :=gk hn; omega
       · cases A
     · cases A
   · cases A
 · split at A
   · split at A
     · replace A:=ay A; obtain ⟨_,A⟩:=A;split at A
       · rename_i hn; cases A; have :=gk hn; omega
       · cases A
     · cases A
   · cases A
 · split at A
   · split at A
     · rename_i E; cases A; have :=By E; omega
     · cases A
   · cases A
 · split at A
   · replace A:=ay A; obtain ⟨_,A⟩:=A;split at A
     · rename_i hp; cases A; have :=um hp; omega
     · cases A
   · cases A
 · split at A
   · replace A:=ay A; obtain ⟨_,A⟩:=A;split at A
     · rename_i hp; cases A; have :=um hp; omega
     · cases A
   · cases A
 · cases A
end
section
variable {P:aj} {G:Nat} {X:Xt} {ih:Tk→Rs} {n:Nat}
def fX (P:aj) (G:Nat) (o:Op) (xs:List AV) (h:Hp) (v:AV) (A:Hp):Prop :=
 h.nx≤A.nx∧∀ (T:Nat) (r:Rn) (w:ae) (N:Fm) (σ:Nat→ab) (dst:Option Nat) (ty:ai) (pos :String) (af:Array bD) (g:Option (Nat×Bool)) (K:Act→ae→Prop) (Q:aE→Act→ae→Prop),A.nx≤T→HR P G r T h w→ar r xs=some ((dK o).map<|ev N σ)→
  (∀ (r':Rn) (u:ab) (w':ae),den r' v=some u→St P G T r h w r' A w'→K ((act N σ).put dst u) w')→(Oper.mk dst o ty pos af g).wpIn (fe N.r) 0 P (act N σ) w K Q
theorem fX.run {o:Op} {xs:List AV} {h A:Hp} {v:AV} (hn:∀ c,o≠.defer c) (O:h.nx≤A.nx)
 (hr:∀ (T:Nat) (r:Rn) (w:ae) (N:Fm) (σ:Nat→ab) (dst:Option Nat) (ty:ai) (pos :String) (af:Array bD) (g:Option (Nat×Bool)),A.nx≤T→HR P G r T h w→ar r xs=some ((dK o).map<|ev N σ)→YM P G r T N σ ⟨dst,o,ty,pos,af,g⟩ h w v A):fX P G o xs h v A:=
 ⟨O,fun T r w N σ dst ty pos af g K Q hT L J M=>by
  obtain ⟨r',u,w',C,E,I⟩:=hr T r w N σ dst ty pos af g hT L J;exact n8 hn E (M r' u w' C I)⟩
theorem x7 (an:Good P G ih) (au:eK P G X) (ar:dN P) (ay:∀ f args h v L,ih (.cl f args h)= .rv v L→∃ fn c,P.funcs[f]? =some fn∧fn.body=some c) {fo:ax} {I:List ax} {ad:Array ai} {f:AV} {args:List AV} {h L:Hp} {v:AV} (C:mQ X ih f args h= .v v L):
 fX P G (.call ⟨.value fo,⟨I⟩,ad⟩) (f::args) h v L:=by
 have ah:∀ c,Op.call ⟨.value fo,⟨I⟩,ad⟩≠.defer c:=fun c e=>by cases e
 unfold mQ at C;split at C
 · rename_i f a c;split at C
   · rename_i e he;split at C
     · rename_i v1 ac aj;cases C;obtain ⟨ab,E⟩:=au f e he _ _ _ _ aj;refine fX.run ah ab fun T r w N σ dst ty pos af g hT aa V=> ?_;obtain ⟨u,us,A,Z,U⟩:=cF V;simp only [dK,cx,fQ] at A;obtain ⟨A,rfl⟩:=A;obtain ⟨J,c',ha,ae,rfl⟩:=iB Z;obtain ⟨r',u,w',M,O,aq⟩:=E T r w _ hT aa<|dk ha<|dk U ae;refine ⟨r',u,w',M,.inl ?_,aq⟩;rw [rQ A];have :J.toArray++(⟨I⟩:Array ax).map (ev N σ)++c'.toArray=(J++(I.map (ev N σ)++c')).toArray:=by simp
       rw [this]; exact O
     · cases C
   · split at C
     · rename_i v1 ac ap;cases C;have E:=an<|.cl f (a++(args++c)) h;rw [ap] at E;obtain ⟨ab,E⟩:=E;obtain ⟨fn,cd,az,av⟩:=ay _ _ _ _ _ ap;have aw:=ar f fn cd az av;refine ⟨ab,fun T r w N σ dst ty pos af g K Q hT aa V ag=> ?_⟩;obtain ⟨u,us,A,Z,U⟩:=cF V;simp only [dK,cx,fQ] at A;obtain ⟨A,rfl⟩:=A;obtain ⟨J,c',ha,ae,rfl⟩:=iB Z;have aB:=E T r w _ hT aa<|dk ha<|dk U ae;refine ⟨fun f _=>ga _ f,?_⟩;rw [jl,mw _ _ _ ah,cD,rQ A];have :J.toArray++(⟨I⟩:Array ax).map (ev N σ)++c'.toArray=(J++(I.map (ev N σ)++c')).toArray:=by simp
       rw [this,aw];simp only [Oper.uponIn_enter];refine ⟨fun h0=>(by rw [jk] at h0; cases h0),CallsIn.mono (m8 aB) ?_⟩;rintro e w' ⟨u,rfl,r',M,O⟩;exact ag r' u w' M O
     · cases C
 · rename_i l;split at C
   · rename_i v1 ac aD;cases C;have E:=an<|.yl l args h;rw [aD] at E;obtain ⟨ab,E⟩:=E;refine ⟨ab,fun T r w N σ dst ty pos af g K Q hT aa V ag=> ?_⟩;obtain ⟨u,us,A,Z,U⟩:=cF V;simp only [dK,cx,fQ] at A;obtain ⟨A,rfl⟩:=A;obtain ⟨q,aA,rfl⟩:=pj Z;obtain ⟨fn,tmps,al,am,aC,ao⟩:=E T r w _ q hT aa U aA;refine ⟨fun f _=>ga _ f,?_⟩;rw [jl,mw _ _ _ ah,cD];have aj:(execOp (ev N σ) ⟨dst,.call ⟨.value fo,⟨I⟩,ad⟩,ty,pos,af,g⟩).run P w= .ok (.round q.ak fn tmps al am) w:=by
      have hm:(⟨I⟩:Array ax).map (ev N σ)=(I.map<|ev N σ).toArray:=by simp
      simp only [execOp,resolve,A,kW,ek,fP,dV,invoke];simp [aC]
     rw [aj];simp only [k9];refine ⟨fun h0=>(by rw [jk] at h0; cases h0),?_⟩;have ac:RoundIn (fe N.r) (0 - 1) P q.ak fn tmps al am w fun e w'=> ∃ u r',e= .returned u∧den r' v=some u∧St P G T r h w r' L w':=by
      cases hr:N.r with
      | none=>exact ao
      | some k=>exact ao
     refine RoundIn.mono ac ?_;rintro e w' ⟨u,r',rfl,M,O⟩;exact ag r' u w' M O
   · cases C
 · cases C
theorem ug (Z:Good P G ih) (aa:eK P G X) (V:dN P) (ab:∀ f args h v L,ih (.cl f args h)= .rv v L→∃ fn c,P.funcs[f]? =some fn∧fn.body=some c) {o:Op} {xs:List AV} {h L:Hp} {v:AV} (A:lS P G X ih o xs h= .v v L):fX P G o xs h v L:=by
 unfold lS at A;split at A
 · rename_i v1 hp;cases A;have E:∀ c,o≠.defer c:=fun c e=>by subst e; simp [jw] at hp
   refine fX.run E (aI _) fun T r w N σ dst ty pos af g hT C I=> ?_;obtain ⟨u,J,M⟩:=uf (dst:=dst) (ty:=ty) (pos :=pos) (af:=af) (g:=g) hp I;exact ⟨r,u,w,J,.inl (M w),St.refl C⟩
 · split at A
   · rename_i v1 U;cases A;have E:∀ c,o≠.defer c:=fun c e=>by subst e; simp [fm] at U
     refine fX.run E (aI _) fun T r w N σ dst ty pos af g hT C I=> ?_;obtain ⟨u,J,M⟩:=ue (dst:=dst) (ty:=ty) (pos :=pos) (af:=af) (g:=g) C U I;exact ⟨r,u,w,J,.inl M,St.refl C⟩
   · split at A
     · rename_i fo O ac;split at A
       · obtain ⟨O⟩:=O;exact x7 Z aa V ab A
       · cases A
     · split at A <;> cases A
     · rename_i ad E;split at A
       · rename_i v1 J hm;cases A;have E:∀ c,o≠.defer c:=fun c e=>by subst e; simp [kB] at hm
         exact fX.run E (Aw hm) fun T r w N σ dst ty pos af g hT C I=>Ax C hm hT I
       · split at A
         · rename_i v1 J hm;cases hle:aA h.nx J.nx
           · rw [hle] at A; cases A
           rw [hle] at A;cases A;have E:∀ c,o≠.defer c:=fun c e=>by subst e; simp [nK] at hm
           exact fX.run E (aP hle) fun T r w N σ dst ty pos af g hT C I=>Ay C hm hT I
         · cases A
end
end Go.Hb
namespace Go.Hb
section
variable {P:aj} {G:Nat} {X:Xt} {ih:Tk→Rs} {n:Nat} {r:Rn}
theorem kJ {fr C:Tr AV} {d:Option Nat} {v:AV} {u:ab} {σ:Nat→ab} (A:dB n fr d v=some C) (I:cO r n fr σ) (J:den r v=some u):cO r n C (bR σ d u):=by
 cases d with
 | none=>simp only [dB,aQ] at A; subst A; exact I
 | some d=>
   simp only [dB] at A;replace A:=ay A; obtain ⟨E,A⟩:=A;simp only [aD] at E;cases A;intro i hi;simp only [bR,aG,bN,Tr.iD _ _ _ _ E.2];by_cases e:i=d
   · subst e;rw [if_pos rfl,show av i i=true from by simp]; exact J
   · rw [if_neg e,show av i d=false from by
      cases hb:av i d
      · rfl
      · exact absurd (aW hb) e]
     exact I i hi
theorem pC {ops:List an} {fr:Tr AV} {o:an} {N:Fm} {σ:Nat→ab} (A:fH N.n ops fr o.guard= .y) (E:cO r N.n fr σ):gE o (yielded ops.toArray (act N σ).tmps)=true :=by
 unfold fH at A;split at A
 · exact fw _ (by assumption) _
 · rename_i j want I;split at A
   · rename_i O J;split at A
     · rename_i t L;cases hb:aq t N.n
       · rw [hb] at A; cases A
       · rw [hb] at A;simp only [cond_true] at A;split at A
         · rename_i b M;cases hbw:(b==want)
           · rw [hbw] at A; cases A
           · have C:=E t<|bA.1 hb;rw [M] at C;rw [jH I (by simp [cG,J,L]) hb (fg C),hbw]
         · cases A
         · cases A
     · cases A
   · cases A
theorem sT {ops:List an} {fr:Tr AV} {o:an} {N:Fm} {σ:Nat→ab} (A:fH N.n ops fr o.guard= .n) (I:cO r N.n fr σ):gE o (yielded ops.toArray (act N σ).tmps)=false :=by
 unfold fH at A;split at A
 · cases A
 · rename_i j want J;split at A
   · rename_i O L;split at A
     · rename_i t M;cases hb:aq t N.n
       · rw [hb] at A; cases A
       · rw [hb] at A;simp only [cond_true] at A;split at A
         · rename_i b E;cases hbw:(b==want)
           · have C:=I t<|bA.1 hb;rw [E] at C;rw [jH J (by simp [cG,L,M]) hb (fg C),hbw]
           · rw [hbw] at A; cases A
         · rename_i E;have C:=I t<|bA.1 hb;rw [E] at C;rw [eL] at C;exact qT J (by simp [cG,L,M]) hb (di C).symm
         · cases A
     · cases A
   · cases A
theorem lT (ad:Good P G ih) (ae:eK P G X) (ac:dN P) (ag:∀ f args h v O,ih (.cl f args h)= .rv v O→∃ fn c,P.funcs[f]? =some fn∧fn.body=some c) {rd:Option Nat} {ops:List an} :∀ {l:List an} {fr ab:Tr AV} {D aa:List AD} {h O:Hp},
 fK P G X ih rd n ops l fr D h= .cd .bQ ab aa O→bX P G rd n (fun rr Q a w=>wpListIn (fe rr) 0 P ops.toArray Q l a w) fr D h .bQ ab aa O
 | [],fr,ab,D,aa,h,O,he=>by
   simp only [fK,Rs.cd.injEq,true_and] at he;obtain ⟨rfl,rfl,rfl⟩:=he;exact ⟨aI _,fun T r w σ Dl rr Q hT E C J M L=>L r w σ Dl (St.refl E) C J⟩
 | o::l,fr,ab,D,aa,h,O,he=>by
   simp only [fK] at he;split at he
   · rename_i ai;split at he
     · rename_i xs ap;split at he
       · rename_i v aK A;split at he
         · rename_i aw V;obtain ⟨aH,s1⟩:=ug ad ae ac ag A;obtain ⟨Z,s2⟩:=lT ad ae ac ag he;refine ⟨bK aH Z,fun T r w σ Dl rr Q hT E C J M L=> ?_⟩;show wpListIn _ _ _ _ _ _ _ _;unfold wpListIn;rw [if_pos (pC (N:=⟨n,Dl,[],rr⟩) ai C)];obtain ⟨d,op,ty,pos,af,g⟩:=o;refine s1 T r w ⟨n,Dl,[],rr⟩ σ d ty pos af g _ Q (bK Z hT) E (nI E.dz C ap) fun r' u w' hu bh=> ?_;rw [dv];exact s2 T r' w' _ Dl rr Q hT bh.hr (kJ V (C.le bh.le) hu) (jh bh.le J) (uq bh.le M) fun aq ar au aj ao am al=>L aq ar au aj (bh.trans ao) am al
         · cases he
       · rename_i a A;split at he
         · split at he
           · rename_i aw V;obtain ⟨Z,s2⟩:=lT ad ae ac ag he;refine ⟨Z,fun T r w σ Dl rr Q hT E C J M L=> ?_⟩;have aE:rr=none:=by
              cases rr with
              | none=>rfl
              | some k=>exact M.elim
             subst aE;show wpListIn _ _ _ _ _ _ _ _;unfold wpListIn;rw [if_pos (pC (N:=⟨n,Dl,[],none⟩) ai C)];obtain ⟨d,op,ty,pos,af,g⟩:=o;simp only at A ap V;have aG:=nI (N:=⟨n,Dl,[],none⟩) E.dz C ap;unfold lS at A;split at A
             · cases A
             · split at A
               · cases A
               · split at A
                 · rename_i fo I av;split at A
                   · unfold mQ at A;split at A
                     · split at A
                       · split at A <;> cases A
                       · split at A <;> cases A
                     · split at A <;> cases A
                     · cases A
                   · cases A
                 · rename_i fo I av _ _;split at A
                   · rename_i f aJ c' args _ _;cases A;obtain ⟨I⟩:=I;obtain ⟨u,us,ah,aC,az⟩:=cF aG;simp only [dK,cx,fQ] at ah;obtain ⟨ah,rfl⟩:=ah;obtain ⟨a2,ak,ha,aB,rfl⟩:=iB aC;refine ⟨fun f _=>trivial,?_⟩;have aF:(execOp (ev ⟨n,Dl,[],none⟩ σ) ⟨d,.defer ⟨.value fo,⟨I⟩,av⟩,ty,pos,af,g⟩).run P w= .ok (.defer {target:= .fn (.func f) ak.toArray,args:=a2.toArray++(⟨I⟩:Array ax).map (ev ⟨n,Dl,[],none⟩ σ)}) w:=by
                      simp [execOp,resolve,ah,kW]
                     show k9 _ _ _ _ _ _ _ (fO P (Oper.semAt (fe none).round _ _) w);rw [jl,Oper.semAt_none,cD,aF];simp only [Oper.uponIn_defer];have aD:({(act ⟨n,Dl,[],none⟩ σ) with defers:= {target:=Target.fn (.func f) ak.toArray,args:=a2.toArray++(⟨I⟩:Array ax).map (ev ⟨n,Dl,[],none⟩ σ)} ::(act ⟨n,Dl,[],none⟩ σ).defers} :Act)=act ⟨n,{target:= .fn (.func f) ak.toArray,args:=a2.toArray++(⟨I⟩:Array ax).map (ev ⟨n,Dl,[],none⟩ σ)} ::Dl,[],none⟩ σ:=rfl;rw [aD,dv];refine s2 T r w _ _ none Q hT E (kJ V C<|eL r) ⟨⟨_,_,_,dk ha (dk az aB),U,by simp⟩,J⟩ M fun aq ar au aj ao am al=>L aq ar au aj ao am al
                   · cases A
                 · split at A
                   · cases A
                   · split at A
                     · rename_i ay _;cases hle:aA h.nx ay.nx
                       · rw [hle] at A; cases A
                       · rw [hle] at A; cases A
                     · cases A
           · cases he
         · cases he
       · cases he
     · cases he
   · rename_i ai;split at he
     · rename_i aw V;obtain ⟨Z,s2⟩:=lT ad ae ac ag he;refine ⟨Z,fun T r w σ Dl rr Q hT E C J M L=> ?_⟩;show wpListIn _ _ _ _ _ _ _ _;unfold wpListIn;rw [if_neg (by rw [sT (N:=⟨n,Dl,[],rr⟩) ai C]; simp)];refine ⟨fun f _=>ga _ f,?_⟩;rw [dv];exact s2 T r w _ Dl rr Q hT E (kJ V C<|eL r) J M L
     · cases he
   · cases he
end
end Go.Hb
namespace Go.Hb
section
variable {P:aj} {G:Nat} {X:Xt} {ih:Tk→Rs} {n:Nat} {r:Rn} {T:Nat} {h:Hp} {w:ae}
theorem HR.loop (hr:HR P G r T h w) {l:Nat} {st:LoopState} {E:Option bd} {fr:Tr AV} {ps:List Nat} {aF body:bd} {D:Nat} (O:h.t.get l=some (.loop st E n fr ps aF body D)):
 ∃ q fn A C,r l=some q∧w.heap[q.ak]? =some (.loop {state:=st,pending:=E,fn:=fn,tmps:=A,params:=ps.toArray,assign:=aF,body:=body,defers:=C})∧(∃ x,r D=some x∧x.ak=C)∧A.size=n∧∀ i,i < n→den r (bN fr i)=A[i]? :=by
 obtain ⟨q,U,fn,A,C,I,J,L,M⟩:=hr.live l _ O;exact ⟨q,fn,A,C,U,I,J,L,M⟩
theorem HR.qx (hr:HR P G r T h w) {l:Nat} {q:Loc} {st st':LoopState} {E pe':Option bd} {fr:Tr AV} {ps:List Nat} {aF body:bd} {D fn C:Nat} {A:Array ab} (O:h.t.get l=some (.loop st E n fr ps aF body D)) (J:aA G l=true) (hb:aq l bp=true) (Z:r l=some q)
 (hw:w.heap[q.ak]? =some (.loop {state:=st,pending:=E,fn:=fn,tmps:=A,params:=ps.toArray,assign:=aF,body:=body,defers:=C})) (I:∃ x,r D=some x∧x.ak=C) (aa:A.size=n) (L:∀ i,i < n→den r (bN fr i)=A[i]?):
 St P G T r h w r ⟨h.t.set l (.loop st' pe' n fr ps aF body D),h.nx⟩ (w.putObj q.ak<|.loop {state:=st',pending:=pe',fn:=fn,tmps:=A,params:=ps.toArray,assign:=aF,body:=body,defers:=C}):=by
 have V:=(bu.1 hw).1;refine hr.gZ O hb Z (aP J) ?_ ⟨U,U,by simp [vX],fun k _ M=>iT M⟩;rw [mA V];exact ⟨fn,A,C,U,I,aa,L⟩
theorem uE {σ:Nat→ab} :∀ {ps:List Nat} {args:List AV} {L:List ab} {fr A:Tr AV},jB n ps args fr=some A→cO r n fr σ→ar r args=some L→L.length=ps.length∧cO r n A ((ps.zip L).foldl (fun s p=>aG s p.1 p.2) σ)
 | [],[],L,fr,A,hs,hf,hd=>by
   simp only [jB,aQ] at hs;subst hs;rw [fZ hd]; exact ⟨rfl,hf⟩
 | [],_::_,_,_,_,hs,_,_=>by simp [jB] at hs
 | _::_,[],_,_,_,hs,_,_=>by simp [jB] at hs
 | p::ps,v::vs,L,fr,A,hs,hf,hd=>by
   simp only [jB] at hs;split at hs
   · rename_i U E;obtain ⟨u,us,rfl,I,J⟩:=cF hd;have C:=kJ E hf I;simp only [bR] at C;obtain ⟨M,O⟩:=uE hs C J;exact ⟨by simp [M],O⟩
   · cases hs
theorem xq (N:Fm) (l:List (Tmp×ab)) (σ:Nat→ab):l.foldl (fun t p=>t.setIfInBounds p.1 p.2) (act N σ).tmps=(act N<|l.foldl (fun s p=>aG s p.1 p.2) σ).tmps:=rC N l σ
theorem xp {A:Array ab} {N:Fm} (C:A.size=N.n):A=(act N fun i=>A.getD i undef).tmps:=by
 apply Array.ext_getElem?;intro i;rw [fc];by_cases hi:i < N.n
 · rw [if_pos hi,eW,jK ag]; rfl
 · rw [if_neg hi,Array.getElem?_eq_none ag]
theorem yx {c:Bool} {p:Rs} {v:AV} {h:Hp} (A:cond c p .no= .rv v h):c=true∧p= .rv v h:=by
 cases c
 · cases A
 · exact ⟨U,A⟩
theorem Cu (am:Good P G ih) {l:Nat} {args:List AV} {I:Hp} {v:AV} (A:me G ih l args h= .rv v I):oR P G l args h v I:=by
 unfold me at A;split at A
 · rename_i bp n fr ps aF body d aV;split at A
   · rename_i aE aY;split at A
     · rename_i aH al aL;have s1:=am<|.cd (some l) n aF aE [] h;rw [aL] at s1;obtain ⟨a5,s1⟩:=s1;split at A
       · rename_i ax m1 aC a6 aA aB d1 an;replace A:=yx A; obtain ⟨E,A⟩:=A;simp only [aD] at E;split at A
         · rename_i e bj J aM;have s2:=am<|.cd (some l) n body aH [] ⟨al.t.set l (.loop .busy ax m1 aC a6 aA aB d1),al.nx⟩;rw [aM] at s2;obtain ⟨aw,s2⟩:=s2;simp only at aw;split at A
           · rename_i bq av aj ay ae ah d2 ao;have key:∀ (jump:Option bd) (st:LoopState),jump=sD e→st=(if jump.isNone then .ready else .done)→v= .bool jump.isNone→I=⟨J.t.set l (.loop st jump av aj ay ae ah d2),J.nx⟩→oR P G l args h v I:=by
              intro jump st aa bh a4 aU;subst a4 aU;refine ⟨bK a5 aw,fun T r w L q hT hr aN ac=> ?_⟩;simp only at hT;obtain ⟨q',fn,C,bu,ap,hw,bl,a0,aR⟩:=hr.loop aV;rw [ac] at ap; cases ap;have aZ:=uE (σ:=fun i=>C.getD i undef) aY (fun i hi=>by
               show den r (bN fr i)=some (C.getD i undef);rw [aR i hi,eW,jK ag]; rfl) aN
              obtain ⟨hlen,aP⟩:=aZ;have aX:=run_yield (P:=P) (args:=L.toArray) hw<|by simpa using hlen
              refine ⟨_,_,_,_,aX,roundIn_of_wpIn (F:=dt) trivial ?_⟩;have a3:((ps.toArray.zip L.toArray).foldl (fun tmps (p:Tmp×ab)=>tmps.setIfInBounds p.1 p.2) C)=(act ⟨n,[],[],some q.ak⟩<|(ps.zip L).foldl (fun s p=>aG s p.1 p.2) fun i=>C.getD i undef).tmps:=by
               rw [← vr,Array.toList_zip];simp only [];rw [← xq ⟨n,[],[],some q.ak⟩];rw [← xp (N:=⟨n,[],[],some q.ak⟩) a0]
              have ai:({tmps:=((ps.toArray.zip L.toArray).foldl (fun tmps (p:Tmp×ab)=>tmps.setIfInBounds p.1 p.2) C),defers:= []} :Act)=act ⟨n,[],[],some q.ak⟩ ((ps.zip L).foldl (fun s p=>aG s p.1 p.2) fun i=>C.getD i undef):=by rw [a3]; rfl
              simp only at ai ⊢;rw [ai];refine s1 T r w _ [] (some q.ak) _ ag hr aP trivial ⟨q,ac,U⟩ fun a7 bA bc ad O aQ aO=> ?_;have aK:ad= []:=by cases ad; rfl; exact aO.elim
              subst aK;obtain ⟨br,bg,bx,bv,M,ar,aI,a1,aS⟩:=O.hr.loop an;have :=O.le _ _ ac;rw [M] at this; cases this;have az:=O.hr.qx (st':= .busy) (pe':=ax) an E.1 E.2 M ar aI a1 aS;refine ⟨_,run_beginRound ar U,?_⟩;refine s2 T a7 _ bc [] (some q.ak) _ ag az.hr aQ trivial ⟨q,M,U⟩ fun a8 bb bB bf V bn bm=> ?_;obtain ⟨bt,bi,bz,bw,aq,au,aJ,a2,aT⟩:=V.hr.loop ao;have :=V.le _ _ M;rw [aq] at this; cases this;have a9:=V.hr.qx (st':=st) (pe':=jump) ao E.1 E.2 aq au aJ a2 aT;have Z:=run_endRound (P:=P) jump au;simp only at Z;rw [← bh] at Z;have ba:=St.trans (St.trans (St.trans O az) V) a9;have fin:∃ v w',(Instr.endRound q.ak jump).run P bb= .ok v w'∧∃ u r',(Ending.returned v)= .returned u∧den r' (.bool jump.isNone)=some u∧St P G T r h w r' ⟨J.t.set l (.loop st jump av aj ay ae ah d2),J.nx⟩ w':=
               ⟨_,_,Z,_,a8,rfl,rfl,ba⟩
              cases e with
              | bQ=>subst aa; exact fin
              | ret=>subst aa; exact fin
              | ext i=>subst aa; exact fin
             split at A
             · cases A;exact key none .ready U U U U
             · rename_i aW;cases A;cases e with
               | bQ=>exact absurd rfl aW
               | ret=>exact key (some .ret) .done rfl rfl rfl rfl
               | ext i=>exact key (some<|.exit i) .done rfl rfl rfl rfl
           · cases A
         · cases A
       · cases A
     · cases A
   · cases A
 · cases A
end
end Go.Hb
namespace Go.Hb
section
variable {P:aj} {G:Nat} {X:Xt} {ih:Tk→Rs} {n:Nat} {r:Rn} {T:Nat} {h:Hp} {w:ae}
theorem yw {c:Bool} {p:Rs} {e:EX} {fr:Tr AV} {D:List AD} {h:Hp} (A:cond c p .no= .cd e fr D h):c=true∧p= .cd e fr D h:=by
 cases c
 · cases A
 · exact ⟨U,A⟩
theorem sm (al:Good P G ih) {rd:Option Nat} {fr L:Tr AV} {D J:List AD} {l:Nat} {A:Hp} {e:EX} (he:kg G ih rd n fr D l h= .cd e L J A):h.nx≤A.nx∧
 ∀ (T:Nat) (r:Rn) (w:ae) (σ:Nat→ab) (Dl:List Deferred) (rr:Option Nat) (Q:aE→Act→ae→Prop) (q:Loc) (u:ab),A.nx≤T→HR P G r T h w→r l=some q→cO r n fr σ→fE r D Dl→lX r rd rr→
   (∀ (r':Rn) (w':ae) (σ':Nat→ab) (I:List Deferred),St P G T r h w r' A w'→cO r' n L σ'→fE r' J I→Q (fF e) (act ⟨n,I,[],rr⟩ σ') w')→rangePost (fe rr) 0 P q.ak Q (act ⟨n,Dl,[],rr⟩ σ) (.returned u) w:=by
 unfold kg at he;split at he
 · rename_i st C m M ps aF body d ad;have key:cond (aA G l && aq l bp) (match C with
    | none=>Rs.cd .bQ fr D ⟨h.t.set l (.loop .exhausted C m M ps aF body d),h.nx⟩
    | some c=>ih (.cd rd n c fr D ⟨h.t.set l (.loop .exhausted C m M ps aF body d),h.nx⟩)) .no= .cd e L J A→st≠.busy→h.nx≤A.nx∧
   ∀ (T:Nat) (r:Rn) (w:ae) (σ:Nat→ab) (Dl:List Deferred) (rr:Option Nat) (Q:aE→Act→ae→Prop) (q:Loc) (u:ab),A.nx≤T→HR P G r T h w→r l=some q→cO r n fr σ→fE r D Dl→lX r rd rr→
     (∀ (r':Rn) (w':ae) (σ':Nat→ab) (I:List Deferred),St P G T r h w r' A w'→cO r' n L σ'→fE r' J I→Q (fF e) (act ⟨n,I,[],rr⟩ σ') w')→rangePost (fe rr) 0 P q.ak Q (act ⟨n,Dl,[],rr⟩ σ) (.returned u) w:=by
     intro he bh;obtain ⟨U,he⟩:=yw he;simp only [aD] at U;have run:∀ (r:Rn) (w:ae) (T:Nat) (q:Loc),HR P G r T h w→r l=some q→∃ w',(Instr.endLoop q.ak).run P w= .ok C w'∧St P G T r h w r ⟨h.t.set l (.loop .exhausted C m M ps aF body d),h.nx⟩ w':=by
      intro r w T q hr E;obtain ⟨q',fn,aB,az,ag,hw,aj,ar,ao⟩:=hr.loop ad;rw [E] at ag; cases ag;exact ⟨_,run_endLoop (P:=P) hw bh,hr.qx (st':= .exhausted) (pe':=C) ad U.1 U.2 E hw aj ar ao⟩
     cases C with
     | none=>
       cases he;refine ⟨aI _,fun T r w σ Dl rr Q q u hT hr E Z V ah aa=> ?_⟩;obtain ⟨w',ac,O⟩:=run r w T q hr E;exact ⟨none,w',ac,aa r w' σ Dl O Z V⟩
     | some c=>
       simp only at he;have s1:=al<|.cd rd n c fr D ⟨h.t.set l (.loop .exhausted (some c) m M ps aF body d),h.nx⟩;rw [he] at s1;obtain ⟨au,s1⟩:=s1;refine ⟨au,fun T r w σ Dl rr Q q u hT hr E Z V ah aa=> ?_⟩;obtain ⟨w',ac,O⟩:=run r w T q hr E;exact ⟨some c,w',ac,s1 T r w' σ Dl rr Q hT O.hr Z V ah fun av ax ay ai aw an am=>aa av ax ay ai (O.trans aw) an am⟩
   split at he
   · cases he
   · rename_i ap;exact key he ap
 · cases he
theorem A0 (ad:Good P G ih) (aN:dN P) (aO:∀ f args h v ac,ih (.cl f args h)= .rv v ac→∃ fn c,P.funcs[f]? =some fn∧fn.body=some c) {rd:Option Nat} {g:ax} {ps:List Nat} {aF body:bd} {fr aL:Tr AV} {D aK:List AD} {ac:Hp} {e:EX} (he:kH ih G rd n g ps aF body fr D h= .cd e aL aK ac):
 bX P G rd n (fun rr Q a w=>(Code.rangeFunc g ⟨ps⟩ aF body).wpIn (fe rr) 0 P Q a w) fr D h e aL aK ac:=by
 unfold kH at he;split at he
 · rename_i f a c aP;split at he
   · split at he
     · rename_i aM aQ;split at he
       · rename_i am Z;split at he
         · rename_i v aX V;have s1:=ad<|.cl f (a++(.dU aM.nx::c)) am;rw [V] at s1;obtain ⟨m1,s1⟩:=s1;obtain ⟨a7,s2⟩:=sm ad he;have bg:=gk aQ;have a6:=gk Z;obtain ⟨al,aj,az,ap⟩:=aO _ _ _ _ _ V;have aq:=aN f al aj az ap;refine ⟨ag,fun T r w σ Dl rr Q hT hr M au ae aA=> ?_⟩;have a1:rr=none:=by
            cases rr with
            | none=>rfl
            | some k=>exact ae.elim
           subst a1;refine wpIn_rangeFunc ?_;intro fn _;have L:=lR (N:=⟨n,Dl,[],none⟩) hr.dz M aP;obtain ⟨A,c',ha,ar,L⟩:=iB L;obtain ⟨bm,aR,aD⟩:=hr.bI aQ ag 0 (w':=w.alloc<|.deferred<|some []) rfl rfl rfl fun r' _ _=>rfl;have a2:(w.alloc<|.deferred<|some []).heap.size=w.heap.size+1:=World.size_alloc _ _;obtain ⟨ab,O,E⟩:=aD.hr.bI Z ag 0 (w':=(w.alloc<|.deferred<|some []).alloc<|.loop {state:= .ready,pending:=none,fn:=fn,tmps:=(act ⟨n,Dl,[],none⟩ σ).tmps,params:=⟨ps⟩,assign:=aF,body:=body,defers:=w.heap.size}) rfl rfl rfl fun r' hle _=>by
            refine ⟨fn,(act ⟨n,Dl,[],none⟩ σ).tmps,w.heap.size,U,⟨_,hle _ _ aR,U⟩,by simp [act],fun i hi=> ?_⟩;rw [fc,if_pos hi];exact gO hle<|gO aD.le<|M i hi
           have aE:=aD.trans E;rw [a2] at O;have an:=dk (ew aE.le ha)<|cB (show den ab (.dU aM.nx)=some (.func (.yield<|w.heap.size+1) #[] #[]) from by simp only [den,O])<|ew aE.le ar;have aB:=s1 T ab _ _ ag E.hr an;refine ⟨w.heap.size+1,[{target:= .collected w.heap.size,args:= #[]}],((w.alloc<|.deferred<|some []).alloc<|.loop {state:= .ready,pending:=none,fn:=fn,tmps:=(act ⟨n,Dl,[],none⟩ σ).tmps,params:=⟨ps⟩,assign:=aF,body:=body,defers:=w.heap.size}),{target:= .fn (.func f) c'.toArray,args:=A.toArray++ #[.func (.yield<|w.heap.size+1) #[] #[]]},((w.alloc<|.deferred<|some []).alloc<|.loop {state:= .ready,pending:=none,fn:=fn,tmps:=(act ⟨n,Dl,[],none⟩ σ).tmps,params:=⟨ps⟩,assign:=aF,body:=body,defers:=w.heap.size}),f,(A++(.func (.yield<|w.heap.size+1) #[] #[]::c')).toArray,_,?_,?_,fun _ _=>trivial,?_,fun h0=>(by cases h0),callsIn_wide.2<|ik aB ?_⟩
           · exact run_enterLoop_outer _ _ _ _ _
           · have aw:(act ⟨n,Dl,[],none⟩ σ).eval g= .func (.func f) A.toArray c'.toArray:=by rw [cD]; exact L
             simp only [resolve,aw];simp [go_sem]
           · have ao:A.toArray++ #[.func (.yield<|w.heap.size+1) #[] #[]]++c'.toArray=(A++(.func (.yield<|w.heap.size+1) #[] #[]::c')).toArray:=by simp
             have :=aq (A++(.func (.yield<|w.heap.size+1) #[] #[]::c')).toArray<|(w.alloc<|.deferred<|some []).alloc<|.loop {state:= .ready,pending:=none,fn:=fn,tmps:=(act ⟨n,Dl,[],none⟩ σ).tmps,params:=⟨ps⟩,assign:=aF,body:=body,defers:=w.heap.size};simp only [invoke,ao];exact this
           · rintro aV aH ⟨u,rfl,ah,_,I⟩;have J:=aE.trans I;have hm:ah h.nx=some ⟨w.heap.size,0,0⟩:=I.le _ _<|E.le _ _ aR;exact s2 T ah aH σ ({target:= .collected w.heap.size,args:= #[]} ::Dl) none Q ⟨w.heap.size+1,0,0⟩ u hT I.hr (I.le _ _ O) (M.le J.le) ⟨⟨_,hm,U⟩,jh J.le au⟩ trivial fun aC aI aJ ai aG ay av=>aA aC aI aJ ai (J.trans aG) ay av
         · cases he
       · cases he
     · cases he
   · rename_i bh;split at he
     · rename_i bn bi m0 bb bj a8 a9 d aZ;split at he
       · rename_i am Z;split at he
         · rename_i v aX V;have s1:=ad<|.cl f (a++(.dU h.nx::c)) am;rw [V] at s1;obtain ⟨m1,s1⟩:=s1;obtain ⟨a7,s2⟩:=sm ad he;have a6:=gk Z;obtain ⟨al,aj,az,ap⟩:=aO _ _ _ _ _ V;have aq:=aN f al aj az ap;refine ⟨ag,fun T r w σ Dl rr Q hT hr M au ae aA=> ?_⟩;obtain ⟨aU,rfl⟩:∃ aU,rr=some aU:=by
            cases rr with
            | none=>exact ae.elim
            | some k=>exact ⟨k,rfl⟩
           obtain ⟨C,aS,a0⟩:=ae;obtain ⟨bl,ba,bp,aa,aT,a3,aY,bf,bc⟩:=hr.loop aZ;rw [aS] at aT; cases aT;subst a0;refine wpIn_rangeFunc ?_;intro fn _;have L:=lR (N:=⟨n,Dl,[],some C.ak⟩) hr.dz M aP;obtain ⟨A,c',ha,ar,L⟩:=iB L;obtain ⟨ab,O,E⟩:=hr.bI Z ag 0 (w':=w.alloc<|.loop {state:= .ready,pending:=none,fn:=fn,tmps:=(act ⟨n,Dl,[],some C.ak⟩ σ).tmps,params:=⟨ps⟩,assign:=aF,body:=body,defers:=aa}) rfl rfl rfl fun r' hle _=>by
            obtain ⟨x,a4,a5⟩:=aY;refine ⟨fn,(act ⟨n,Dl,[],some C.ak⟩ σ).tmps,aa,U,⟨x,hle _ _ a4,a5⟩,by simp [act],fun i hi=> ?_⟩;rw [fc,if_pos hi];exact gO hle<|M i hi
           have an:=dk (ew E.le ha)<|cB (show den ab (.dU h.nx)=some (.func (.yield w.heap.size) #[] #[]) from by simp only [den,O])<|ew E.le ar;have aB:=s1 T ab _ _ ag E.hr an;refine ⟨w.heap.size,[],(w.alloc<|.loop {state:= .ready,pending:=none,fn:=fn,tmps:=(act ⟨n,Dl,[],some C.ak⟩ σ).tmps,params:=⟨ps⟩,assign:=aF,body:=body,defers:=aa}),{target:= .fn (.func f) c'.toArray,args:=A.toArray++ #[.func (.yield w.heap.size) #[] #[]]},(w.alloc<|.loop {state:= .ready,pending:=none,fn:=fn,tmps:=(act ⟨n,Dl,[],some C.ak⟩ σ).tmps,params:=⟨ps⟩,assign:=aF,body:=body,defers:=aa}),f,(A++(.func (.yield w.heap.size) #[] #[]::c')).toArray,_,?_,?_,fun aW _=>ga _ aW,?_,fun h0=>(by cases h0),m8<|ik aB ?_⟩
           · exact run_enterLoop_inner a3 _ _ _ _ _
           · have aw:(act ⟨n,Dl,[],some C.ak⟩ σ).eval g= .func (.func f) A.toArray c'.toArray:=by rw [cD]; exact L
             simp only [resolve,aw];simp [go_sem]
           · have ao:A.toArray++ #[.func (.yield w.heap.size) #[] #[]]++c'.toArray=(A++(.func (.yield w.heap.size) #[] #[]::c')).toArray:=by simp
             have :=aq (A++(.func (.yield w.heap.size) #[] #[]::c')).toArray<|w.alloc<|.loop {state:= .ready,pending:=none,fn:=fn,tmps:=(act ⟨n,Dl,[],some C.ak⟩ σ).tmps,params:=⟨ps⟩,assign:=aF,body:=body,defers:=aa};simp only [invoke,ao];exact this
           · rintro aV aH ⟨u,rfl,ah,_,I⟩;have J:=E.trans I;exact s2 T ah aH σ _ (some C.ak) Q ⟨w.heap.size,0,0⟩ u hT I.hr (I.le _ _ O) (M.le J.le) (jh J.le au) ⟨C,J.le _ _ aS,U⟩ fun aC aI aJ ai aG ay av=>aA aC aI aJ ai (J.trans aG) ay av
         · cases he
       · cases he
     · cases he
 · cases he
theorem qs {N:Fm} {σ:Nat→ab} (hr:HR P G r T h w) {fr:Tr AV} (L:cO r N.n fr σ):∀ {l:List ResultVar} {I:List AV},eQ P N.n fr h l=some I→∃ us,ar r I=some us∧(l.mapM<|nR (act N σ).tmps).run P w= .ok us w
 | [],I,A=>by
   simp only [eQ,aQ] at A;subst A;exact ⟨[],by simp [ar],by simp⟩
 | .tmp t::l,I,A=>by
   simp only [eQ] at A;split at A
   · rename_i ag E;replace A:=ay A; obtain ⟨C,A⟩:=A;cases A;obtain ⟨us,M,O⟩:=qs hr L E;have U:=L t<|bA.1 C;have Z:=ux (P:=P) (w:=w)<|A5 (P:=P) (N:=N) (σ:=σ) (w:=w) (t:=t);have J:ev N σ (.tmp t)=σ t:=by simp only [ev,C,cond_true]
     rw [J] at Z;exact ⟨σ t::us,cB U M,by simp [wD,Z,O]⟩
   · cases A
 | .cell a t::l,I,A=>by
   simp only [eQ] at A;split at A
   · rename_i ag E;replace A:=ay A; obtain ⟨C,A⟩:=A;split at A
     · rename_i v zp;cases A;obtain ⟨us,M,O⟩:=qs hr L E;have U:=L a<|bA.1 C;have J:ev N σ (.tmp a)=σ a:=by simp only [ev,C,cond_true]
       obtain ⟨b,off,u,aa,hu,ac⟩:=tz hr zp U;have ad:j7 P N σ w (.cell a t) u:=by
        rcases ac with ⟨ha,V⟩ | ⟨m,cs,ha,rfl,E,V⟩
        · exact hZ (J.trans aa) ha V
        · exact A4 (J.trans aa) ha E V
       have ae:=ux ad;exact ⟨u::us,cB hu M,by simp [wD,ae,O]⟩
     · cases A
   · cases A
theorem qv {N:Fm} {σ:Nat→ab} {fn:Func} (hr:HR P G r T h w) {fr:Tr AV} (L:cO r N.n fr σ) {A:List AV} (V:eQ P N.n fr h fn.results.toList=some A):∃ u,den r (jz A)=some u∧(results fn (act N σ).tmps).run P w= .ok u w:=by
 obtain ⟨us,C,J⟩:=qs hr L V;have Z:(results fn (act N σ).tmps)=(do let A ← fn.results.mapM (nR (act N σ).tmps); pure (if h:A.size=1 then A[0] else .tuple A)):=rfl;have I:=bM C;have E:(fn.results.mapM<|nR (act N σ).tmps).run P w= .ok us.toArray w:=by
  have :fn.results=fn.results.toList.toArray:=by simp
  rw [this,List.mapM_toArray];simp [J]
 rw [Z];unfold jz;split
 · obtain ⟨u,rfl⟩:=mC.1 (show us.length=1 from I);exact ⟨u,c9 C,by simp [E]⟩
 · rename_i O;refine ⟨.tuple us.toArray,by simp only [den,C],?_⟩;have M:us.length≠1:=fun e=>by
    rw [I] at e;obtain ⟨v,rfl⟩:=mC.1 e;exact O v U
   simp [E,M]
end
end Go.Hb
namespace Go.Hb
section
variable {P:aj} {G:Nat} {X:Xt} {ih:Tk→Rs} {n:Nat} {r:Rn} {T:Nat} {h:Hp} {w:ae}
theorem sP:∀ (l:List AV) (k:Nat) (fr:Tr AV) (i:Nat),k+l.length≤1048574→(eO k l fr).get i=if k≤i∧i < k+l.length then l[i - k]? else fr.get i
 | [],k,fr,i,_=>by rw [eO,if_neg (fun h=>by have :=h.1; have :=h.2; simp only [wA] at this; omega)]
 | v::l,k,fr,i,h=>by
   simp only [cr] at h;rw [eO,sP l (k+1) _ i ag,Tr.iD _ _ _ _ (bA.2 (show k < 1048574 by omega))];by_cases C:k+1≤i∧i < k+1 +l.length
   · rw [if_pos C,if_pos (by simp only [cr]; omega)];obtain ⟨m,hm⟩:∃ m,i - k=m+1:=⟨i - k - 1,ag⟩
     rw [hm,eY,show i - (k+1)=m from by omega]
   · rw [if_neg C];by_cases A:i=k
     · rw [if_pos A,if_pos (by simp only [cr]; omega),A]; simp
     · rw [if_neg A,if_neg (by simp only [cr]; omega)]
theorem pA {args:List AV} {L:List ab} (C:ar r args=some L) (hb:aA args.length n=true) (hn:aq n bp=true):cO r n (eO 0 args .nil) (cY L):=by
 have hb:=aP hb;have hn:n < 1048574:=bA.1 hn;have J:=bM C;intro i hi;simp only [bN,sP args 0 .nil i ag,cY,lk,true_and,b9,Nat.sub_zero];by_cases A:i < args.length
 · rw [if_pos A,cK A];obtain ⟨u,E,I⟩:=kb C<|cK A;simp only [I,iU,E,e8]
 · rw [if_neg A,Tr.get_nil];simp only [eL,iU];rw [oF ag]; rfl
theorem rP {f:FuncId} {args:Array ab} {u:FrameMode} {R A:Ending→FrameMode→ae→Prop} (C:CallsDIn dt 0 P f args u w R) (hr:∀ e u w,R e u w→A e u w):CallsDIn dt 0 P f args u w A:=
 ⟨C.1,fun c cs hu E=>let ⟨e,u',w',fr,h1,h2⟩:=C.2 c cs hu E; ⟨e,u',w',fr,hr _ _ _ h1,h2⟩⟩
theorem x8 {f:FuncId} {fn:Func} {id N d:Nat} {ty:ai} {pos :String} {af:Array bD} {rest:List an} {y:bd} {args:List ab} {R:ae→Prop}
 (I:P.funcs[f]? =some fn) (hb:fn.body=some (.seq (.region id ⟨⟨some d,.call ⟨.builtin .recover,⟨[]⟩,⟨[]⟩⟩,ty,pos,af,none⟩::rest⟩ false) y)) (ad:fn.ntmps=N) (hn:aA args.length N=true)
 (h:wpListIn (fe none) 0 P (⟨some d,.call ⟨.builtin .recover,⟨[]⟩,⟨[]⟩⟩,ty,pos,af,none⟩::rest).toArray (Exit.then (y.wpIn (fe none) 0 P fun e a w=>(e= .normal∨e= .ret)∧a.defers= []∧∃ v,(results fn a.tmps).run P w= .ok v w∧R w) fun _ _ _=>False) rest (act ⟨N,[],[],none⟩<|aG (cY args) d .nilIface) w):
 CallsDIn dt 0 P f args.toArray .returning w fun e au w'=> ∃ v,e= .returned v∧au= .returning∧R w':=by
 subst ad;refine ⟨trivial,fun A cs hu _=> ?_⟩
 let b:Frame:= {(default:Frame) with fn:=f,kind:= .deferred}
 have ag:Frame.enter P f args.toArray .deferred=b.at (act ⟨fn.ntmps,[],[],none⟩<|cY args) [.code (.seq (.region id ⟨⟨some d,.call ⟨.builtin .recover,⟨[]⟩,⟨[]⟩⟩,ty,pos,af,none⟩::rest⟩ false) y)]:=by
  rw [← nU fn args [] hn];simp [Frame.enter,Frame.at,I,hb,b]
 have aq:j0 (⟨⟨some d,.call ⟨.builtin .recover,⟨[]⟩,⟨[]⟩⟩,ty,pos,af,none⟩::rest⟩:Array an).size=0::(iV 1 rest.length):=by
  rw [c7,cr,List.range_eq_range',List.range'_succ]
 have ak:=wpOpsIn_eq_wpListIn (F:=fe none) (n:=0) (P:=P) (ops:=(⟨some d,.call ⟨.builtin .recover,⟨[]⟩,⟨[]⟩⟩,ty,pos,af,none⟩::rest).toArray) (Q:=Exit.then (y.wpIn (fe none) 0 P fun e a w=>(e= .normal∨e= .ret)∧a.defers= []∧∃ v,(results fn a.tmps).run P w= .ok v w∧R w) fun _ _ _=>False) rest 1 fun j=>by simp [wT]
 rw [← ak] at h;obtain ⟨e,av,w',V,C⟩:=wp_opsIn _ _ _ h b [.code y] (A::cs) rfl trivial (room_wide _);have C:=(arrivesIn_iff (b:=b) (fun _ _=>stepsIn_wide) rfl).1 C;have ao:step P (lone (b.at (act ⟨fn.ntmps,[],[],none⟩<|cY args) (.inRegion (⟨some d,.call ⟨.builtin .recover,⟨[]⟩,⟨[]⟩⟩,ty,pos,af,none⟩::rest).toArray (0::iV 1 rest.length)::[.code y])) (A::cs) w)=
  .next (lone (b.at (act ⟨fn.ntmps,[],[],none⟩<|aG (cY args) d .nilIface) (.inRegion (⟨some d,.call ⟨.builtin .recover,⟨[]⟩,⟨[]⟩⟩,ty,pos,af,none⟩::rest).toArray (iV 1 rest.length)::[.code y])) (A::cs) w):=by
  have aj:=stepG_op (P:=P) (b:=b) (a:=act ⟨fn.ntmps,[],[],none⟩<|cY args) (k:= [.code y]) (cs:=A::cs) (w:=w) (ops:=(⟨some d,.call ⟨.builtin .recover,⟨[]⟩,⟨[]⟩⟩,ty,pos,af,none⟩::rest).toArray) (i:=0) (rest:=iV 1 rest.length) (o:=⟨some d,.call ⟨.builtin .recover,⟨[]⟩,⟨[]⟩⟩,ty,pos,af,none⟩) rfl (fw _ rfl _);have ar:(execOp (act ⟨fn.ntmps,[],[],none⟩<|cY args).eval ⟨some d,.call ⟨.builtin .recover,⟨[]⟩,⟨[]⟩⟩,ty,pos,af,none⟩).run P w= .ok .recover w:=by
   rw [cD];simp [execOp,resolve,invoke,builtin]
  have aa:=tryRecover_deferred (fr:=b.at (act ⟨fn.ntmps,[],[],none⟩<|cY args) (.inRegion (⟨some d,.call ⟨.builtin .recover,⟨[]⟩,⟨[]⟩⟩,ty,pos,af,none⟩::rest).toArray (0::iV 1 rest.length)::[.code y])) rfl (A::cs);have al:recoverD (A::cs)=none:=by simp [recoverD,hu]
  have ah:(b.at (act ⟨fn.ntmps,[],[],none⟩<|cY args) (.inRegion (⟨some d,.call ⟨.builtin .recover,⟨[]⟩,⟨[]⟩⟩,ty,pos,af,none⟩::rest).toArray (0::iV 1 rest.length)::[.code y])).finish .nilIface=b.at (act ⟨fn.ntmps,[],[],none⟩<|aG (cY args) d .nilIface) (.inRegion (⟨some d,.call ⟨.builtin .recover,⟨[]⟩,⟨[]⟩⟩,ty,pos,af,none⟩::rest).toArray (iV 1 rest.length)::[.code y]):=by
   rw [Frame.finish_at];have :=dv ⟨fn.ntmps,[],[],none⟩ (cY args) (some d) .nilIface;simp only [bR] at this;rw [← this]; rfl
  refine step_lone_go ?_;rw [aj,← ah];simp only [Frame.at] at aa ⊢;simp [stepG.apply,ar,aa,al]
 have L:Steps P (lone (Frame.enter P f args.toArray .deferred) (A::cs) w) (lone (b.at (act ⟨fn.ntmps,[],[],none⟩<|aG (cY args) d .nilIface) (.inRegion (⟨some d,.call ⟨.builtin .recover,⟨[]⟩,⟨[]⟩⟩,ty,pos,af,none⟩::rest).toArray (iV 1 rest.length)::[.code y])) (A::cs) w):=by
  rw [ag];refine .head step_seq<|.head step_region ?_;rw [aq];exact .one ao
 cases e with
 | normal=>
   obtain ⟨aw,a2,ac,am,E⟩:=V b [] (A::cs) rfl trivial (room_wide _);have E:=(arrivesIn_iff (b:=b) (fun _ _=>stepsIn_wide) rfl).1 E;obtain ⟨iF,M,v,Z,J⟩:=am;have O:({A with mode:= .returning} :Frame)=A:=by rw [← hu]
   rcases iF with rfl | rfl
   · refine ⟨.returned v,.returning,ac,{b.at a2 [] with mode:= .returning},⟨v,U,U,J⟩,?_,U,U,U,M,fn,I,Z⟩;rw [O];exact stepsIn_wide.2<|Steps.trans L<|Steps.trans C<|Steps.trans E<|.one step_end
   · obtain ⟨todo,ap⟩:=E;refine ⟨.returned v,.returning,ac,{b.at a2 todo with mode:= .returning},⟨v,U,U,J⟩,?_,U,U,U,M,fn,I,Z⟩;rw [O];exact stepsIn_wide.2<|Steps.trans L<|Steps.trans C ap
 | _=>exact V.elim
theorem pW (O:Good P G ih) (M:dN P) (Z:∀ f args h v C,ih (.df f args h)= .rv v C→∃ fn c,P.funcs[f]? =some fn∧fn.body=some c):∀ {D:List AD} {h C:Hp},fJ G ih D h=some C→h.nx≤C.nx∧∀ (T:Nat) (r:Rn) (w:ae) (Dl:List Deferred) (fn:Func) (tmps:Array ab) (R:Ending→ae→Prop),
 C.nx≤T→HR P G r T h w→fE r D Dl→(∀ (r':Rn) (w':ae),St P G T r h w r' C w'→∃ v,(results fn tmps).run P w'= .ok v w'∧R (.returned v) w')→LeavesInM dt 0 P fn tmps R Dl .returning w
 | [],h,C,he=>by
   simp only [fJ,aQ] at he;subst he;refine ⟨aI _,fun T r w Dl fn tmps R hT hr A E=> ?_⟩;have :Dl= []:=by cases Dl; rfl; exact A.elim
   subst this;exact E r w<|St.refl hr
 | .mark d::D,h,C,he=>by
   simp only [fJ] at he;split at he
   · rename_i ac;replace he:=ay he; obtain ⟨V,he⟩:=he;simp only [aD] at V;obtain ⟨J,s1⟩:=pW O M Z he;refine ⟨J,fun T r w Dl fn tmps R hT hr A E=> ?_⟩;cases Dl with
     | nil=>exact A.elim
     | cons x Dl=>
       obtain ⟨⟨q,ad,rfl⟩,A⟩:=A;obtain ⟨q',ag,I⟩:=hr.live d _ ac;rw [ad] at ag; cases ag;have I:w.heap[q.ak]? =some (.deferred<|some []):=I;have ao:=(bu.1 I).1;have st:St P G T r h w r ⟨h.t.set d (.ji false),h.nx⟩ (w.putObj q.ak<|.deferred none):=
        hr.gZ ac V.2 ad (aP V.1) (by rw [mA ao]; rfl) ⟨rfl,rfl,by simp [vX],fun k _ E=>iT E⟩
       exact ⟨vG,.inl ⟨q.ak,_,U,run_takeDeferred I,s1 T r _ Dl fn tmps R hT st.hr A fun r' w' st'=>E r' w'<|st.trans st'⟩⟩
   · cases he
 | .fn f args::D,h,C,he=>by
   simp only [fJ] at he;split at he
   · rename_i v aw aa;have L:=O<|.df f args h;rw [aa] at L;obtain ⟨ap,L⟩:=L;obtain ⟨ai,ah,an,aj⟩:=Z _ _ _ _ _ aa;have al:=M f ai ah an aj;obtain ⟨J,s1⟩:=pW O M Z he;refine ⟨bK ap J,fun T r w Dl fn tmps R hT hr A E=> ?_⟩;cases Dl with
     | nil=>exact A.elim
     | cons x Dl=>
       obtain ⟨⟨a,cap,av,ha,rfl,am⟩,A⟩:=A;refine ⟨vG,.inr ⟨fun h0=>(by cases h0),.func f,cap,f,a.toArray,U,?_,fun _ _=>trivial,rP (L T r w a (bK J hT) hr ha) ?_⟩⟩
       · simp only [invoke,am];exact al a.toArray w
       · rintro e ax w' ⟨v,rfl,rfl,r',st⟩;exact s1 T r' w' Dl fn tmps R hT st.hr (jh st.le A) fun aq au ar=>E aq au<|st.trans ar
   · cases he
def oN (P:aj) (G:Nat) (X:Xt) (ih:Tk→Rs):Prop := ∀ (rd:Option Nat) (n id:Nat) (ops:List an) (fr:Tr AV) (D:List AD) (h:Hp),match mW P G X ih n ops fr D h with
 | .cd e C A E=>bX P G rd n (fun rr Q a w=>(vA id ⟨ops⟩ true).wpIn (fe rr) 0 P Q a w) fr D h e C A E
 | .no=>True
 | _=>False
theorem bX.bind {rd:Option Nat} {W W' I:Option Nat→(aE→Act→ae→Prop)→Act→ae→Prop} {fr M O:Tr AV} {D C E:List AD} {h V Z:Hp} {J L:EX} (s1:bX P G rd n W fr D h J M C V) (s2:bX P G rd n W' M C V L O E Z)
 (ag:∀ rr Q a w,W rr (fun e a w=>e=fF J∧W' rr Q a w) a w→I rr Q a w):bX P G rd n I fr D h L O E Z:=by
 obtain ⟨ao,s1⟩:=s1;obtain ⟨ab,s2⟩:=s2;refine ⟨bK ao ab,fun T r w σ Dl rr Q hT hr ak ah aa an=>ag rr Q _ w ?_⟩;exact s1 T r w σ Dl rr _ (bK ab hT) hr ak ah aa fun ap au aw ac A al ai=>⟨U,s2 T ap au aw ac rr Q hT A.hr al ai (uq A.le aa) fun aq av ax ad ar am aj=>an aq av ax ad (A.trans ar) am aj⟩
theorem bX.map {rd:Option Nat} {W W':Option Nat→(aE→Act→ae→Prop)→Act→ae→Prop} {fr I:Tr AV} {D A:List AD} {h J:Hp} {C E:EX} (s1:bX P G rd n W fr D h C I A J)
 (M:∀ rr Q a w,W rr (fun e a w=>e=fF C∧Q (fF E) a w) a w→W' rr Q a w):bX P G rd n W' fr D h E I A J:=by
 obtain ⟨ad,s1⟩:=s1;exact ⟨ad,fun T r w σ Dl rr Q hT hr Z O ac ab=>M rr Q _ w<|s1 T r w σ Dl rr _ hT hr Z O ac fun ag ai aj L ah aa V=>⟨U,ab ag ai aj L ah aa V⟩⟩
theorem BG (aa:Good P G ih) (ah:dN P) (ak:∀ f args h v ag,ih (.df f args h)= .rv v ag→∃ fn c,P.funcs[f]? =some fn∧fn.body=some c) (f:Nat) (args:List AV) (h:Hp):ix P G (.cl f args h) (dr P G X ih<|.cl f args h):=by
 show ix P G (.cl f args h) (match P.funcs[f]? with
  | some fn=>match fn.body with
    | some c=>cond (aA args.length fn.ntmps && aq fn.ntmps bp) (match ih (.cd none fn.ntmps c (eO 0 args .nil) [] h) with
      | .cd (.ext _) _ _ _=> .no
      | .cd _ fr D h=>match fJ G ih D h with
        | some h=>match eQ P fn.ntmps fr h fn.results.toList with
          | some C=> .rv (jz C) h
          | none=> .no
        | none=> .no
      | _=> .no) .no
    | none=> .no
  | none=> .no)
 split
 · rename_i fn an;split
   · rename_i c ai;cases hc:(aA args.length fn.ntmps && aq fn.ntmps bp)
     · trivial
     · simp only [cond_true];simp only [aD] at hc;have key:∀ (e:EX) (fr:Tr AV) (D:List AD) (E A:Hp) (C:List AV),(e= .bQ∨e= .ret)→ih (.cd none fn.ntmps c (eO 0 args .nil) [] h)= .cd e fr D E→fJ G ih D E=some A→eQ P fn.ntmps fr A fn.results.toList=some C→ix P G (.cl f args h) (.rv (jz C) A):=by
        intro e fr D E A C al O I J;have V:=aa<|.cd none fn.ntmps c (eO 0 args .nil) [] h;rw [O] at V;obtain ⟨ap,V⟩:=V;obtain ⟨ac,s1⟩:=pW aa ah ak I;refine ⟨bK ap ac,fun T r w L hT hr ab=> ?_⟩;have hlen:=bM ab;refine callsIn_wide.1<|callsIn_of_wp_marks (F:=dt) (n:=0) an ai trivial ?_;rw [nU fn L [] (by rw [hlen]; exact hc.1)];refine V T r w (cY L) [] none _ (bK ac hT) hr (pA ab hc.1 hc.2) trivial trivial fun ar ae av M ad am aj=> ?_;have fin:LeavesInM dt 0 P fn (act ⟨fn.ntmps,M,[],none⟩ av).tmps (fun e w'=> ∃ v,e= .returned v∧∃ r',den r' (jz C)=some v∧St P G T r h w r' A w') M .returning ae:=by
         refine s1 T ar ae M fn _ _ hT ad.hr aj fun au aw Z=> ?_;obtain ⟨u,hu,ao⟩:=qv (N:=⟨fn.ntmps,M,[],none⟩) Z.hr (am.le Z.le) J;exact ⟨u,ao,u,U,au,hu,ad.trans Z⟩
        rcases al with rfl | rfl <;> exact fin
       cases O:ih (.cd none fn.ntmps c (eO 0 args .nil) [] h) with
       | no=>trivial
       | rv v E=>trivial
       | cd e fr D E=>
         cases e with
         | ext i=>trivial
         | bQ=>
           simp only;cases I:fJ G ih D E with
           | none=>trivial
           | some A=>
             simp only;cases J:eQ P fn.ntmps fr A fn.results.toList with
             | none=>trivial
             | some C=>exact key .bQ fr D E A C (.inl rfl) O I J
         | ret=>
           simp only;cases I:fJ G ih D E with
           | none=>trivial
           | some A=>
             simp only;cases J:eQ P fn.ntmps fr A fn.results.toList with
             | none=>trivial
             | some C=>exact key .ret fr D E A C (.inr rfl) O I J
   · trivial
 · trivial
end
end Go.Hb
namespace Go.Hb
section
variable {P:aj} {G:Nat} {X:Xt} {ih:Tk→Rs} {n:Nat} {r:Rn} {T:Nat} {h:Hp} {w:ae}
theorem BH (ac:Good P G ih) (ap:eK P G X) (ao:dN P) (au:∀ f args h v J,ih (.cl f args h)= .rv v J→∃ fn c,P.funcs[f]? =some fn∧fn.body=some c) (f:Nat) (args:List AV) (h:Hp):ix P G (.df f args h) (dr P G X ih<|.df f args h):=by
 cases hs:dr P G X ih (.df f args h) with
 | no=>trivial
 | cd e fr D Z=>
   exfalso;simp only [dr] at hs;split at hs;rename_i fn ah;split at hs;rename_i c ad;cases hc:(aA args.length fn.ntmps && aq fn.ntmps bp);rw [hc] at hs; cases hs;rw [hc] at hs;simp only [cond_true] at hs;split at hs;cases hs;split at hs <;> cases hs;cases hs;cases hs;cases hs
 | rv v J=>
   simp only [dr] at hs;split at hs;rename_i fn ah;split at hs;rename_i c ad;cases hc:(aA args.length fn.ntmps && aq fn.ntmps bp);rw [hc] at hs; cases hs;rw [hc] at hs;simp only [cond_true] at hs;simp only [aD] at hc;split at hs;cases hs;rename_i e aK Z ai A;split at hs;rename_i aM aj;cases hs;split at A;rename_i id d ty pos af rest y;split at A;rename_i aJ az;split at A;rename_i am aa ay;obtain ⟨aB,s1⟩:=lT ac ap ao au ay;have s2:=ac<|.cd none fn.ntmps y am [] aa;rw [A] at s2;obtain ⟨O,s2⟩:=s2;refine ⟨bK aB O,fun T r w L hT hr I=> ?_⟩;have hlen:=bM I;refine x8 (R:=fun w'=> ∃ r',St P G T r h w r' J w') ah ad U (by rw [hlen]; exact hc.1) ?_;have aw:=kJ az (pA I hc.1 hc.2) (show den r .cQ=some .nilIface from rfl);refine s1 T r w (aG (cY L) d .nilIface) [] none _ (bK O hT) hr aw trivial trivial fun aC aE aH al ak ax av=> ?_;refine s2 T aC aE aH al none _ hT ak.hr ax av trivial fun V aF aI E C ag ae=> ?_;have ab:E= []:=by cases E; rfl; exact ae.elim
   subst ab;obtain ⟨u,hu,M⟩:=qv (N:=⟨fn.ntmps,[],[],none⟩) C.hr ag aj;have he:fF e= .normal∨fF e= .ret:=by
    cases e with
    | bQ=>exact .inl rfl
    | ret=>exact .inr rfl
    | ext i=>exact (ai i rfl).elim
   exact ⟨he,U,u,M,V,ak.trans C⟩;cases A;cases A;have s2:=ac<|.cd none fn.ntmps c (eO 0 args .nil) [] h;rw [A] at s2;obtain ⟨O,s2⟩:=s2;refine ⟨O,fun T r w L hT hr I=> ?_⟩;have hlen:=bM I;have ar:=callsDIn_of_wp (F:=dt) (n:=0) (u:= .returning) (w:=w) (args:=L.toArray) (R:=fun e w'=> ∃ v,e= .returned v∧∃ r',St P G T r h w r' J w') ah ad trivial (by
    rw [nU fn L [] (by rw [hlen]; exact hc.1)];refine s2 T r w (cY L) [] none _ hT hr (pA I hc.1 hc.2) trivial trivial fun V aF aI E C ag ae=> ?_;have ab:E= []:=by cases E; rfl; exact ae.elim
    subst ab;obtain ⟨u,hu,M⟩:=qv (N:=⟨fn.ntmps,[],[],none⟩) C.hr ag aj;cases e with
    | bQ=>exact ⟨rfl,u,M,u,rfl,V,C⟩
    | ret=>exact ⟨rfl,u,M,u,rfl,V,C⟩
    | ext i=>exact (ai i rfl).elim)
   exact rP ar fun e aL w' ⟨Z,v,aa,an⟩=>⟨v,aa,Z,an⟩
   cases hs;cases hs;cases hs;cases hs
theorem qV {c:bd} {rr:Option Nat} {Q:aE→Act→ae→Prop} {a:Act} {w:ae} (Z:c.wpIn (fe rr) 0 P (Exit.then (n9 P c rr Q) Q) a w):n9 P c rr Q a w:=by
 intro b k cs J hb hr;obtain ⟨e,E,I,C,A⟩:=Z b (.inLoop c::k) cs J hb hr;cases e with
 | normal=>
   obtain ⟨O,L,ab,aa,V⟩:=C b k cs J hb hr;exact ⟨O,L,ab,aa,.of_steps (StepsIn.trans A<|.one (fenced_calm hb hr U) stepR_inLoop) V⟩
 | exit id=>exact ⟨.exit id,E,I,C,.pass (x:= .inLoop c) rfl (fun _ _=> .inl<|by simp) A⟩
 | goto l=>exact ⟨.goto l,E,I,C,.pass (x:= .inLoop c) rfl (fun _ _=> .inl<|by simp) A⟩
 | ret=>exact ⟨.ret,E,I,C,.pass (x:= .inLoop c) rfl (fun _ _=> .inl<|by simp) A⟩
 | panic M=>exact ⟨.panic M,E,I,C,.pass (x:= .inLoop c) rfl (fun _ _=> .inl<|by simp) A⟩
 | outgrown=>exact ⟨.outgrown,E,I,C,.pass (x:= .inLoop c) rfl (fun _ _=> .inl<|by simp) A⟩
theorem Cm {c:bd} {rr:Option Nat} {Q:aE→Act→ae→Prop} {a:Act} {w:ae} (h:n9 P c rr Q a w):(Code.loop c).wpIn (fe rr) 0 P Q a w:=by
 intro b k cs I hb hr;obtain ⟨e,A,w',E,C⟩:=h b k cs I hb hr;exact ⟨e,A,w',E,.of_steps (.one (fenced_calm hb hr U) stepR_loop) C⟩
theorem Good.jg (C:Good P G ih) {rd:Option Nat} {c:bd} {fr:Tr AV} {D:List AD} {h A:Hp} {v:AV} (E:ih (.cd rd n c fr D h)= .rv v A):False:=by
 have :=C (.cd rd n c fr D h); rw [E] at this; exact this
theorem Good.tJ (C:Good P G ih) {rd:Option Nat} {c:bd} {fr:Tr AV} {D:List AD} {h A:Hp} {v:AV} (E:ih (.lp rd n c fr D h)= .rv v A):False:=by
 have :=C (.lp rd n c fr D h); rw [E] at this; exact this
theorem BI (A:Good P G ih) (rd:Option Nat) (n:Nat) (c:bd) (fr:Tr AV) (D:List AD) (h:Hp):ix P G (.lp rd n c fr D h) (dr P G X ih<|.lp rd n c fr D h):=by
 simp only [dr];cases hi:ih (.cd rd n c fr D h) with
 | no=>trivial
 | rv v C=>exact (A.jg hi).elim
 | cd e I E C=>
   have s1:=A<|.cd rd n c fr D h;rw [hi] at s1;cases e with
   | bQ=>
     simp only;have s2:=A<|.lp rd n c I E C;cases hj:ih (.lp rd n c I E C) with
     | no=>trivial
     | rv v J=>exact (A.tJ hj).elim
     | cd M O L J=>
       rw [hj] at s2;exact bX.bind s1 s2 fun rr Q a w hw=>qV (wpIn_mono hw fun e a w he=>by
        obtain ⟨rfl,he⟩:=he; exact he)
   | ret=>exact bX.map s1 fun rr Q a w hw=>qV<|wpIn_mono hw fun e a w he=>by obtain ⟨rfl,he⟩:=he; exact he
   | ext i=>exact bX.map s1 fun rr Q a w hw=>qV<|wpIn_mono hw fun e a w he=>by obtain ⟨rfl,he⟩:=he; exact he
theorem bX.here {rd:Option Nat} {W:Option Nat→(aE→Act→ae→Prop)→Act→ae→Prop} {fr:Tr AV} {D:List AD} {h:Hp} {e:EX} (A:∀ rr Q a w,Q (fF e) a w→W rr Q a w):bX P G rd n W fr D h e fr D h:=
 ⟨aI _,fun T r w σ Dl rr Q hT hr E C J I=>A rr Q _ w<|I r w σ Dl (St.refl hr) E C⟩
theorem nL {rd:Option Nat} {ops:List an} :∀ {l:List an} {fr:Tr AV} {D:List AD} {h:Hp},(∃ C A E,fK P G X ih rd n ops l fr D h= .cd .bQ C A E)∨fK P G X ih rd n ops l fr D h= .no
 | [],fr,D,h=> .inl ⟨fr,D,h,rfl⟩
 | o::l,fr,D,h=>by
   simp only [fK];split
   · split
     · split
       · split
         · exact nL
         · exact .inr U
       · split
         · split
           · exact nL
           · exact .inr U
         · exact .inr U
       · exact .inr U
     · exact .inr U
   · split
     · exact nL
     · exact .inr U
   · exact .inr U
theorem A1 (I:Good P G ih) {rd:Option Nat} {g:ax} {ps:List Nat} {aF body:bd} {fr:Tr AV} {D:List AD} {h E:Hp} {v:AV} (A:kH ih G rd n g ps aF body fr D h= .rv v E):False:=by
 have C:∀ {fr:Tr AV} {D:List AD} {l:Nat} {h:Hp},kg G ih rd n fr D l h= .rv v E→False:=by
  intro fr D l h A;unfold kg at A;split at A
  · split at A
    · cases A
    · rename_i L m J ps aF body d _ _;cases hc:(aA G l && aq l bp)
      · rw [hc] at A; cases A
      · rw [hc] at A;simp only [cond_true] at A;split at A
        · cases A
        · exact I.jg A
  · cases A
 unfold kH at A;split at A
 · split at A
   · split at A
     · split at A
       · split at A
         · exact C A
         · cases A
       · cases A
     · cases A
   · split at A
     · split at A
       · split at A
         · exact C A
         · cases A
       · cases A
     · cases A
 · cases A
theorem BE (A:Good P G ih) (ag:eK P G X) (ab:dN P) (ae:oN P G X ih) (ac:∀ f args h v aa,ih (.cl f args h)= .rv v aa→∃ fn c,P.funcs[f]? =some fn∧fn.body=some c) (rd:Option Nat) (n:Nat) (c:bd) (fr:Tr AV) (D:List AD) (h:Hp):ix P G (.cd rd n c fr D h) (dr P G X ih<|.cd rd n c fr D h):=by
 cases c with
 | skip =>exact bX.here fun rr Q a w V=>wpIn_skip V
 | region id ops draw=>
   obtain ⟨ops⟩:=ops;simp only [dr];cases draw with
   | true =>
     simp only [cond_true];have :=ae rd n id ops fr D h;split at this
     · rename_i he; rw [he]; exact this
     · rename_i he; rw [he]; trivial
     · exact this.elim
   | false =>
     simp only [cond_false];rcases nL (P:=P) (G:=G) (X:=X) (ih:=ih) (n:=n) (rd:=rd) (ops:=ops) (l:=ops) (fr:=fr) (D:=D) (h:=h) with ⟨al,ai,aa,he⟩ | he
     · rw [he];obtain ⟨U,s1⟩:=lT A ag ab ac he;exact ⟨U,fun T r w σ Dl rr Q hT hr E L O M=>wpIn_region_lit<|s1 T r w σ Dl rr Q hT hr E L O M⟩
     · rw [he]; trivial
 | seq a b=>
   simp only [dr];cases hi:ih (.cd rd n a fr D h) with
   | no=>trivial
   | rv v C=>exact (A.jg hi).elim
   | cd e J I C=>
     have s1:=A<|.cd rd n a fr D h;rw [hi] at s1;cases e with
     | bQ=>
       simp only;have s2:=A<|.cd rd n b J I C;cases hj:ih (.cd rd n b J I C) with
       | no=>trivial
       | rv v ad=>exact (A.jg hj).elim
       | cd ak am aj ad=>
         rw [hj] at s2;exact bX.bind s1 s2 fun rr Q a w hw=>wpIn_seq<|wpIn_mono hw fun e a w he=>by obtain ⟨rfl,he⟩:=he; exact he
     | ret=>exact bX.map s1 fun rr Q a w hw=>wpIn_seq<|wpIn_mono hw fun e a w he=>by obtain ⟨rfl,he⟩:=he; exact he
     | ext i=>exact bX.map s1 fun rr Q a w hw=>wpIn_seq<|wpIn_mono hw fun e a w he=>by obtain ⟨rfl,he⟩:=he; exact he
 | cond x a b=>
   simp only [dr];split
   · rename_i Z;have s1:=A<|.cd rd n a fr D h;cases hi:ih (.cd rd n a fr D h) with
     | no=>trivial
     | rv v C=>exact (A.jg hi).elim
     | cd e J I C=>
       rw [hi] at s1;obtain ⟨U,s1⟩:=s1;exact ⟨U,fun T r w σ Dl rr Q hT hr E L O M=>wpIn_cond_true (by rw [cD]; exact fg<|lR (N:=⟨n,Dl,[],rr⟩) hr.dz E Z)<|s1 T r w σ Dl rr Q hT hr E L O M⟩
   · rename_i Z;have s1:=A<|.cd rd n b fr D h;cases hi:ih (.cd rd n b fr D h) with
     | no=>trivial
     | rv v C=>exact (A.jg hi).elim
     | cd e J I C=>
       rw [hi] at s1;obtain ⟨U,s1⟩:=s1;exact ⟨U,fun T r w σ Dl rr Q hT hr E L O M=>wpIn_cond_false (by rw [cD]; exact fg<|lR (N:=⟨n,Dl,[],rr⟩) hr.dz E Z)<|s1 T r w σ Dl rr Q hT hr E L O M⟩
   · trivial
 | block id c=>
   simp only [dr];cases hi:ih (.cd rd n c fr D h) with
   | no=>trivial
   | rv v C=>exact (A.jg hi).elim
   | cd e J I C=>
     have s1:=A<|.cd rd n c fr D h;rw [hi] at s1;cases e with
     | bQ=>exact bX.map s1 fun rr Q a w hw=>wpIn_block<|wpIn_mono hw fun e a w he=>by obtain ⟨rfl,he⟩:=he; exact he
     | ret=>exact bX.map s1 fun rr Q a w hw=>wpIn_block<|wpIn_mono hw fun e a w he=>by obtain ⟨rfl,he⟩:=he; exact he
     | ext j=>
       simp only;cases hj:av j id
       · have ah:j≠id:=fun e=>by subst e; simp at hj
         exact bX.map s1 fun rr Q a w hw=>wpIn_block (wpIn_mono hw fun e a w he=>by
          obtain ⟨rfl,he⟩:=he;simp only [fF,vF,if_neg ah]; exact he)
       · obtain rfl :=aW hj;exact bX.map s1 fun rr Q a w hw=>wpIn_block (wpIn_mono hw fun e a w he=>by
          obtain ⟨rfl,he⟩:=he;simp only [fF,vF,if_true]; exact he)
 | loop c=>
   simp only [dr];cases hi:ih (.lp rd n c fr D h) with
   | no=>trivial
   | rv v C=>exact (A.tJ hi).elim
   | cd e J I C=>
     have s1:=A<|.lp rd n c fr D h;rw [hi] at s1;obtain ⟨U,s1⟩:=s1;exact ⟨U,fun T r w σ Dl rr Q hT hr E L O M=>Cm<|s1 T r w σ Dl rr Q hT hr E L O M⟩
 | rangeFunc g ps aF body=>
   obtain ⟨ps⟩:=ps;simp only [dr];cases hi:kH ih G rd n g ps aF body fr D h with
   | no=>trivial
   | rv v C=>exact (A1 A hi).elim
   | cd e J I C=>exact A0 A ab ac hi
 | exit id=>exact bX.here fun rr Q a w V=>wpIn_exit V
 | ret=>exact bX.here fun rr Q a w V=>wpIn_ret V
 | scope c=>trivial
 | label l=>trivial
 | goto l=>trivial
 | refuse s=>trivial
theorem BJ (C:Good P G ih) (l:Nat) (args:List AV) (h:Hp):ix P G (.yl l args h) (dr P G X ih<|.yl l args h):=by
 simp only [dr];cases hi:me G ih l args h with
 | no=>trivial
 | rv v A=>exact Cu C hi
 | cd e fr D A=>
   exfalso;unfold me at hi;split at hi
   · split at hi
     · split at hi
       · split at hi
         · rename_i M L J O E I d1 _;cases hc:(aA G l && aq l bp)
           · rw [hc] at hi; cases hi
           · rw [hc] at hi;simp only [cond_true] at hi;split at hi
             · split at hi
               · split at hi <;> cases hi
               · cases hi
             · cases hi
         · cases hi
       · cases hi
     · cases hi
   · cases hi
theorem yX:∀ (k:Nat),(∀ f args h v C,eC P G X k (.cl f args h)= .rv v C→∃ fn c,P.funcs[f]? =some fn∧fn.body=some c)∧(∀ f args h v C,eC P G X k (.df f args h)= .rv v C→∃ fn c,P.funcs[f]? =some fn∧fn.body=some c)
 | 0=>⟨fun f args h v C A=>(by cases A),fun f args h v C A=>by cases A⟩
 | k+1=>by
   constructor
   · intro f args h v C A;simp only [eC,dr] at A;split at A
     · rename_i fn E;split at A
       · rename_i c hb; exact ⟨fn,c,E,hb⟩
       · cases A
     · cases A
   · intro f args h v C A;simp only [eC,dr] at A;split at A
     · rename_i fn E;split at A
       · rename_i c hb; exact ⟨fn,c,E,hb⟩
       · cases A
     · cases A
theorem sC (E:eK P G X) (C:dN P) (J:∀ ih,Good P G ih→(∀ f args h v L,ih (.cl f args h)= .rv v L→∃ fn c,P.funcs[f]? =some fn∧fn.body=some c)→oN P G X ih):∀ k,Good P G (eC P G X k)
 | 0=>fun t=>by cases t <;> trivial
 | k+1=>fun t=>by
   have A:=sC E C J k;obtain ⟨I,M⟩:=yX (P:=P) (G:=G) (X:=X) k;cases t with
   | cd rd n c fr D h=>exact BE A E C (J _ A I) I rd n c fr D h
   | lp rd n c fr D h=>exact BI A rd n c fr D h
   | cl f args h=>exact BG A C M f args h
   | yl l args h=>exact BJ A l args h
   | df f args h=>exact BH A E C I f args h
end
end Go.Hb
namespace Go.Hb
mutual
theorem pk:∀ {a b:AV},dR a b=true→a=b
 | .bool a,.bool b,h=>by simp only [dR,beq_iff_eq] at h; rw [h]
 | .int k a,.int k' b,h=>by
   simp only [dR] at h;cases hk:av (cy k) (cy k')
   · rw [hk] at h; cases h
   · rw [hk] at h;simp only [cond_true,decide_eq_true_iff] at h;rw [jo hk,h]
 | .str l,.str m,h=>by simp only [dR,kh,decide_eq_true_iff] at h; rw [h]
 | .ptr b o,.ptr b' o',h=>by
   simp only [dR,aD] at h;rw [aW h.1,aW h.2]
 | .ec,.ec,_=>rfl
 | .sl b o n c x,.sl b' o' n' c' x',h=>by
   simp only [dR,aD,beq_iff_eq] at h;obtain ⟨⟨A,C⟩,h3,h4,h5⟩:=h;rw [aW A,aW C,aW h3,aW h4,h5]
 | .cW,.cW,_=>rfl
 | .map b,.map b',h=>by simp only [dR] at h; rw [aW h]
 | .gn,.gn,_=>rfl
 | .fn f a c,.fn f' a' c',h=>by
   simp only [dR,aD] at h;rw [aW h.1,lB h.2.1,lB h.2.2]
 | .dU l,.dU l',h=>by simp only [dR] at h; rw [aW h]
 | .eP,.eP,_=>rfl
 | .eE t v,.eE t' v',h=>by
   simp only [dR,aD] at h;rw [aW h.1,pk h.2]
 | .cQ,.cQ,_=>rfl
 | .agg l,.agg m,h=>by simp only [dR] at h; rw [lB h]
 | .bo l,.bo m,h=>by simp only [dR] at h; rw [lB h]
theorem lB:∀ {a b:List AV},gQ a b=true→a=b
 | [],[],_=>rfl
 | a::l,b::m,h=>by
   simp only [gQ] at h;cases hk:dR a b
   · rw [hk] at h; cases h
   · rw [hk] at h; rw [pk hk,lB h]
 | [],_::_,h=>by simp [gQ] at h
 | _::_,[],h=>by simp [gQ] at h
end
theorem pb {c p:Bool} (h:cond c p false =true):c=true∧p=true :=by
 cases c
 · cases h
 · exact ⟨U,h⟩
theorem p4 {t:Nat} :∀ {l:List Nat},lN t l=true↔t∈l
 | []=>by simp [lN]
 | u::l=>by
   simp only [lN,cU];cases hb:av t u
   · have :t≠u:=fun e=>by subst e; simp at hb
     simp only [cond_false,p4,this,false_or]
   · have :=aW hb;simp [this]
theorem sj {i:Nat} :∀ {l:List bD},lA i l=true→∀ e∈l,cm .any e=true→e.on < i
 | [],_,e,he,_=>by cases he
 | x::l,h,e,he,hb=>by
   simp only [lA] at h;cases hx:(cm .any x && !(aq x.on i))
   · rw [hx] at h;rcases cU.1 he with rfl | he
     · rw [hb] at hx;simp only [Bool.true_and,Bool.not_eq_false'] at hx;exact bA.1 hx
     · exact sj h e he hb
   · rw [hx] at h; cases h
def j2 (ops:List an) (X:Nat→Prop):Prop := ∀ i o,X i→ops[i]? =some o→∀ e∈o.after.toList,cm .any e=true→X e.on
theorem qa {l:List Nat} {i:Nat} :iJ l i=(l[i]?).getD 0:=by
 unfold iJ
 induction l generalizing i with
 | nil=>simp [gW]
 | cons a l ih=>
   cases i with
   | zero=>simp [gW]
   | succ i=>simp [gW,ih]
theorem p2 {acc:List Nat} {j:Nat} :∀ {l:List bD},mH (iI acc l) j=true→∃ e∈l,cm .any e=true∧e.on < acc.length∧(j=e.on∨mH (iJ acc e.on) j=true)
 | [],h=>by simp [iI] at h
 | e::l,h=>by
   simp only [iI] at h;cases hb:(cm .any e && aq e.on acc.length)
   · rw [hb] at h;obtain ⟨C,E,I⟩:=p2 h;exact ⟨C,gH _ E,I⟩
   · rw [hb] at h;simp only [aD] at hb;simp only [cond_true] at h;have A:((2 ^ e.on ||| iJ acc e.on) ||| iI acc l).testBit j=true :=h;simp only [Nat.testBit_or,jM,Nat.testBit_two_pow,decide_eq_true_iff] at A;rcases A with (A | A) | A
     · exact ⟨e,fS,hb.1,bA.1 hb.2,.inl A.symm⟩
     · exact ⟨e,fS,hb.1,bA.1 hb.2,.inr A⟩
     · obtain ⟨C,E,I⟩:=p2 A;exact ⟨C,gH _ E,I⟩
theorem sa {ops:List an} {X:Nat→Prop} (C:j2 ops X):∀ (l:List an) (acc:List Nat),(∀ k,l[k]? =ops[acc.length+k]?)→(∀ i j,i < acc.length→mH (iJ acc i) j=true→j < i∧(X i→X j))→
 ∀ i j,mH (iJ (ez l acc) i) j=true→j < i∧(X i→X j)
 | [],acc,_,ha,i,j,h=>by
   simp only [ez] at h;rcases e7 i acc.length with hi | hi
   · exact ha i j hi h
   · rw [qa,oF hi] at h; simp at h
 | o::l,acc,hl,ha,i,j,h=>by
   simp only [ez] at h;refine sa C l (acc++ [iI acc o.after.toList]) (fun k=> ?_) (fun i j hi hb=> ?_) i j h
   · have :=hl<|k+1;simp only [eY] at this;rw [this]; congr 1; simp; omega
   · rw [qa] at hb;rcases e7 i acc.length with A | A
     · rw [fy A,← qa] at hb; exact ha i j A hb
     · have :i=acc.length:=by simp at hi; omega
       subst this;rw [fA (aI _)] at hb;simp only [Nat.sub_self,fB,e8] at hb;obtain ⟨e,he,J,L,E⟩:=p2 hb;have M:ops[acc.length]? =some o:=by
        have :=hl 0;simpa using this.symm
       rcases E with rfl | E
       · exact ⟨L,fun I=>C _ _ I M e he J⟩
       · obtain ⟨U,O⟩:=ha _ _ L E;exact ⟨ag,fun I=>O<|C _ _ I M e he J⟩
theorem lu {ops:List an} {X:Nat→Prop} (A:j2 ops X) {i j:Nat} (h:fC (ez ops []) i j=true):j < i∧(X i→X j):=
 sa A ops [] (fun k=>by simp) (fun i j hi=>by simp at hi) i j h
structure oQ (ops:List an) (dp:List Nat) (i j:Nat) (oi oj:an):Prop where
 ne:∀ t,oi.dst=some t→oj.dst≠some t
 ap:fC dp i j=true∨((∀ t,oj.dst=some t→t∉kG ops oi)∧∀ t,oi.dst=some t→t∉kG ops oj)
theorem rT {ops:List an} {J:List Nat} {i:Nat} {L:an} :∀ {l:List an} {b:Nat},mR ops J i L b l=true→∀ k E,l[k]? =some E→b+k < i→oQ ops J i (b+k) L E
 | [],b,_,k,E,hk,_=>by simp at hk
 | o::l,b,h,k,E,hk,hlt=>by
   simp only [mR] at h;rw [bA.2 (show b < i by omega)] at h;simp only [cond_true,aD,gz,jM] at h;cases k with
   | zero=>
     simp only [fB,aQ] at hk;subst hk;refine ⟨fun t A C=> ?_,?_⟩
     · have :=h.1.1;rw [A,C] at this;simp [sn] at this
     · rcases h.1.2 with A | ⟨A,C⟩
       · exact .inl A
       · refine .inr ⟨fun t I hm=> ?_,fun t I hm=> ?_⟩
         · rw [I] at A; simp only [nw] at A; rw [p4.2 hm] at A; cases A
         · rw [I] at C; simp only [nw] at C; rw [p4.2 hm] at C; cases C
   | succ k=>
     simp only [eY] at hk;have :=rT h.2 k E hk ag;rwa [show b+1 +k=b+(k+1) from by omega] at this
theorem o7 {ops:List an} {E:List Nat} :∀ {l:List an} {b:Nat},ka ops E b l=true→∀ k A,l[k]? =some A→lA (b+k) A.after.toList=true∧∀ j C,ops[j]? =some C→j < b+k→oQ ops E (b+k) j A C
 | [],b,_,k,A,hk=>by simp at hk
 | o::l,b,h,k,A,hk=>by
   simp only [ka,aD] at h;cases k with
   | zero=>
     simp only [fB,aQ] at hk;subst hk;refine ⟨h.1.1,fun j C I J=> ?_⟩;have :=rT h.1.2 j C I ag;rwa [b9] at this
   | succ k=>
     simp only [eY] at hk;have :=o7 h.2 k A hk;rwa [show b+1 +k=b+(k+1) from by omega] at this
theorem ss {a:Option AV} {v:AV} (h:pn a v=true):a=some v:=by
 cases a with
 | none=>cases h
 | some a=>rw [pk h]
theorem ua {P:aj} {E:List Nat} {i:Nat} {o:Op} {xs:List AV} {v:AV} :∀ {l:List Rec} {b:Nat},lQ P E i o xs v b l=true→∀ k q,l[k]? =some q→
 (q.k= .c→(b+k < i→fC E i (b+k)=true∨fm P o xs q.hb=some v)∧(¬b+k < i→fC E (b+k) i=true∨fm P o xs q.ha=some v))∧(q.k= .a→¬b+k < i)
 | [],b,_,k,q,hk=>by simp at hk
 | x::l,b,h,k,q,hk=>by
   simp only [lQ] at h;obtain ⟨A,I⟩:=pb h;cases k with
   | succ k=>
     simp only [eY] at hk;have :=ua I k q hk;rwa [show b+1 +k=b+(k+1) from by omega] at this
   | zero=>
     simp only [fB,aQ] at hk;subst hk;rw [ir];refine ⟨fun J=> ?_,fun ha C=> ?_⟩
     · rw [J] at A;simp only at A;refine ⟨fun C=> ?_,fun C=> ?_⟩
       · rw [bA.2 C] at A;simp only [cond_true,jM] at A;exact A.imp id ss
       · have :aq b i=false :=by cases hb:aq b i; rfl; exact absurd (bA.1 hb) C
         rw [this] at A;simp only [cond_false,jM] at A;exact A.imp id ss
     · rw [ha,bA.2 C] at A; cases A
theorem tZ {E:List Nat} {i:Nat} :∀ {l:List Rec} {b:Nat},lP E i b l=true→∀ k q,l[k]? =some q→(q.k= .c∨q.k= .a)→b+k < i→fC E i (b+k)=true
 | [],b,_,k,q,hk,_,_=>by simp at hk
 | x::l,b,h,k,q,hk,A,I=>by
   simp only [lP] at h;obtain ⟨C,J⟩:=pb h;cases k with
   | succ k=>
     simp only [eY] at hk;have :=tZ J k q hk A ag;rwa [show b+1 +k=b+(k+1) from by omega] at this
   | zero=>
     simp only [fB,aQ] at hk;subst hk;rw [ir] at I ⊢;rcases A with A | A <;> (rw [A] at C; simp only at C; rw [bA.2 I] at C; exact C)
theorem ub {P:aj} {I:List Nat} {rs:List Rec} :∀ {l:List an} {m:List Rec} {b:Nat},gX P I rs b l m=true→l.length=m.length∧∀ k o q,l[k]? =some o→m[k]? =some q→(q.k= .l→lQ P I (b+k) o.op q.xs q.v 0 rs=true)∧(q.k= .c→lP I (b+k) 0 rs=true)
 | [],[],b,_=>⟨rfl,fun k o q A=>by simp at A⟩
 | [],_::_,b,h=>by simp [gX] at h
 | _::_,[],b,h=>by simp [gX] at h
 | o::l,q::m,b,h=>by
   simp only [gX] at h;obtain ⟨C,L⟩:=pb h;obtain ⟨M,O⟩:=ub L;refine ⟨by simp [M],fun k U q' A E=> ?_⟩;cases k with
   | succ k=>
     simp only [eY] at A E;have :=O k U q' A E;rwa [show b+1 +k=b+(k+1) from by omega] at this
   | zero=>
     simp only [fB,aQ] at A E;subst A; subst E;rw [ir];exact ⟨fun J=>by rw [J] at C; exact C,fun J=>by rw [J] at C; exact C⟩
end Go.Hb
namespace Go.Hb
section
variable {P:aj} {G:Nat} {X:Xt} {ih:Tk→Rs} {n:Nat}
inductive Cl (P:aj) (G:Nat) (o:Op) (q:Rec):Prop
 | p:q.k= .p→jw P o q.xs=some q.v→q.ha=q.hb→Cl P G o q
 | l:q.k= .l→fm P o q.xs q.hb=some q.v→q.ha=q.hb→Cl P G o q
 | a (e:ai) (l:List AV):q.k= .a→o= .alloc e→mL P e=some l→bI q.hb (.cells l e 0 .x)=some q.ha→q.v= .ptr q.hb.nx 0→Cl P G o q
 | c:q.k= .c→fX P G o q.xs q.hb q.v q.ha→Cl P G o q
structure j5 (P:aj) (G n:Nat) (ops:List an) (o:an) (q:Rec) (fr fr':Tr AV) (h h':Hp):Prop where
 hb:q.hb=h
 ha:q.ha=h'
 set :dB n fr o.dst q.v=some fr'
 run:(fH n ops fr o.guard= .y∧gr G n fr (dK o.op)=some q.xs∧Cl P G o.op q)∨(fH n ops fr o.guard= .n∧q.k= .s∧q.v= .bo []∧q.ha=q.hb)
theorem AR (L:Good P G ih) (M:eK P G X) (J:dN P) (O:∀ f args h v C,ih (.cl f args h)= .rv v C→∃ fn c,P.funcs[f]? =some fn∧fn.body=some c) {I:Bool} {o:Op} {xs:List AV} {h:Hp} {q:Rec} (A:qo P G X ih I o xs h=some q):q.xs=xs∧q.hb=h∧Cl P G o q:=by
 unfold qo at A;split at A
 · rename_i v hp; cases A; exact ⟨rfl,rfl,.p rfl hp rfl⟩
 · split at A
   · rename_i v E; cases A; exact ⟨rfl,rfl,.l rfl E rfl⟩
   · split at A
     · rename_i e _ _;split at A
       · rename_i l E;split at A
         · rename_i C hn; cases A; exact ⟨rfl,rfl,.a e l rfl rfl E hn rfl⟩
         · cases A
       · cases A
     · split at A
       · rename_i v C U; cases A; exact ⟨rfl,rfl,.c rfl (ug L M J O U)⟩
       · cases A
theorem Cl.nx {o:Op} {q:Rec} (h:Cl P G o q):q.hb.nx≤q.ha.nx:=by
 cases h with
 | p _ _ h=>rw [h]; exact aI _
 | l _ _ h=>rw [h]; exact aI _
 | a e l _ _ _ h _=>have :=gk h; omega
 | c _ h=>exact h.1
theorem j5.nx {ops:List an} {o:an} {q:Rec} {fr E:Tr AV} {h C:Hp} (A:j5 P G n ops o q fr E h C):h.nx≤C.nx:=by
 rw [← A.hb,← A.ha];rcases A.run with ⟨_,_,h⟩ | ⟨_,_,_,h⟩
 · exact h.nx
 · rw [h]; exact aI _
theorem uu (ac:Good P G ih) (ad:eK P G X) (ab:dN P) (ae:∀ f args h v al,ih (.cl f args h)= .rv v al→∃ fn c,P.funcs[f]? =some fn∧fn.body=some c) {ops:List an} {aa:List Nat} :∀ {l:List an} {i:Nat} {last:Option Nat} {fr C:Tr AV} {h E:Hp} {rs:List Rec},hP P G X ih n ops aa i last l fr h=some (rs,C,E)→
 ∃ (F:Nat→Tr AV) (H:Nat→Hp),F 0=fr∧H 0=h∧F l.length=C∧H l.length=E∧rs.length=l.length∧∀ k o q,l[k]? =some o→rs[k]? =some q→j5 P G n ops o q (F k) (F<|k+1) (H k) (H<|k+1)
 | [],i,last,fr,C,h,E,rs,hr=>by
   simp only [hP,aQ,oM] at hr;obtain ⟨rfl,rfl,rfl⟩:=hr;exact ⟨fun _=>fr,fun _=>h,U,U,U,U,U,fun k o q I=>by simp at I⟩
 | o::l,i,last,fr,C,h,E,rs,hr=>by
   have key:∀ (q:Rec) (A:Tr AV) (j:Nat) (la:Option Nat) (hZ:List Rec),j5 P G n ops o q fr A h q.ha→hP P G X ih n ops aa j la l A q.ha=some (hZ,C,E)→rs=q::hZ→
    ∃ (F:Nat→Tr AV) (H:Nat→Hp),F 0=fr∧H 0=h∧F (o::l).length=C∧H (o::l).length=E∧rs.length=(o::l).length∧∀ k M q,(o::l)[k]? =some M→rs[k]? =some q→j5 P G n ops M q (F k) (F<|k+1) (H k) (H<|k+1):=by
    intro q A j la hZ au L ag;obtain ⟨F,H,am,O,ao,ap,aq,ar⟩:=uu ac ad ab ae L;refine ⟨fun k=>match k with | 0=>fr | k+1=>F k,fun k=>match k with | 0=>h | k+1=>H k,U,U,ao,ap,by rw [ag]; simp [aq],fun k M q' I J=> ?_⟩;subst ag;cases k with
    | zero=>
      simp only [fB,aQ] at I J;subst I; subst J;simp only [am,O]; exact au
    | succ k=>exact ar k M q' (by simpa using I)<|by simpa using J
   simp only [hP] at hr;split at hr
   · rename_i V;split at hr
     · rename_i xs av;split at hr
       · rename_i q J;split at hr
         · rename_i A Z;split at hr
           · rename_i hZ ak O L;cases hr;obtain ⟨ah,ai,aj⟩:=AR ac ad ab ae J;exact key q A _ _ hZ ⟨ai,U,Z,.inl ⟨V,by rw [ah]; exact av,aj⟩⟩ L U
           · cases hr
         · cases hr
       · cases hr
     · cases hr
   · rename_i V;split at hr
     · rename_i A Z;split at hr
       · rename_i hZ ak O L;cases hr;exact key ⟨.s,[],.bo [],h,h⟩ A _ _ hZ ⟨U,U,Z,.inr ⟨V,U,U,U⟩⟩ L U
       · cases hr
     · cases hr
   · cases hr
structure Sq (P:aj) (G n:Nat) (ops:List an) (rs:List Rec) (F:Nat→Tr AV) (H:Nat→Hp):Prop where
 len:rs.length=ops.length
 line:∀ k o q,ops[k]? =some o→rs[k]? =some q→j5 P G n ops o q (F k) (F<|k+1) (H k) (H<|k+1)
 pair:∀ i j oi oj,ops[i]? =some oi→ops[j]? =some oj→j < i→oQ ops (ez ops []) i j oi oj
 yQ:∀ i o,ops[i]? =some o→∀ e∈o.after.toList,cm .any e=true→e.on < i
theorem uC {fr C:Tr AV} {d:Option Nat} {v:AV} (A:dB n fr d v=some C) (t:Nat):bN C t=if d=some t then v else bN fr t:=by
 cases d with
 | none=>simp only [dB,aQ] at A; subst A; simp
 | some d=>
   simp only [dB] at A;replace A:=ay A; obtain ⟨E,A⟩:=A;simp only [aD] at E;cases A;simp only [bN,Tr.iD _ _ _ _ E.2,aQ];by_cases e:t=d
   · subst e; simp
   · rw [if_neg e,if_neg (fun x=>e x.symm)]
variable {ops:List an} {rs:List Rec} {F:Nat→Tr AV} {H:Nat→Hp}
theorem Sq.get (s:Sq P G n ops rs F H) {i:Nat} {o:an} (A:ops[i]? =some o):∃ q,rs[i]? =some q:=by
 have :=(bZ.1 A).1;exact ⟨rs[i]'(by rw [s.len]; exact this),cK _⟩
theorem Sq.get' (s:Sq P G n ops rs F H) {i:Nat} {q:Rec} (A:rs[i]? =some q):∃ o,ops[i]? =some o:=by
 have :=(bZ.1 A).1;exact ⟨ops[i]'(by rw [← s.len]; exact this),cK _⟩
theorem Sq.slot (s:Sq P G n ops rs F H) (t:Nat):∀ k,k≤ops.length→(∃ j o q,j < k∧ops[j]? =some o∧o.dst=some t∧rs[j]? =some q∧bN (F k) t=q.v)∨((∀ j o,j < k→ops[j]? =some o→o.dst≠some t)∧bN (F k) t=bN (F 0) t)
 | 0,_=> .inr ⟨fun j o h=>by omega,rfl⟩
 | k+1,hk=>by
   have A:ops[k]? =some (ops[k]'ag):=cK _;generalize ops[k]'ag=o at A;obtain ⟨q,M⟩:=s.get A;have Z:=s.line k o q A M;rw [uC Z.set t];by_cases e:o.dst=some t
   · rw [if_pos e]; exact .inl ⟨k,o,q,iv _,A,e,M,rfl⟩
   · rw [if_neg e];rcases s.slot t k ag with ⟨j,J,q',L,C,O,U,V⟩ | ⟨L,C⟩
     · exact .inl ⟨j,J,q',ag,C,O,U,V⟩
     · refine .inr ⟨fun j J E I=> ?_,C⟩;rcases wW.1 E with E | rfl
       · exact L j J E I
       · rw [A] at I; cases I; exact e
def jd (ops:List an) (rs:List Rec) (f0:Tr AV) (Y:Nat→Prop) (fx:Tr AV):Prop := ∀ t,(∃ j o q,Y j∧ops[j]? =some o∧o.dst=some t∧rs[j]? =some q∧bN fx t=q.v)∨((∀ j o,Y j→ops[j]? =some o→o.dst≠some t)∧bN fx t=bN f0 t)
theorem jd.set {f0 fx L:Tr AV} {Y:Nat→Prop} (U:jd ops rs f0 Y fx) {i:Nat} {o:an} {q:Rec} (M:ops[i]? =some o) (O:rs[i]? =some q) (h:dB n fx o.dst q.v=some L):jd ops rs f0 (fun j=>Y j∨j=i) L:=by
 intro t;rw [uC h t];by_cases e:o.dst=some t
 · rw [if_pos e]; exact .inl ⟨i,o,q,.inr rfl,M,e,O,rfl⟩
 · rw [if_neg e];rcases U t with ⟨j,J,q',A,C⟩ | ⟨A,C⟩
   · exact .inl ⟨j,J,q',.inl A,C⟩
   · refine .inr ⟨fun j J E I=> ?_,C⟩;rcases E with E | rfl
     · exact A j J E I
     · rw [M] at I; cases I; exact e
theorem Bh {fr C:Tr AV} {d:Option Nat} {v:AV} (A:dB n fr d v=some C) (fx:Tr AV):∃ E,dB n fx d v=some E:=by
 cases d with
 | none=>exact ⟨fx,rfl⟩
 | some d=>
   simp only [dB] at A ⊢;replace A:=ay A; obtain ⟨I,A⟩:=A;rw [I]; exact ⟨_,rfl⟩
theorem Sq.agree (s:Sq P G n ops rs F H) {Y:Nat→Prop} (ab:j2 ops Y) {i:Nat} {o:an} (O:ops[i]? =some o) (hi:¬Y i) (hr:j2 ops (fun j=>Y j∨j=i)) {fx:Tr AV} (U:jd ops rs (F 0) Y fx) {t:Nat} (V:t∈kG ops o):bN fx t=bN (F i) t:=by
 have ad:=(bZ.1 O).1;rcases s.slot t i ag with ⟨j,L,ae,M,E,J,Z,aa⟩ | ⟨M,E⟩
 · have hp:=s.pair i j o L O E M;have ac:Y j:=by
    rcases hp.ap with hb | ⟨hb,_⟩
    · rcases (lu hr hb).2 (.inr rfl) with h | h
      · exact h
      · omega
    · exact absurd V<|hb t J
   rcases U t with ⟨A,I,q',g1,g2,g3,g4,g5⟩ | ⟨g1,g2⟩
   · have :A=j:=by
      rcases mF A j with C | he | C
      · exact absurd g3<|(s.pair j A L I E g2 C).ne t J
      · exact he
      · exact absurd J<|(s.pair A j I L g2 E C).ne t g3
     subst this;rw [Z] at g4; cases g4;rw [g5,aa]
   · exact absurd J<|g1 j L ac E
 · rcases U t with ⟨A,I,q',g1,g2,g3,g4,g5⟩ | ⟨g1,g2⟩
   · exfalso;rcases mF A i with C | he | C
     · exact M A I C g2 g3
     · subst he; exact hi g1
     · rcases (s.pair A i I o g2 O C).ap with hb | ⟨_,hb⟩
       · exact hi<|(lu ab hb).2 g1
       · exact hb t g3 V
   · rw [g2,E]
theorem Av {fr fx:Tr AV} {x:ax} (h:∀ t,x= .tmp t→bN fx t=bN fr t):gq G n fx x=gq G n fr x:=by
 cases x with
 | tmp t=>simp only [gq,h t rfl]
 | const v=>rfl
 | func f=>rfl
 | global g=>rfl
theorem ud {fr fx:Tr AV} :∀ {l:List ax},(∀ t∈kN l,bN fx t=bN fr t)→gr G n fx l=gr G n fr l
 | [],_=>rfl
 | x::l,h=>by
   simp only [gr];rw [Av (fr:=fr) (fx:=fx) fun t e=>h t (by subst e; simp [kN]),ud (fr:=fr) (fx:=fx) (l:=l) fun t A=>h t (by cases x <;> simp [kN,A])]
theorem zj {fr fx:Tr AV} {g:Option (Nat×Bool)} (h:∀ t∈pD ops g,bN fx t=bN fr t):fH n ops fx g=fH n ops fr g:=by
 unfold fH;cases g with
 | none=>rfl
 | some p=>
   obtain ⟨j,want⟩:=p;simp only;cases hj:ops[j]? with
   | none=>rfl
   | some q=>
     simp only;cases hd:q.dst with
     | none=>rfl
     | some t=>
       simp only;rw [h t (by simp [pD,hj,hd])]
theorem Sq.done (s:Sq P G n ops rs F H) {Y:Nat→Prop} (Z:∀ j,j < ops.length→Y j) {fx:Tr AV} (O:jd ops rs (F 0) Y fx) (t:Nat):bN fx t=bN (F ops.length) t:=by
 rcases s.slot t ops.length (aI _) with ⟨j,M,aa,I,C,J,U,V⟩ | ⟨I,C⟩
 · rcases O t with ⟨A,E,q',g1,g2,g3,g4,g5⟩ | ⟨g1,g2⟩
   · have :A=j:=by
      rcases mF A j with L | he | L
      · exact absurd g3<|(s.pair j A M E C g2 L).ne t J
      · exact he
      · exact absurd J<|(s.pair A j E M g2 C L).ne t g3
     subst this;rw [U] at g4; cases g4;rw [g5,V]
   · exact absurd J<|g1 j M (Z j I) C
 · rcases O t with ⟨A,E,q',g1,g2,g3,g4,g5⟩ | ⟨g1,g2⟩
   · exact absurd g3<|I A E (bZ.1 g2).1 g2
   · rw [g2,C]
theorem Sq.mono (s:Sq P G n ops rs F H) {i:Nat} :∀ {k:Nat},i≤k→k≤ops.length→(H i).nx≤(H k).nx
 | 0,h,_=>by have :i=0:=ag
             subst this; exact aI _
 | k+1,h,hk=>by
   rcases e7 k i with E | hle
   · have :i=k+1:=ag;subst this; exact aI _
   · have A:ops[k]? =some (ops[k]'ag):=cK _;obtain ⟨q,C⟩:=s.get A;exact bK (s.mono hle ag) (s.line k _ q A C).nx
theorem xy {e:ai} {l:List AV} (ha:mL P e=some l):cI l=true∧∃ us:List ab,(∀ r,ar r l=some us)∧∀ (N:Fm) (σ:Nat→ab) (dst:Option Nat) (ty:ai) (pos :String) (af:Array bD) (g:Option (Nat×Bool)) (w:ae),
 (execOp (ev N σ) ⟨dst,.alloc e,ty,pos,af,g⟩).run P w= .ok (.value<|.pointer<|some ⟨w.heap.size,0,none⟩) {w with heap:=w.heap.push<|.cells us.toArray e (0,0)} :=by
 unfold mL at ha;split at ha
 · rename_i J A;split at ha
   · rename_i L E;replace ha:=ay ha; obtain ⟨C,ha⟩:=ha;cases ha;refine ⟨C,J,fun r=>kr (r:=r) (fun v a=>iK 4) E,fun N σ dst ty pos af g w=> ?_⟩;unfold zeroOf at A;simp only [eJ] at A;obtain ⟨i,hi,zv,I,rfl⟩:=A;simp [execOp,ov,zeroValue,bU hi,I,newVar,newRow]
   · cases ha
 · cases ha
end
end Go.Hb
namespace Go.Hb
section
variable {P:aj} {G n T:Nat} {ops:List an} {rs:List Rec} {F:Nat→Tr AV} {H:Nat→Hp} {r0 r:Rn} {w0 w:ae} {h0:Hp} {Y:Nat→Prop} {lo:Nat}
structure HD (P:aj) (G T:Nat) (ops:List an) (rs:List Rec) (H:Nat→Hp) (r0:Rn) (w0:ae) (h0:Hp) (Y:Nat→Prop) (lo:Nat) (r:Rn) (w:ae):Prop where
 hi:lo≤rs.length
 lc:∀ j q,rs[j]? =some q→q.k= .c→(Y j↔j < lo)
 la:∀ j q,rs[j]? =some q→q.k= .a→j < lo→Y j
 hr:HR P G r 0 (H lo) w
 new:∀ i,(H lo).nx≤i→i < T→r i=none∨∃ j q,Y j∧lo≤j∧rs[j]? =some q∧q.k= .a∧q.hb.nx=i
 hH:∀ j q,Y j→lo≤j→rs[j]? =some q→q.k= .a→∃ k,r q.hb.nx=some ⟨k,0,0⟩∧w0.heap.size≤k∧(∀ i o q',(H lo).t.get i=some o→r i=some q'→q'.ak≠k)∧
  ∃ e l us,bI q.hb (.cells l e 0 .x)=some q.ha∧(∀ r,ar r l=some us)∧cI l=true∧w.heap[k]? =some (.cells us.toArray e (0,0))
 kC:∀ j j' q q' x x',Y j→lo≤j→rs[j]? =some q→q.k= .a→Y j'→lo≤j'→rs[j']? =some q'→q'.k= .a→r q.hb.nx=some x→r q'.hb.nx=some x'→x.ak=x'.ak→j=j'
 le:r0.le r
 md:Md (Fr G r0 h0) w0 w
 cH:∀ g,g≤G→∀ k,k < w0.heap.size→Fr g r (H lo) k→Fr g r0 h0 k
 out:∀ i,(H ops.length).nx≤i→r i=r0 i
theorem Sq.fresh (s:Sq P G n ops rs F H) {j:Nat} {q:Rec} (E:rs[j]? =some q) (C:q.k= .a):q.hb=H j∧q.ha=H (j+1)∧(H<|j+1).nx=(H j).nx+1:=by
 obtain ⟨o,I⟩:=s.get' E;have A:=s.line j o q I E;refine ⟨A.hb,A.ha,?_⟩;rw [← A.hb,← A.ha];rcases A.run with ⟨_,_,h⟩ | ⟨_,h,_,_⟩
 · cases h with
   | p h _ _=>rw [C] at h; cases h
   | l h _ _=>rw [C] at h; cases h
   | a e l _ _ _ h _=>exact gk h
   | c h _=>rw [C] at h; cases h
 · rw [C] at h; cases h
theorem Sq.alt (s:Sq P G n ops rs F H) {j i:Nat} {q q':Rec} (J:rs[j]? =some q) (E:q.k= .a) (A:rs[i]? =some q') (I:q'.k= .a) (O:j < i):q.hb.nx < q'.hb.nx:=by
 obtain ⟨C,L,M⟩:=s.fresh J E;obtain ⟨g1,g2,g3⟩:=s.fresh A I;have :=s.mono (i:=j+1) (k:=i) ag<|by have :=(bZ.1 A).1; have :=s.len; omega
 rw [C,g1]; omega
theorem Sq.xx (s:Sq P G n ops rs F H) {j i:Nat} {q q':Rec} (E:rs[j]? =some q) (A:q.k= .a) (I:rs[i]? =some q') (C:q'.k= .a) (he:q.hb.nx=q'.hb.nx):j=i:=by
 rcases mF j i with h | h | h
 · have :=s.alt E A I C h; omega
 · exact h
 · have :=s.alt I C E A h; omega
theorem HD.qP (C:HD P G T ops rs H r0 w0 h0 Y lo r w) {q:Rec} (M:rs[lo]? =some q) (he:H (lo+1)=H lo) (U:q.k≠.c) (ha:q.k≠.a):HD P G T ops rs H r0 w0 h0 Y (lo+1) r w:=by
 have I:∀ j q',rs[j]? =some q'→(q'.k= .c∨q'.k= .a)→j≠lo:=fun j q' I V e=>by
  subst e; rw [M] at I; cases I;rcases V with h | h
  · exact U h
  · exact ha h
 refine ⟨(bZ.1 M).1,fun j q' A E=> ?_,fun j q' A E L=>C.la j q' A E (by have :=I j q' A (.inr E); omega),by rw [he]; exact C.hr,fun i A E=> ?_,fun j q' A E L O=>by rw [he]; exact C.hH j q' A ag L O,fun j Z aa ab x ac J a2 a3 a4 a5 ad=>C.kC j Z aa ab x ac J ag a3 a4 a5 ag,C.le,C.md,by rw [he]; exact C.cH,C.out⟩
 · rw [C.lc j q' A E]; have :=I j q' A (.inl E); omega
 · rw [he] at A;rcases C.new i A E with h | ⟨j,q',J,a2,a3,a4,a5⟩
   · exact .inl h
   · exact .inr ⟨j,q',J,by have :=I j q' a3 (.inr a4); omega,a3,a4,a5⟩
theorem HD.B5 (s:Sq P G n ops rs F H) (A:HD P G T ops rs H r0 w0 h0 Y lo r w) {q:Rec} (J:rs[lo]? =some q) (ha:q.k= .a) (U:Y lo):HD P G T ops rs H r0 w0 h0 Y (lo+1) r w:=by
 obtain ⟨f1,f2,f3⟩:=s.fresh J ha;obtain ⟨k,L,ap,ah,e,l,us,hn,ai,C,hw⟩:=A.hH lo q U (aI _) J ha;rw [f1] at L;rw [f1,f2] at hn;unfold bI at hn;replace hn:=ay hn; obtain ⟨M,hn⟩:=hn;simp only [aQ] at hn;have aq:(H<|lo+1).nx=(H lo).nx+1:=f3;refine ⟨(bZ.1 J).1,fun j q' C E=> ?_,fun j q' C E aa=> ?_,?_,fun i C E=> ?_,fun j q' I a2 a3 a4=> ?_,fun j aj al am x an I a2 a3 a4 a5 ao=>A.kC j aj al am x an I ag a3 a4 a5 ag,A.le,A.md,?_,A.out⟩
 · rw [A.lc j q' C E];have :j≠lo:=fun e=>by subst e; rw [J] at C; cases C; rw [ha] at E; cases E
   omega
 · rcases wW.1 aa with h | rfl
   · exact A.la j q' C E h
   · exact U
 · rw [← hn];exact A.hr.put (r':=r) (w':=w) (q:=⟨k,0,0⟩) (Rn.le_refl r) M L (by rw [hw]; exact qf (ai r) C) (fun _ _ _=>rfl) (fun j ak q' _ ac hr=>ah j ak q' ac hr) (iu _) fun _ _ ad=>absurd ad<|oL _
 · rcases A.new i ag E with h | ⟨j,q',I,a2,a3,a4,a5⟩
   · exact .inl h
   · refine .inr ⟨j,q',I,?_,a3,a4,a5⟩;rcases e7 lo j with h | h
     · exact h
     · have :j=lo:=ag;subst this;rw [J] at a3; cases a3;rw [f1] at a5; omega
 · obtain ⟨V,g1,g2,g3,g4⟩:=A.hH j q' I ag a3 a4;refine ⟨V,g1,g2,fun i o x hi O=> ?_,g4⟩;rw [← hn] at hi;simp only [Tr.iD _ _ _ _ M] at hi;split at hi
   · rename_i e; subst e;intro hb;rw [L] at O; cases O;have :=A.kC lo j q q' _ _ U (aI _) J ha I ag a3 a4 (by rw [f1]; exact L) g1 hb;omega
   · exact g3 i o x hi O
 · intro g ab V ae Z;rw [← hn] at Z;rcases Fr.set M L (Rn.le_refl r) A.hr Z with h | h
   · simp only at h; omega
   · exact A.cH g ab V ae h
theorem HD.up (s:Sq P G n ops rs F H) (I:HD P G T ops rs H r0 w0 h0 Y lo r w) {q:Rec} (A:rs[lo]? =some q) (E:q.k≠.c) (ha:q.k= .a→Y lo):HD P G T ops rs H r0 w0 h0 Y (lo+1) r w:=by
 obtain ⟨o,L⟩:=s.get' A;have J:=s.line lo o q L A;have same:q.ha=q.hb→H (lo+1)=H lo:=fun h=>by rw [← J.hb,← J.ha,h]
 rcases J.run with ⟨_,_,h⟩ | ⟨_,h,_,C⟩
 · cases h with
   | p h _ C=>exact I.qP A (same C) E<|by rw [h]; intro h; cases h
   | l h _ C=>exact I.qP A (same C) E<|by rw [h]; intro h; cases h
   | a e l h _ _ _ _=>exact I.B5 s A h<|ha h
   | c h _=>exact absurd h E
 · exact I.qP A (same C) E<|by rw [h]; intro h; cases h
theorem HD.qQ (s:Sq P G n ops rs F H) (A:HD P G T ops rs H r0 w0 h0 Y lo r w):∀ (i:Nat),lo≤i→i≤rs.length→(∀ j q,lo≤j→j < i→rs[j]? =some q→q.k≠.c∧(q.k= .a→Y j))→HD P G T ops rs H r0 w0 h0 Y i r w
 | 0,h,_,_=>by have :lo=0:=ag
               subst this; exact A
 | i+1,h,hi,hall=>by
   rcases e7 i lo with I | hle
   · have :lo=i+1:=ag;subst this; exact A
   · have E:=HD.qQ s A i hle ag fun j q a b c=>hall j q a ag c;have C:rs[i]? =some (rs[i]'ag):=cK _;exact E.up s C (hall i _ hle (iv _) C).1 (hall i _ hle (iv _) C).2
theorem HD.skip (A:HD P G T ops rs H r0 w0 h0 Y lo r w) {i:Nat} {q:Rec} (ad:rs[i]? =some q) (ab:q.k≠.c) (ha:q.k≠.a):HD P G T ops rs H r0 w0 h0 (fun j=>Y j∨j=i) lo r w:=by
 have C:∀ j q',rs[j]? =some q'→(q'.k= .c∨q'.k= .a)→(Y j∨j=i)→Y j:=fun j q' C ac ae=>by
  rcases ae with h | rfl
  · exact h
  · rw [ad] at C; cases C;rcases ac with h | h
    · exact absurd h ab
    · exact absurd h ha
 refine ⟨A.hi,fun j q' E I=> ?_,fun j q' E I aa=> .inl (A.la j q' E I aa),A.hr,fun i E I=> ?_,fun j q' J a2 a3 a4=>A.hH j q' (C j q' a3 (.inr a4) J) a2 a3 a4,fun j O U V x ag J a2 a3 a4 a5 Z L M=>A.kC j O U V x ag (C j U a3 (.inr a4) J) a2 a3 a4 (C O V L (.inr M) a5) Z L M,A.le,A.md,A.cH,A.out⟩
 · rw [← A.lc j q' E I]; exact ⟨C j q' E (.inl I),.inl⟩
 · rcases A.new i E I with h | ⟨j,q',J,a2⟩
   · exact .inl h
   · exact .inr ⟨j,q',.inl J,a2⟩
theorem HR.grow {h:Hp} {r':Rn} {w':ae} (hr:HR P G r 0 h w) (hle:r.le r') (hw:∀ k,k < w.heap.size→w'.heap[k]? =w.heap[k]?):HR P G r' 0 h w':=by
 refine ⟨fun i o hi=> ?_,fun i j o I q q' hi E A C he=> ?_,fun i _ h=>absurd h (oL _),hr.dz.le hle,hr.base⟩
 · obtain ⟨q,A,C⟩:=hr.live i o hi;refine ⟨q,hle _ _ A,?_⟩;rw [hw _ (hr.lt hi A)];exact C.le hle
 · obtain ⟨x,g1,_⟩:=hr.live i o hi;obtain ⟨J,g2,_⟩:=hr.live j I E;rw [hle _ _ g1] at A; cases A;rw [hle _ _ g2] at C; cases C;exact hr.inj i j o I _ _ hi E g1 g2 he
theorem HD.early (s:Sq P G n ops rs F H) (A:HD P G T ops rs H r0 w0 h0 Y lo r w) (hT:(H ops.length).nx≤T) {i:Nat} {q:Rec} {e:ai} {l:List AV} {us:List ab} (E:rs[i]? =some q) (J:q.k= .a) (ax:¬Y i) (hn:bI q.hb (.cells l e 0 .x)=some q.ha) (aH:∀ r,ar r l=some us) (an:cI l=true):
 r.le (r.ext q.hb.nx ⟨w.heap.size,0,0⟩)∧HD P G T ops rs H r0 w0 h0 (fun j=>Y j∨j=i) lo (r.ext q.hb.nx ⟨w.heap.size,0,0⟩) {w with heap:=w.heap.push<|.cells us.toArray e (0,0)} :=by
 obtain ⟨f1,f2,f3⟩:=s.fresh E J;have aG:i < ops.length:=by rw [← s.len]; exact (bZ.1 E).1
 have az:lo≤i:=by
  rcases e7 i lo with h | h
  · exact absurd (A.la i q E J h) ax
  · exact h
 have m1:=s.mono az<|Nat.le_of_lt aG;have aJ:=s.mono (i:=i+1) (k:=ops.length) ag<|aI _;have aD:r q.hb.nx=none:=by
  rw [f1];rcases A.new (H i).nx m1 ag with h | ⟨j,q',C,a2,a3,a4,a5⟩
  · exact h
  · have :=s.xx a3 a4 E J<|by rw [a5,f1]
    subst this; exact absurd C ax
 have hle:=Rn.lL (r:=r) (i:=q.hb.nx) ⟨w.heap.size,0,0⟩ aD;have ay:∀ k,k < w.heap.size→({w with heap:=w.heap.push<|.cells us.toArray e (0,0)} :ae).heap[k]? =w.heap[k]? :=fun k J=>by
  simp only [oh]; rw [if_neg ag]
 have live:∀ j o x,(H lo).t.get j=some o→(r.ext q.hb.nx ⟨w.heap.size,0,0⟩) j=some x→r j=some x:=fun j o x an aw=>by
  obtain ⟨aa,g1,_⟩:=A.hr.live j o an;rw [hle _ _ g1] at aw; cases aw; exact g1
 refine ⟨hle,A.hi,fun j q' g1 g2=> ?_,fun j q' g1 g2 g3=> .inl (A.la j q' g1 g2 g3),A.hr.grow hle ay,fun Z g1 g2=> ?_,fun j q' C a2 a3 a4=> ?_,fun j ap I aq x aa C a2 a3 a4 a5 ac L ad ah V aj=> ?_,Rn.le_trans A.le hle,Md.trans' A.md (Ab w _ fun _=>False) (fun _ _ h=>h.elim),fun g aE k J aC=> ?_,fun Z aF=> ?_⟩
 · rw [← A.lc j q' g1 g2];refine ⟨fun h=> ?_,.inl⟩;rcases h with h | rfl
   · exact h
   · rw [E] at g1; cases g1; rw [J] at g2; cases g2
 · by_cases he:Z=q.hb.nx
   · exact .inr ⟨i,q,.inr U,az,E,J,he.symm⟩
   · rw [Rn.fG _ _ he];rcases A.new Z g1 g2 with h | ⟨j,q',C,a2⟩
     · exact .inl h
     · exact .inr ⟨j,q',.inl C,a2⟩
 · rcases C with C | rfl
   · obtain ⟨k,g1,g2,g3,av,aA,aB,g4,g5,g6,g7⟩:=A.hH j q' C a2 a3 a4;exact ⟨k,hle _ _ g1,g2,fun i o x hi ao=>g3 i o x hi (live i o x hi ao),av,aA,aB,g4,g5,g6,by rw [ay k (bu.1 g7).1]; exact g7⟩
   · rw [E] at a3; cases a3;refine ⟨w.heap.size,Rn.ea _ _ _,A.md.size,fun i o x hi ao=> ?_,e,l,us,hn,aH,an,by simp⟩;have :=A.hr.lt hi<|live i o x hi ao;omega
 · have cH:∀ j I x,Y j→lo≤j→rs[j]? =some I→I.k= .a→(r.ext q.hb.nx ⟨w.heap.size,0,0⟩) I.hb.nx=some x→r I.hb.nx=some x∧x.ak < w.heap.size:=fun j I x M O al am au=>by
    obtain ⟨k,g1,g2,g3,av,aA,aB,g4,g5,g6,g7⟩:=A.hH j I M O al am;rw [hle _ _ g1] at au; cases au;exact ⟨g1,(bu.1 g7).1⟩
   rcases C with C | rfl
   · obtain ⟨M,O⟩:=cH j I x C a2 a3 a4 ah;rcases a5 with a5 | rfl
     · obtain ⟨d1,d2⟩:=cH ap aq aa a5 ac L ad V;exact A.kC j ap I aq x aa C a2 a3 a4 a5 ac L ad M d1 aj
     · rw [E] at L; cases L;rw [Rn.ea] at V; cases V;simp only at aj; omega
   · rw [E] at a3; cases a3;rw [Rn.ea] at ah; cases ah;rcases a5 with a5 | rfl
     · obtain ⟨d1,d2⟩:=cH ap aq aa a5 ac L ad V;simp only at aj; omega
     · rfl
 · obtain ⟨j,o,x,M,O,al,am⟩:=aC;exact A.cH g aE k J ⟨j,o,x,M,O,live j o x O al,am⟩
 · rw [Rn.fG _ _ (by rw [f1]; omega)]; exact A.out Z aF
theorem HD.zq (s:Sq P G n ops rs F H) (A:HD P G T ops rs H r0 w0 h0 Y lo r w) (hT:(H ops.length).nx≤T) {q:Rec} (C:rs[lo]? =some q) (I:q.k= .c):HR P G r (H<|lo+1).nx (H lo) w:=by
 have M:lo < ops.length:=by rw [← s.len]; exact (bZ.1 C).1
 have O:=s.mono (i:=lo+1) (k:=ops.length) ag<|aI _;refine ⟨A.hr.live,A.hr.inj,fun i E L=> ?_,A.hr.dz,A.hr.base⟩;rcases A.new i E ag with h | ⟨j,q',J,a2,a3,a4,a5⟩
 · exact h
 · exfalso;obtain ⟨f1,f2,f3⟩:=s.fresh a3 a4;have :j≠lo:=fun e=>by subst e; rw [C] at a3; cases a3; rw [I] at a4; cases a4
   have :=s.mono (i:=lo+1) (k:=j) ag<|by have :=(bZ.1 a3).1; have :=s.len; omega
   rw [f1] at a5; omega
theorem HD.BT (s:Sq P G n ops rs F H) (A:HD P G T ops rs H r0 w0 h0 Y lo r w) {q:Rec} (ai:rs[lo]? =some q) (E:q.k= .c) {r':Rn} {w':ae} (st:St P G (H<|lo+1).nx r (H lo) w r' (H<|lo+1) w'):HD P G T ops rs H r0 w0 h0 (fun j=>Y j∨j=lo) (lo+1) r' w':=by
 have aA:lo < ops.length:=by rw [← s.len]; exact (bZ.1 ai).1
 have aw:=s.mono (i:=lo+1) (k:=ops.length) ag<|aI _;have ah:∀ j q',rs[j]? =some q'→q'.k= .a→j≠lo:=fun j q' M O e=>by subst e; rw [ai] at M; cases M; rw [E] at O; cases O
 have I:∀ j q',rs[j]? =some q'→q'.k= .a→(Y j∨j=lo)→Y j:=fun j q' M O aq=>aq.resolve_right<|ah j q' M O;refine ⟨(bZ.1 ai).1,fun j q' g1 g2=> ?_,fun j q' g1 g2 g3=> ?_,⟨st.hr.live,st.hr.inj,fun i _ h=>absurd h (oL _),st.hr.dz,st.hr.base⟩,fun i g1 g2=> ?_,fun j q' C a2 a3 a4=> ?_,fun j U V Z x aC C a2 a3 a4 a5 az J L aj al ao=> ?_,Rn.le_trans A.le st.le,Md.trans' A.md st.md (fun k E ad=>A.cH G (aI _) k E ad),fun g an k E ad=>A.cH g an k E (st.cH g an k (iY E A.md.size) ad),fun i hi=>(st.out i<|bK aw hi).trans<|A.out i hi⟩
 · rw [A.lc j q' g1 g2]; omega
 · have :=ah j q' g1 g2;exact .inl<|A.la j q' g1 g2 ag
 · rw [st.out i g1];rcases A.new i (bK st.nx g1) g2 with h | ⟨j,q',C,a2,a3,a4,a5⟩
   · exact .inl h
   · have :=ah j q' a3 a4;exact .inr ⟨j,q',.inl C,ag,a3,a4,a5⟩
 · obtain ⟨k,g1,g2,g3,ap,av,ay,g4,g5,g6,g7⟩:=A.hH j q' (I j q' a3 a4 C) ag a3 a4;have ar:=(bu.1 g7).1;refine ⟨k,st.le _ _ g1,g2,fun i o x hi au hb=> ?_,ap,av,ay,g4,g5,g6,st.md.ak g7 fun ⟨i,o,x,_,aa,ab,ac⟩=>g3 i o x aa ab ac⟩;obtain ⟨i2,ax,x2,_,aa,ab,ac⟩:=st.cH 0 (lk _) k ar ⟨i,o,x,lk _,hi,au,hb⟩;exact g3 i2 ax x2 aa ab ac
 · obtain ⟨k,g1,_⟩:=A.hH j V (I j V a3 a4 C) ag a3 a4;obtain ⟨aB,am,_⟩:=A.hH U Z (I U Z J L a5) ag J L;rw [st.le _ _ g1] at aj; cases aj;rw [st.le _ _ am] at al; cases al;exact A.kC j U V Z _ _ (I j V a3 a4 C) ag a3 a4 (I U Z J L a5) ag J L g1 am ao
theorem HD.done (s:Sq P G n ops rs F H) (E:HD P G T ops rs H r0 w0 (H 0) Y lo r w) (hT:(H ops.length).nx≤T) (J:∀ j,j < ops.length→Y j):St P G T r0 (H 0) w0 r (H ops.length) w:=by
 have A:=E.qQ s ops.length (by have :=E.hi; rw [s.len] at this; exact this) (by rw [s.len]; exact aI _) fun j q I C L=>⟨fun M=>by have :=(E.lc j q L M).1 (J j C); omega,fun _=>J j C⟩
 refine ⟨A.le,⟨A.hr.live,A.hr.inj,fun i I C=> ?_,A.hr.dz,A.hr.base⟩,s.mono (lk _) (aI _),A.md,A.cH,A.out⟩;rcases A.new i I C with h | ⟨j,q',O,a2,a3,a4,a5⟩
 · exact h
 · have :=(bZ.1 a3).1; have :=s.len; omega
theorem HD.start (s:Sq P G n ops rs F H) (hr:HR P G r0 T (H 0) w0) (A:∀ j,¬Y j):HD P G T ops rs H r0 w0 (H 0) Y 0 r0 w0:=
 ⟨lk _,fun j q _ _=>⟨fun h=>absurd h (A j),fun h=>by omega⟩,fun j q _ _ h=>by omega,⟨hr.live,hr.inj,fun i _ h=>absurd h (oL _),hr.dz,hr.base⟩,fun i C E=> .inl (hr.new i C E),fun j q h=>absurd h (A j),fun j I q q' x J h=>absurd h (A j),Rn.le_refl _,Md.refl _ _,fun _ _ _ _ h=>h,fun _ _=>rfl⟩
end
end Go.Hb
namespace Go.Hb
section
variable {P:aj} {G n T:Nat} {ops:List an} {rs:List Rec} {F:Nat→Tr AV} {H:Nat→Hp}
def Yl (listed:Array Bool) (j:Nat):Prop :=listed[j]? =some true
theorem xo {listed:Array Bool} {i:Nat} (hi:i < listed.size):Yl (listed.setIfInBounds i true)=fun j=>Yl listed j∨j=i:=by
 funext j;apply propext;unfold Yl;rw [kR];by_cases e:i=j
 · subst e; simp [hi]
 · rw [if_neg e];exact ⟨.inl,fun h=>h.resolve_right fun x=>e x.symm⟩
theorem filter_le {p p':Nat→Bool} (h:∀ j,p' j=true→p j=true):∀ l:List Nat,(l.filter p').length≤(l.filter p).length
 | []=>aI _
 | a::l=>by
   have :=filter_le h l;simp only [mB];cases hp:p' a
   · cases p a
     · simpa using this
     · simp only [if_true,ml,if_false,cr]; omega
   · rw [h a hp]; simp only [if_true,cr]; omega
theorem filter_lt {p p':Nat→Bool} (h:∀ j,p' j=true→p j=true) {i:Nat} (hp:p i=true) (A:p' i=false):∀ {l:List Nat},i∈l→(l.filter p').length < (l.filter p).length
 | a::l,hm=>by
   simp only [mB];rcases cU.1 hm with rfl | hm
   · rw [hp,A];have :=filter_le h l;simp only [if_true,ml,if_false,cr]; omega
   · have :=filter_lt h hp A hm;cases hq:p' a
     · cases p a
       · simpa using this
       · simp only [if_true,ml,if_false,cr]; omega
     · rw [h a hq]; simp only [if_true,cr]; omega
def un (m:Nat) (listed:Array Bool):Nat:=((j0 m).filter fun i=> !listed.getD i true).length
theorem BY {m:Nat} {listed:Array Bool} {i:Nat} (hm:i < m) (hi:listed[i]? =some false):un m (listed.setIfInBounds i true) < un m listed:=by
 have C:=(bu.1 hi).1;refine filter_lt (i:=i) (fun j A=> ?_) ?_ ?_ (wH.2 hm)
 · simp only [gz] at A ⊢;rw [eW,kR] at A;rw [eW];by_cases e:i=j
   · subst e; rw [if_pos rfl,if_pos C] at A; simp at A
   · rw [if_neg e] at A; exact A
 · simp [eW,hi]
 · simp [eW,C]
theorem AQ {listed:Array Bool} {i:Nat} (L:listed.size=ops.length) (h:i∈cT .any ops.toArray listed):∃ o,ops[i]? =some o∧listed[i]? =some false∧∀ e∈o.after.toList,cm .any e=true→Yl listed e.on:=by
 unfold cT at h;rw [wG] at h;obtain ⟨J,A⟩:=h;simp only [wH,c7] at J;simp only [aD,gz,jX] at A;have C:ops[i]? =some ops[i]:=cK _;generalize ops[i]=o at C;rw [C] at A;simp only [cM,e8] at A;have I:listed[i]? =some (listed[i]'ag):=jK _;refine ⟨o,C,?_,fun e he hb=> ?_⟩
 · have :=A.1;rw [eW,I] at this;rw [I]; simp at this; rw [this]
 · have E:=A.2;rw [vq] at E;have :=E e<|by simpa using he
   rw [hb] at this;simp only [Bool.not_true,Bool.false_or] at this;unfold Yl;rw [eW] at this;cases hx:listed[e.on]? with
   | none=>rw [hx] at this; simp at this
   | some b=>rw [hx] at this; simp at this; rw [this]
theorem ur (s:Sq P G n ops rs F H) {listed:Array Bool} (J:listed.size=ops.length) (h:cT .any ops.toArray listed= []):∀ j,j < ops.length→Yl listed j:=by
 intro j
 induction j using Nat.strongRecOn with
 | ind j ih=>
   intro E;have C:listed[j]? =some (listed[j]'ag):=jK _;cases hb:listed[j]'ag with
   | true =>unfold Yl; rw [C,hb]
   | false =>
     exfalso;have A:ops[j]? =some ops[j]:=cK _;generalize ops[j]=o at A;have :j∈cT .any ops.toArray listed:=by
      unfold cT;rw [wG];refine ⟨by simpa using E,?_⟩;simp only [aD,gz,jX,A,cM,e8];refine ⟨by rw [eW,C,hb]; rfl,?_⟩;rw [vq];intro e he;cases hbd:cm .any e
      · simp
      · have I:=s.yQ j o A e (by simpa using he) hbd;have :=ih e.on I ag;unfold Yl at this;rw [eW,this]; simp
     rw [h] at this; cases this
variable {r0:Rn} {w0:ae} {rr:Option Nat} {Dl:List Deferred} {Q:aE→Act→ae→Prop}
theorem yP (s:Sq P G n ops rs F H) (bf:gX P (ez ops []) rs 0 ops rs=true) (hT:(H ops.length).nx≤T) (aE:∀ r w σ,St P G T r0 (H 0) w0 r (H ops.length) w→cO r n (F ops.length) σ→Q .normal (act ⟨n,Dl,[],rr⟩ σ) w):
 ∀ (fuel:Nat) (listed:Array Bool) (lo:Nat) (fx:Tr AV) (σ:Nat→ab) (r:Rn) (w:ae),listed.size=ops.length→un ops.length listed≤fuel→j2 ops (Yl listed)→jd ops rs (F 0) (Yl listed) fx→HD P G T ops rs H r0 w0 (H 0) (Yl listed) lo r w→
   (lo=0∨∃ j q,lo=j+1∧rs[j]? =some q∧q.k= .c∧Yl listed j)→cO r n fx σ→wpAnyIn (fe rr) 0 P .any ops.toArray Q fuel listed (act ⟨n,Dl,[],rr⟩ σ) w:=by
 have fin:∀ (listed:Array Bool) (lo:Nat) (fx:Tr AV) (σ:Nat→ab) (r:Rn) (w:ae),(∀ j,j < ops.length→Yl listed j)→jd ops rs (F 0) (Yl listed) fx→HD P G T ops rs H r0 w0 (H 0) (Yl listed) lo r w→cO r n fx σ→Q .normal (act ⟨n,Dl,[],rr⟩ σ) w:=by
  intro listed lo fx σ r w aP ad C O;refine aE r w σ (C.done s hT aP) fun i hi=> ?_;rw [← s.done aP ad i];exact O i hi
 intro fuel
 induction fuel with
 | zero=>
   intro listed lo fx σ r w ao a0 av ad C aG O;have aX:(j0 ops.length).filter (fun i=> !listed.getD i true)= []:=List.length_eq_zero_iff.1<|Nat.le_zero.1 a0;have hr:cT .any ops.toArray listed= []:=by
    unfold cT;rw [List.filter_eq_nil_iff] at aX ⊢;intro a ha;have :=aX a<|by simpa using ha
    simp only [gz,Bool.not_eq_false,aD,not_and] at this ⊢;intro h; rw [this] at h; cases h
   exact ⟨hr,fin listed lo fx σ r w (ur s ao hr) ad C O⟩
 | succ fuel ih=>
   intro listed lo fx σ r w ao a0 av ad C aG O;refine ⟨fun hr=>fin listed lo fx σ r w (ur s ao hr) ad C O,fun i hi=> ?_⟩;obtain ⟨o,aa,aW,a7⟩:=AQ ao hi;have a9:=(bZ.1 aa).1;have an:¬Yl listed i:=fun h=>by unfold Yl at h; rw [aW] at h; cases h
   obtain ⟨q,L⟩:=s.get aa;have aj:=s.line i o q aa L;have aw:j2 ops (fun j=>Yl listed j∨j=i):=by
    intro j ar al ac e he hb;rcases al with al | rfl
    · exact .inl<|av j ar al ac e he hb
    · rw [aa] at ac; cases ac; exact .inl<|a7 e he hb
   have au:=xo (listed:=listed) (i:=i) ag;have bm:(listed.setIfInBounds i true).size=ops.length:=by simpa using ao
   have bn:un ops.length (listed.setIfInBounds i true)≤fuel:=by have :=BY a9 aW; omega
   have aO:∀ t∈kG ops o,bN fx t=bN (F i) t:=fun t ap=>s.agree av aa an aw ad ap;obtain ⟨a1,aZ⟩:=Bh aj.set fx;have bl:=ad.set aa L aZ;have next :∀ (aq:Nat) (r':Rn) (u:ab) (w':ae),r.le r'→den r' q.v=some u→HD P G T ops rs H r0 w0 (H 0) (fun j=>Yl listed j∨j=i) aq r' w'→(aq=0∨∃ j q,aq=j+1∧rs[j]? =some q∧q.k= .c∧(Yl listed j∨j=i))→
    wpAnyIn (fe rr) 0 P .any ops.toArray Q fuel (listed.setIfInBounds i true) ((act ⟨n,Dl,[],rr⟩ σ).put o.dst u) w':=by
    intro aq r' u w' hle hu aB ba;rw [dv];refine ih _ aq a1 _ r' w' bm bn ?_ ?_ ?_ ?_ (kJ aZ (O.le hle) hu)
    · rw [au]; exact aw
    · rw [au]; exact bl
    · rw [au]; exact aB
    · rcases ba with h | ⟨j,q,I,J,Z,ai⟩
      · exact .inl h
      · exact .inr ⟨j,q,I,J,Z,by rw [au]; exact ai⟩
   have ax:lo=0∨∃ j q,lo=j+1∧rs[j]? =some q∧q.k= .c∧(Yl listed j∨j=i):=aG.imp id fun ⟨j,q,I,J,Z,ai⟩=>⟨j,q,I,J,Z,.inl ai⟩
   have aS:=zj (n:=n) (ops:=ops) (g:=o.guard) (fr:=F i) (fx:=fx) fun t ap=>aO t<|List.mem_append_left _ ap;have bg:=ud (G:=G) (n:=n) (l:=dK o.op) (fr:=F i) (fx:=fx) fun t ap=>aO t<|List.mem_append_right _ ap;have bi:=ub bf;have ay:=bi.2 i o q aa L;rw [b9] at ay;show wpOpIn (fe rr) 0 P ops.toArray Q i _ _ w;unfold wpOpIn;rw [jX,aa];show if _ then _ else _
   rcases aj.run with ⟨aC,br,M⟩ | ⟨aC,aV,bq,bw⟩
   · rw [if_pos (pC (N:=⟨n,Dl,[],rr⟩) (aS.trans aC) O)];have az:=nI (N:=⟨n,Dl,[],rr⟩) C.hr.dz O<|bg.trans br;have bh:=aj.set;obtain ⟨d,op,ty,pos,af,g⟩:=o;simp only at az M next ay
     cases M with
     | p E V aM=>
       have aJ:∀ c,op≠.defer c:=fun c e=>by subst e; simp [jw] at V
       obtain ⟨u,I,J⟩:=uf (N:=⟨n,Dl,[],rr⟩) (dst:=d) (ty:=ty) (pos :=pos) (af:=af) (g:=g) V az;exact n8 aJ (.inl<|J w)<|next lo r u w (Rn.le_refl r) I (C.skip L (by rw [E]; intro h; cases h)<|by rw [E]; intro h; cases h) ax
     | l E V aM=>
       have aJ:∀ c,op≠.defer c:=fun c e=>by subst e; simp [fm] at V
       have aA:=ua<|ay.1 E;have bb:fm P op q.xs (H lo)=some q.v:=by
        rcases e7 i lo with aH | aT
        · rcases aG with h0 | ⟨j,A,I,J,Z,ai⟩
          · omega
          · have am:=(aA j A J).1 Z;rw [b9] at am;have aU:¬j < i:=ag;have bx:j≠i:=fun e=>by subst e; exact an ai
            rcases am.2 aU with hb | hb
            · exact absurd ((lu av hb).2 ai) an
            · obtain ⟨ar,ac⟩:=s.get' J;rw [(s.line j ar A ac J).ha,← I] at hb;exact hb
        ·
         have aN:∀ (m:Nat),lo≤m→m≤i→(∀ j A,lo≤j→j < m→rs[j]? =some A→A.k≠.c)→H m=H lo:=by
          intro m
          induction m with
          | zero=>intro h _ _; have :lo=0:=ag
                  subst this; rfl
          | succ m aL=>
            intro I J Z;rcases e7 m lo with aH | hle
            · have :lo=m+1:=ag;subst this; rfl
            · have hm:=aL hle ag fun j A a b c=>Z j A a ag c;have aY:ops[m]? =some (ops[m]'ag):=cK _;obtain ⟨ak,aK⟩:=s.get aY;have aF:=s.line m _ ak aY aK;have bd:=Z m ak hle (iv _) aK;have bc:ak.k≠.a:=fun ha=>by
               have :=(aA m ak aK).2 ha;omega
              have he:ak.ha=ak.hb:=by
               rcases aF.run with ⟨_,_,M⟩ | ⟨_,_,_,M⟩
               · cases M with
                 | p _ _ h=>exact h
                 | l _ _ h=>exact h
                 | a e l h _ _ _ _=>exact absurd h bc
                 | c h _=>exact absurd h bd
               · exact M
              rw [← aF.ha,he,aF.hb,hm]
         by_cases hex:∃ j A,lo≤j∧j < i∧rs[j]? =some A∧A.k= .c
         ·
          have first :∀ (m:Nat),lo≤m→m≤i→(∃ j A,lo≤j∧j < m∧rs[j]? =some A∧A.k= .c)→∃ j A,lo≤j∧j < i∧rs[j]? =some A∧A.k= .c∧∀ ah q',lo≤ah→ah < j→rs[ah]? =some q'→q'.k≠.c:=by
           intro m
           induction m with
           | zero=>rintro _ _ ⟨j,_,_,h,_⟩; omega
           | succ m aL=>
             intro I J ⟨j,A,g1,g2,g3,g4⟩;by_cases hex:∃ j A,lo≤j∧j < m∧rs[j]? =some A∧A.k= .c
             · obtain ⟨ah,bv,a2,a3,a4,a5⟩:=hex;exact aL ag ag ⟨ah,bv,a2,a3,a4,a5⟩
             · refine ⟨j,A,g1,ag,g3,g4,fun ah q' a b c d=>hex ⟨ah,q',a,ag,c,d⟩⟩
          obtain ⟨j,A,g1,g2,g3,g4,g5⟩:=first i aT (aI _) hex
          have am:=(aA j A g3).1 g4;rw [b9] at am;rcases am.1 g2 with hb | hb
          · rcases (lu aw hb).2 (.inr rfl) with h | h
            · have :=(C.lc j A g3 g4).1 h; omega
            · omega
          · obtain ⟨ar,ac⟩:=s.get' g3;rw [(s.line j ar A ac g3).hb,aN j g1 ag g5] at hb;exact hb
         · have :=aN i aT (aI _) fun j A a b c d=>hex ⟨j,A,a,b,c,d⟩;rw [← this,← aj.hb]; exact V
       obtain ⟨u,I,J⟩:=ue (N:=⟨n,Dl,[],rr⟩) (dst:=d) (ty:=ty) (pos :=pos) (af:=af) (g:=g) C.hr bb az;exact n8 aJ (.inl J)<|next lo r u w (Rn.le_refl r) I (C.skip L (by rw [E]; intro h; cases h)<|by rw [E]; intro h; cases h) ax
     | a e l E V aM bt bu=>
       subst V;obtain ⟨I,us,bp,bj⟩:=xy aM;obtain ⟨hle,aB⟩:=C.early s hT L E an bt bp I;refine n8 (fun c e=>by cases e) (.inl<|bj ⟨n,Dl,[],rr⟩ σ d ty pos af g w)<|next lo _ _ _ hle ?_ aB ax
       rw [bu];simp only [den,Rn.ea,b9]
     | c E V=>
       have a6:=tZ<|ay.2 E;have aH:lo≤i:=by
        rcases e7 i lo with h | h
        · exact absurd ((C.lc i q L E).2 h) an
        · exact h
       have aQ:∀ j A,j < i→rs[j]? =some A→(A.k= .c∨A.k= .a)→Yl listed j:=fun j A aU al aE=>by
        have hb:=a6 j A al aE ag;rw [b9] at hb;rcases (lu aw hb).2 (.inr rfl) with h | h
        · exact h
        · omega
       have aR:=C.qQ s i aH (by rw [s.len]; omega) fun j A a b c=>⟨fun M=>by have :=(C.lc j A c M).1 (aQ j A b c<|.inl M); omega,fun ha=>aQ j A b c<|.inr ha⟩
       have a8:=aR.zq s hT L E;obtain ⟨bz,s1⟩:=V;rw [aj.hb,aj.ha] at s1;refine s1 _ r w ⟨n,Dl,[],rr⟩ σ d ty pos af g _ Q (aI _) a8 az fun r' u w' hu bh=> ?_;exact next (i+1) r' u w' bh.le hu (aR.BT s L E bh)<|.inr ⟨i,q,U,L,E,.inr U⟩
   · rw [if_neg (by rw [sT (N:=⟨n,Dl,[],rr⟩) (aS.trans aC) O]; simp)];refine ⟨fun f _=>ga _ f,next lo r undef w (Rn.le_refl r) (by rw [bq]; exact eL r) (C.skip L (by rw [aV]; intro h; cases h)<|by rw [aV]; intro h; cases h) ax⟩
theorem yO {X:Xt} {ih:Tk→Rs} (ac:Good P G ih) (ad:eK P G X) (ab:dN P) (ae:∀ f args h v C,ih (.cl f args h)= .rv v C→∃ fn c,P.funcs[f]? =some fn∧fn.body=some c) (hm:P.follows .mixedOrders=true):oN P G X ih:=by
 intro rd n id ops fr D h;show match mW P G X ih n ops fr D h with
  | .cd e aa I C=>bX P G rd n (fun rr Q a w=>(vA id ⟨ops⟩ true).wpIn (fe rr) 0 P Q a w) fr D h e aa I C
  | .no=>True
  | _=>False
 have ai:mW P G X ih n ops fr D h=cond (ka ops (ez ops []) 0 ops) (match hP P G X ih n ops (ez ops []) 0 none ops fr h with
  | some (rs,fr,h)=>cond (gX P (ez ops []) rs 0 ops rs) (.cd .bQ fr D h) .no
  | none=> .no) .no:=rfl
 rw [ai];cases hc1:ka ops (ez ops []) 0 ops
 · exact trivial
 · rw [cond_true];cases hrec:hP P G X ih n ops (ez ops []) 0 none ops fr h with
   | none=>exact trivial
   | some x=>
     obtain ⟨rs,ap,aq⟩:=x;simp only;cases hok:gX P (ez ops []) rs 0 ops rs
     · exact trivial
     · rw [cond_true];obtain ⟨F,H,J,L,M,O,V,Z⟩:=uu ac ad ab ae hrec;have s:Sq P G n ops rs F H:=⟨V,Z,fun i j an ao hi A ar=>by
        have :=(o7 hc1 i an hi).2 j ao A ag;rwa [b9] at this,fun i o am=>by
        have :=sj (o7 hc1 i o am).1;rwa [b9] at this⟩
       subst J; subst L; subst M; subst O;refine ⟨s.mono (lk _) (aI _),fun T r w σ Dl rr Q hT hr aj ah au al=> ?_⟩;refine wpIn_region_any hm ?_;have E:∀ j,¬Yl (Array.replicate ops.length false) j:=fun j A=>by
        unfold Yl at A;rw [Array.getElem?_replicate] at A;split at A <;> cases A
       refine yP s hok hT (r0:=r) (w0:=w.drew) (fun r' w' σ' st ak=>al r' w' σ' Dl st.drew ak<|jh st.le ah) _ _ 0 (F 0) σ r w.drew (by simp) ?_ (fun j o A=>absurd A<|E j) (fun t=> .inr ⟨fun j o A=>absurd A (E j),U⟩) (HD.start s hr.drew E) (.inl U) aj;unfold un;exact bK (List.length_filter_le _ _)<|by simp
theorem yY {X:Xt} (C:eK P G X) (A:dN P) (hm:P.follows .mixedOrders=true) (k:Nat):Good P G (eC P G X k):=sC C A (fun ih E I=>yO E C A I hm) k
end
end Go.Hb
namespace Go.Hb
section
variable {P:aj} {G:Nat} {X:Xt} {w:ae}
theorem Cr {f:Nat} (J:∀ v w,(callFunc f #[v]).run P w= .ok (.value v) w) {xs:List AV} {h A:Hp} {v:AV} (he:qW xs h=some (v,A)):h.nx≤A.nx∧∀ (T:Nat) (r:Rn) (w:ae) (us:List ab),A.nx≤T→HR P G r T h w→ar r xs=some us→
 ∃ r' u w',den r' v=some u∧(callFunc f us.toArray).run P w= .ok (.value u) w'∧St P G T r h w r' A w':=by
 unfold qW at he;split at he
 · cases he;refine ⟨aI _,fun T r w us hT hr I=> ?_⟩;obtain ⟨u,L,rfl,C,E⟩:=cF I;obtain rfl :=fZ E;exact ⟨r,u,w,C,J u w,St.refl hr⟩
 · cases he
theorem tc {c:Nat} (E:c < 256):∀ (l:List UInt8) (i:Nat),lI c l i=if l.idxOf (dF c) < l.length then gF (i+l.idxOf (dF c)) else -1
 | [],i=>by simp [lI]
 | b::l,i=>by
   have I:(dF c).toNat=c:=by simp; omega
   simp only [lI,List.idxOf_cons];cases hb:av b.toNat c
   · have J:(b==dF c)=false :=by
      cases A:(b==dF c)
      · rfl
      · have :=eq_of_beq A;subst this;rw [I] at hb; simp at hb
     rw [J];simp only [cond_false,cr,tc E l (i+1)];by_cases C:l.idxOf (dF c) < l.length
     · rw [if_pos C,if_pos ag];congr 1; omega
     · rw [if_neg C,if_neg ag]
   · have :=aW hb;have A:(b==dF c)=true :=by
      rw [← this]; simp
     rw [A];simp
theorem Ct {f:Nat} (V:∀ l c w,(callFunc f #[str l,.int .u8 (xg c)]).run P w= .ok (.value<|.int .i64<|gS c l) w) {xs:List AV} {h A:Hp} {v:AV} (he:qX xs h=some (v,A)):h.nx≤A.nx∧∀ (T:Nat) (r:Rn) (w:ae) (us:List ab),A.nx≤T→HR P G r T h w→ar r xs=some us→
 ∃ r' u w',den r' v=some u∧(callFunc f us.toArray).run P w= .ok (.value u) w'∧St P G T r h w r' A w':=by
 unfold qX at he;split at he
 · rename_i l c;replace he:=ay he; obtain ⟨C,he⟩:=he;have C:=bA.1 C;split at he
   · rename_i ad hm;cases he;refine ⟨aI _,fun T r w us hT hr U=> ?_⟩;obtain ⟨u,aa,rfl,I,J⟩:=cF U;obtain ⟨Z,ac,rfl,L,M⟩:=cF J;obtain rfl :=fZ M;obtain rfl :=dZ I;obtain rfl :=bG L;have O:(dF c).toNat=c:=by simp; omega
     have E:=V l (dF c) w;rw [O] at E;refine ⟨r,_,w,?_,E,St.refl hr⟩;rw [tc C l 0] at hm;simp only [b9] at hm;have :gS (dF c) l=if l.idxOf (dF c) < l.length then gF (l.idxOf<|dF c) else -1:=rfl
     rw [← this] at hm;rw [dA] at hm;cases hm;simp only [den]
   · cases he
 · cases he
def x2 (a b:Nat):Xt:=fun f=>cond (av f a) (some qW)<|cond (av f b) (some qX) none
theorem Cq {a b:Nat} (C:∀ v w,(callFunc a #[v]).run P w= .ok (.value v) w) (E:∀ l c w,(callFunc b #[str l,.int .u8 (xg c)]).run P w= .ok (.value<|.int .i64<|gS c l) w):eK P G (x2 a b):=by
 intro f e he xs h v I A;unfold x2 at he;cases ha:av f a
 · rw [ha] at he;simp only [cond_false] at he;cases hb:av f b
   · rw [hb] at he; cases he
   · rw [hb] at he;cases he;have :=aW hb;subst this;exact Ct E A
 · rw [ha] at he;cases he;have :=aW ha;subst this;exact Cr C A
theorem yu (h:P.funcs.toList.all (fun fn=> !(fn.name== "runtime.NumGoroutine") || fn.body.isNone)=true):dN P:=by
 intro f fn c A hb;have hm:fn∈P.funcs.toList:=by
  rw [bu] at A;obtain ⟨C,rfl⟩:=A;simp
 have :=List.all_eq_true.1 h fn hm;rw [hb] at this;simp only [Option.isNone_some,Bool.or_false,gz] at this;exact o4 A this<|by rw [hb]; rfl
theorem pv {k f:Nat} {args:List AV} {h A:Hp} {v:AV} (E:eK P G X) (C:dN P) (hm:P.follows .mixedOrders=true) (he:eC P G X k (.cl f args h)= .rv v A):rA P G f args h v A:=by
 have :=yY E C hm k<|.cl f args h;rw [he] at this;exact this
def sH (G T:Nat) (E:Nat→Nat):List Nat→Tr AO
 | []=> .nil
 | g::l=>(sH G T E l).set g<|.cells [.eE T (.ptr (G+g) 0)] (E g) 0 .x
theorem kI {T:Nat} {E:Nat→Nat} :∀ {l:List Nat},(∀ g∈l,aq g bp=true)→∀ {i:Nat} {o:AO},(sH G T E l).get i=some o→i∈l∧o= .cells [.eE T (.ptr (G+i) 0)] (E i) 0 .x
 | [],_,i,o,h=>by simp only [sH] at h; cases h
 | g::l,hl,i,o,h=>by
   simp only [sH] at h;rw [Tr.iD _ _ _ _ (hl g<|fS)] at h;split at h
   · rename_i e; subst e; cases h; exact ⟨fS,rfl⟩
   · obtain ⟨A,C⟩:=kI (fun g I=>hl g<|gH _ I) h;exact ⟨gH _ A,C⟩
def bL (T:Nat) (l:List Nat) (w:ae):Prop := ∀ g,g∈l→∃ (a:Addr) (e:Nat),a.spot=none∧w.heap[g]? =some (.cells #[.iface T (.pointer<|some a)] e (0,0))
theorem bL.mono {T:Nat} {l:List Nat} {w w':ae} {F:Nat→Prop} (h:bL T l w) (hm:Md F w w') (I:∀ g∈l,¬F g):bL T l w':=fun g A=>by
 obtain ⟨a,e,C,E⟩:=h g A;exact ⟨a,e,C,hm.ak E<|I g A⟩
theorem HR.nT {T:Nat} {l:List Nat} (J:∀ g∈l,g < G) (ae:G≤1000) (h:bL T l w):∃ (E:Nat→Nat) (r:Rn),∀ U,HR P G r U ⟨sH G T E l,G+G⟩ w:=by
 classical
 let A:Nat→Addr:=fun g=>if C:g∈l then (h g C).choose else ⟨0,0,none⟩
 let E:Nat→Nat:=fun g=>if C:g∈l then (h g C).choose_spec.choose else 0
 have aa:∀ g,g∈l→(A g).spot=none∧w.heap[g]? =some (.cells #[.iface T (.pointer<|some<|A g)] (E g) (0,0)):=fun g C=>by
  have :=(h g C).choose_spec.choose_spec;simp only [A,E,dif_pos C];exact this
 let r:Rn:=fun i=>if i < G then some ⟨i,0,0⟩ else if i < G+G then some ⟨(A<|i - G).block,(A<|i - G).off,0⟩ else none
 have L:∀ i,i < G→r i=some ⟨i,0,0⟩:=fun i hi=>if_pos hi;have ad:∀ g,g < G→r (G+g)=some ⟨(A g).block,(A g).off,0⟩:=fun g C=>by
  show (if G+g < G then _ else _)=_;rw [if_neg ag,if_pos ag,show G+g - G=g from by omega]
 have O:∀ g∈l,aq g bp=true :=fun g C=>bA.2 (by have :=J g C; have :bp=1048574:=rfl; omega);refine ⟨E,r,fun U=>⟨fun i o hi=> ?_,fun i j o ah q q' hi ab I M he=> ?_,fun i I M=> ?_,fun g C=>⟨0,L g C⟩,Nat.le_add_right _ _⟩⟩
 · obtain ⟨hm,rfl⟩:=kI O hi;have V:=J i hm;obtain ⟨Z,a2⟩:=aa i hm;refine ⟨⟨i,0,0⟩,L i V,?_⟩;rw [a2];refine qf (us:= [.iface T (.pointer<|some<|A i)]) ?_ rfl;have e:(⟨(A i).block,(A i).off,none⟩:Addr)=A i:=by
    have :A i=⟨(A i).block,(A i).off,(A i).spot⟩:=rfl;rw [this,Z]
   simp only [ar,den,ad i V,ir,e]
 · obtain ⟨hm,rfl⟩:=kI O hi;obtain ⟨ac,rfl⟩:=kI O ab;rw [L i (J i hm)] at I;rw [L j (J j ac)] at M;cases I; cases M;exact he
 · show (if i < G then _ else _)=_;simp only at I;rw [if_neg ag,if_neg ag]
theorem St.wk {T C:Nat} {E:Nat→Nat} {l:List Nat} {r r':Rn} {I:Hp} {w':ae} (A:∀ g∈l,g < G) (U:G≤1000) (st:St P G C r ⟨sH G T E l,G+G⟩ w r' I w'):Wk w w':=by
 refine ⟨st.md.os,st.md.output,st.md.size,fun k M _=>st.md.bW k M fun ⟨i,o,q,O,J,_⟩=> ?_⟩;obtain ⟨hm,_⟩:=kI (fun g L=>bA.2 (by have :=A g L; have :bp=1048574:=rfl; omega)) J;have :=A i hm;omega
theorem HR.bW {T:Nat} {r:Rn} {h:Hp} {F:Nat→Prop} {w':ae} (hr:HR P G r T h w) (hm:Md F w w') (E:∀ i o q,h.t.get i=some o→r i=some q→¬F q.ak):HR P G r T h w':=by
 refine ⟨fun i o hi=> ?_,hr.inj,hr.new,hr.dz,hr.base⟩;obtain ⟨q,A,C⟩:=hr.live i o hi;refine ⟨q,A,?_⟩;rw [hm.bW _ (hr.lt hi A) (E i o q hi A)];exact C
end
end Go.Hb
end
