/-
  Walks and plain laws that the law rests on, laid together. No conditions but those that each theorem names.
-/
import Derived.Test.YtiagknaekaknhaaGreatDoorMnJoinedCounts1
set_option linter.unusedVariables false
open Array renaming getElem?_eq_some_iff→dh
open Bool renaming and_eq_false_iff→DM,and_eq_true→aZ,and_false→tI,false_and→DN,false_eq_true→lk,not_eq_true'→jm,true_and→mg
open Go renaming Edge→bR,IntKind→bw,Operand→aV,Program→au,TypeId→av,Value→ag,World→ah
open Go.Exit renaming inBlock→pj
open Go.Extern.BytealgIndexByte renaming indexByte→MA
open Go.Fence renaming wide→eO
open Go.Instr renaming checkKey→kq,field→D3,findKey→nH,findNow→nI,keyThatStays→qW,sameBits→D7,sameNow→yd,sliceAt→nJ,sliceBounds→kr
open Go.Lib renaming indexByte→D9
open Go.Region renaming Mode→nO,ready→dq
open Go.World renaming alloc_heap_new→Eg,putObj_heap_other→lr,putObj_heap_same→tQ
open List renaming append_assoc→kv,append_nil→nR,foldlM_append→Eu,foldlM_cons→pv,foldlM_nil→pw,foldl_cons→iR,getD_cons_zero→tS,getD_eq_getElem?_getD→bY,getElem?_drop→iu,getElem?_eq_getElem→bF,getElem?_eq_none→gF,getElem?_eq_some_iff→cI,getElem?_map→fP,getElem_take→tT,getLast?_eq_some_getLast→Ey,length_cons→dL,length_drop→jn,length_set→gn,length_take→dv,map_congr_left→nS,map_cons→ei,mem_append→eC,mem_append_left→pB,mem_cons→ej,mem_cons_of_mem→gU,mem_cons_self→gV,mem_filter→pC,mem_iff_getElem→tW,mem_range→jo,mem_range'_1→ys,mem_singleton→eR,nodup_cons→ub,not_mem_nil→uc,pairwise_iff_getElem→pD,range→fw,range'→fy,replicate→cW,sum_cons→pE,takeWhile_cons→EG,take_of_length_le→rj,take_succ_eq_append_getElem→EI
open Nat renaming add_assoc→iw,eq_or_lt_of_le→EK,le_refl→aP,le_trans→cQ,lt_or_ge→dA,pow_succ→uf,strongRecOn→ER,zero_add→cx
open Option renaming bind_eq_bind→pF,bind_eq_some_iff→pG,map_eq_some_iff→gG,map_some→fA,pure_def→pI
open Option.some renaming inj→dM,injEq→bL
open Prod.mk renaming injEq→gW
open Go.Proofs.Tryz
open Go.RowKit

section
namespace Go.Hb
end Go.Hb
namespace Go.Hb
def nv (n:Nat):ag:= .int .i64 n
theorem dk {h:Array Obj} {a:Option Addr} {r:List Nat} {i x:Nat} (A:a9 h a (r.map nv)) (hi:r[i]? =some x):ay h (bk a) (fo a+i*1)=some (.int .i64 (x:Nat)):=by
 rw [Nat.mul_one]; exact A.ay _ _<|by rw [fP,hi]; rfl
section
variable {P:au} {N:Fm} {σ:Nat→ag} {w:ah} {dst:Option Nat} {ty:av} {pos :String} {af:Array bR} {g:Option (Nat×Bool)} {x y z:aV}
end
end Go.Hb
namespace Go.Hb
abbrev aK:Type :=Bool×List (UInt8×Int)
def dI:aK:=(false,[])
abbrev aO (a:List aK) (n:Nat):aK:=a.getD n dI
def dU (l:List (UInt8×Int)):Prop :=l.Pairwise fun x y=>x.1.toNat < y.1.toNat
instance (l:List (UInt8×Int)):Decidable (dU l):=by unfold dU; infer_instance
def gv (a:List aK) (p:aK):Bool:=decide (p.2≠[]) || p.1 || decide (a.length=1)
def vs (a:List aK):Nat→Nat×List Nat→Int→Option (Nat×List Nat)
 | 0,_,_=>none
 | f+1,(nx,mk),n=>
   if n≠nx then (if 0≤n∧n < nx∧mk.getD n.toNat 0=2 then some (nx,mk) else none)
   else if a.length≤nx then none
   else if dU (aO a nx).2∧gv a (aO a nx)=true then
    ((aO a nx).2.foldlM (fun s e=>vs a f s e.2) (nx+1,mk.set nx 1)).map fun s=>(s.1,s.2.set nx 2)
   else none
def shaped (a:List aK):Bool:=decide (0 < a.length) && decide (a.length≤1048576) && match vs a (a.length+1) (0,cW a.length 0) 0 with
 | some s=>decide (s.1=a.length)
 | none=>false
section
variable {a:List aK}
theorem xM:∀ (f:Nat) {nx A:Nat} {mk mk':List Nat} {n:Int},vs a f (nx,mk) n=some (A,mk')→nx≤A∧mk'.length=mk.length:=by
 intro f
 induction f with
 | zero=>intro nx A mk mk' n h; cases h
 | succ f ih=>
   intro nx A mk mk' n h;have C:∀ (es:List (UInt8×Int)) (nx A:Nat) (mk mk':List Nat),es.foldlM (fun s e=>vs a f s e.2) (nx,mk)=some (A,mk')→nx≤A∧mk'.length=mk.length:=by
    intro es
    induction es with
    | nil=>intro nx A mk mk' h; simp only [pw,pI,bL,gW] at h; obtain ⟨rfl,rfl⟩:=h; exact ⟨aP _,rfl⟩
    | cons e es E=>
      intro nx A mk mk' h;simp only [pv,pF,pG] at h;obtain ⟨⟨I,m1⟩,h1,h2⟩:=h;have J:=ih h1;have L:=E _ _ _ _ h2;exact ⟨ab,ab⟩
   rw [vs] at h;split at h
   · split at h
     · cases h; exact ⟨aP _,rfl⟩
     · cases h
   · split at h
     · cases h
     · split at h
       · simp only [gG] at h;obtain ⟨⟨I,m1⟩,h1,h2⟩:=h;simp only [gW] at h2;obtain ⟨rfl,rfl⟩:=h2;have :=C _ _ _ _ _ h1;simp only [gn] at this ⊢;exact ⟨ab,this.2⟩
       · cases h
def Jc (a:List aK) (l:List Nat) (i:Nat):Prop :=i < a.length∧dU (aO a i).2∧gv a (aO a i)=true∧∀ e∈(aO a i).2,0≤e.2∧e.2.toNat∈l
inductive Ord (a:List aK):List Nat→Prop
 | nil:Ord a []
 | snoc {l i} :Ord a l→Jc a l i→i∉l→Ord a (l++ [i])
def uj (a:List aK) (i:Nat):Prop := ∃ j,j < i∧∃ e∈(aO a j).2,e.2=(i:Int)
structure pK (a:List aK) (nx:Nat) (mk:List Nat) (l:List Nat):Prop where
 ord:Ord a l
 len:mk.length=a.length
 le:nx≤a.length
 done :∀ i,mk.getD i 0=2↔i∈l
 lt:∀ i∈l,i < nx
 zero:∀ i,nx≤i→mk.getD i 0=0
theorem mQ (mk:List Nat) (i j x:Nat) (h:i < mk.length):(mk.set i x).getD j 0=if i=j then x else mk.getD j 0:=by grind
theorem Lt:∀ (f:Nat) {nx J:Nat} {mk mk':List Nat} {n:Int} {l:List Nat},vs a f (nx,mk) n=some (J,mk')→pK a nx mk l→
 ∃ C,pK a J mk' (l++C)∧(∀ i,i < nx→mk'.getD i 0=mk.getD i 0)∧(∀ i,nx≤i→i < J→i∈C)∧0≤n∧n.toNat∈l++C∧(∀ i,nx≤i→i < J→(i:Int)=n∨uj a i):=by
 intro f
 induction f with
 | zero=>intro nx J mk mk' n l h; cases h
 | succ f ih=>
   intro nx J mk mk' n l h V;rw [vs] at h;split at h
   · rename_i hn;split at h
     · rename_i L;cases h;exact ⟨[],by rw [nR]; exact V,fun _ _=>rfl,fun i h1 A=>by omega,L.1,by rw [nR]; exact (V.done _).1 L.2.2,fun i h1 A=>by omega⟩
     · cases h
   · rename_i hn;have hn:n=nx:=Classical.not_not.1 hn;split at h
     · cases h
     · rename_i aA;split at h
       · rename_i L;simp only [gG] at h;obtain ⟨⟨aB,m1⟩,h1,A⟩:=h;simp only [gW] at A;obtain ⟨rfl,rfl⟩:=A;have Z:nx < mk.length:=by rw [V.len]; omega
         have ai:pK a (nx+1) (mk.set nx 1) l:=by
          refine ⟨V.ord,by rw [gn]; exact V.len,ab,fun i=> ?_,fun i hi=>by have :=V.lt i hi; omega,fun i hi=> ?_⟩
          · rw [mQ _ _ _ _ Z];by_cases e:nx=i
            · subst e; rw [if_pos rfl];exact ⟨fun h=>by omega,fun h=>by have :=V.lt _ h; omega⟩
            · rw [if_neg e]; exact V.done i
          · rw [mQ _ _ _ _ Z,if_neg ab]; exact V.zero i ab
         have ar:∀ (es:List (UInt8×Int)) (k I:Nat) (m M:List Nat) (l:List Nat),(∀ e∈es,e∈(aO a nx).2)→nx+1≤k→es.foldlM (fun s e=>vs a f s e.2) (k,m)=some (I,M)→pK a k m l→
          ∃ C,pK a I M (l++C)∧(∀ i,i < k→M.getD i 0=m.getD i 0)∧(∀ i,k≤i→i < I→i∈C)∧(∀ e∈es,0≤e.2∧e.2.toNat∈l++C)∧(∀ i,k≤i→i < I→uj a i)∧k≤I:=by
          intro es
          induction es with
          | nil=>
            intro k I m M l _ _ h V;simp only [pw,pI,bL,gW] at h;obtain ⟨rfl,rfl⟩:=h;exact ⟨[],by rw [nR]; exact V,fun _ _=>rfl,fun i h1 A=>by omega,fun e he=>by simp at he,fun i h1 A=>by omega,aP _⟩
          | cons e es av=>
            intro k I m M l ag ay h V;simp only [pv,pF,pG] at h;obtain ⟨⟨ah,m1⟩,g1,g2⟩:=h;obtain ⟨aw,aj,ak,al,am,an,ao⟩:=ih g1 V;have az:=(xM f g1).1;obtain ⟨ax,X1,O,aa,ac,ad,ap⟩:=av _ _ _ _ _ (fun e he=>ag e<|by simp [he]) ab g2 aj;rw [kv] at X1;refine ⟨aw++ax,X1,fun i hi=>(O i ab).trans (ak i hi),fun i h1 A=> ?_,fun e' ae=> ?_,fun i h1 A=> ?_,ab⟩
            · rcases dA i ah with h | h
              · exact pB _<|al i h1 h
              · exact List.mem_append_right _<|aa i h A
            · rcases ej.1 ae with rfl | ae
              · refine ⟨am,?_⟩;rw [← kv]; exact pB _ an
              · have :=ac e' ae;rw [kv] at this; exact this
            · rcases dA i ah with h | h
              · rcases ao i h1 h with E | E
                · exact ⟨nx,ab,e,ag e (by simp),E.symm⟩
                · exact E
              · exact ad i h A
         obtain ⟨C,X1,O,aa,ac,ad,ap⟩:=ar _ _ _ _ _ _ (fun _ h=>h) (aP _) h1 ai;have mR:nx < m1.length:=by rw [X1.len]; omega
         have au:nx∉l++C:=fun h=>by
          have E:=(X1.done nx).2 h;rw [O nx ab,mQ _ _ _ _ Z,if_pos rfl] at E; omega
         refine ⟨C++ [nx],?_,fun i hi=> ?_,fun i A E=> ?_,ab,?_,fun i A E=> ?_⟩
         · rw [← kv];refine ⟨.snoc X1.ord ⟨ab,L.1,L.2,ac⟩ au,by rw [gn]; exact X1.len,X1.le,fun i=> ?_,fun i hi=> ?_,fun i hi=> ?_⟩
           · rw [mQ _ _ _ _ mR,eC,eR];by_cases e:nx=i
             · subst e; rw [if_pos rfl]; exact ⟨fun _=> .inr rfl,fun _=>rfl⟩
             · rw [if_neg e,X1.done i]; exact ⟨.inl,fun h=>h.elim id fun h=>absurd h.symm e⟩
           · rw [eC,eR] at hi;rcases hi with hi | rfl
             · exact X1.lt i hi
             · omega
           · rw [mQ _ _ _ _ mR,if_neg ab]; exact X1.zero i hi
         · rw [mQ _ _ _ _ mR,if_neg ab,O i ab,mQ _ _ _ _ Z,if_neg ab]
         · rw [eC,eR];rcases EK A with U | U
           · exact .inr U.symm
           · exact .inl<|aa i ab E
         · rw [← kv,eC,eR]; right; omega
         · rcases EK A with U | U
           · left; omega
           · exact .inr<|ad i ab E
       · cases h
structure uo (a:List aK) (l:List Nat):Prop where
 pos :0 < a.length
 le:a.length≤1048576
 ord:Ord a l
 all:∀ i,i < a.length→i∈l
 met:∀ i,0 < i→i < a.length→uj a i
theorem Kk (h:shaped a=true):∃ l,uo a l:=by
 unfold shaped at h;simp only [aZ,decide_eq_true_eq] at h;obtain ⟨⟨h1,J⟩,A⟩:=h;split at A
 · rename_i s L;obtain ⟨k,m⟩:=s;have A:=of_decide_eq_true A;simp only at A;subst A;have C:∀ i,(cW a.length 0).getD i 0=0:=fun i=>by
    rw [bY,List.getElem?_replicate]; split <;> rfl
   obtain ⟨l,V,_,E,_,_,I⟩:=Lt (l:= []) _ L ⟨.nil,by simp,ab,fun i=>by rw [C]; simp,fun i hi=>by simp at hi,fun i _=>C i⟩;refine ⟨l,h1,J,by simpa using V.ord,fun i hi=>E i ab hi,fun i h0 hi=>(I i ab hi).resolve_left ab⟩
 · cases A
theorem Ord.st {l:List Nat} (h:Ord a l):∀ i∈l,dU (aO a i).2∧gv a (aO a i)=true∧∀ e∈(aO a i).2,0≤e.2∧e.2.toNat∈l:=by
 induction h with
 | nil=>intro i hi; simp at hi
 | snoc _ A _ ih=>
   intro i hi;rcases eC.1 hi with h | h
   · obtain ⟨h1,E,C⟩:=ih i h; exact ⟨h1,E,fun e he=>⟨(C e he).1,pB _ (C e he).2⟩⟩
   · rw [eR] at h; subst h; exact ⟨A.2.1,A.2.2.1,fun e he=>⟨(A.2.2.2 e he).1,pB _ (A.2.2.2 e he).2⟩⟩
variable {l:List Nat}
theorem uo.B4 (h:uo a l) {i:Nat} (hi:i < a.length):dU (aO a i).2:=(h.ord.st i<|h.all i hi).1
theorem xN {f nx:Nat} {mk:List Nat} {n:Int} (h:n≠nx):vs a (f+1) (nx,mk) n=if 0≤n∧n < nx∧mk.getD n.toNat 0=2 then some (nx,mk) else none:=by rw [vs,if_pos h]
theorem Dk {f nx:Nat} {mk:List Nat} {n:Int} (h:n=nx) (A:a.length≤nx):vs a (f+1) (nx,mk) n=none:=by rw [vs,if_neg (fun e=>e h),if_pos A]
theorem tz {f nx:Nat} {mk:List Nat} {n:Int} (h:n=nx) (A:nx < a.length) (C:¬(dU (aO a nx).2∧gv a (aO a nx)=true)):vs a (f+1) (nx,mk) n=none:=by grind [vs]
theorem Di {f nx:Nat} {mk:List Nat} {n:Int} (h:n=nx) (A:nx < a.length) (C:dU (aO a nx).2) (E:gv a (aO a nx)=true):
 vs a (f+1) (nx,mk) n=((aO a nx).2.foldlM (fun s e=>vs a f s e.2) (nx+1,mk.set nx 1)).map fun s=>(s.1,s.2.set nx 2):=by grind [vs]
theorem Lu:∀ (f:Nat) {nx A:Nat} {mk mk':List Nat} {n:Int},vs a f (nx,mk) n=some (A,mk')→nx≤a.length→A≤a.length:=by
 intro f
 induction f with
 | zero=>intro nx A mk mk' n h; cases h
 | succ f ih=>
   intro nx A mk mk' n h hle;have C:∀ (es:List (UInt8×Int)) (nx A:Nat) (mk mk':List Nat),es.foldlM (fun s e=>vs a f s e.2) (nx,mk)=some (A,mk')→nx≤a.length→A≤a.length:=by
    intro es
    induction es with
    | nil=>intro nx A mk mk' h; simp only [pw,pI,bL,gW] at h; obtain ⟨rfl,rfl⟩:=h; exact id
    | cons e es E=>
      intro nx A mk mk' h hle;simp only [pv,pF,pG] at h;obtain ⟨⟨I,m1⟩,h1,h2⟩:=h;exact E _ _ _ _ h2<|ih h1 hle
   rw [vs] at h;split at h
   · split at h
     · cases h; exact hle
     · cases h
   · split at h
     · cases h
     · split at h
       · simp only [gG] at h;obtain ⟨⟨I,m1⟩,h1,h2⟩:=h;simp only [gW] at h2;obtain ⟨rfl,rfl⟩:=h2;exact C _ _ _ _ _ h1 ab
       · cases h
def fL (a:List aK) (f nx:Nat) (mk:List Nat) (es:List (UInt8×Int)):Option (Nat×List Nat):=es.foldlM (fun s e=>vs a f s e.2) (nx,mk)
theorem Lx {f nx:Nat} {mk:List Nat} {es:List (UInt8×Int)} {e:UInt8×Int} {s:Nat×List Nat} (h:fL a f nx mk es=some s):fL a f nx mk (es++ [e])=vs a f s e.2:=by
 unfold fL at*;rw [Eu,h];simp
theorem Lw {f nx:Nat} {mk:List Nat} {es es':List (UInt8×Int)} (h:fL a f nx mk es=none):fL a f nx mk (es++es')=none:=by grind [fL,Eu]
theorem tB {f nx:Nat} {mk:List Nat} {es:List (UInt8×Int)} {s:Nat×List Nat} (h:fL a f nx mk es=some s) (hle:nx≤a.length):nx≤s.1∧s.2.length=mk.length∧s.1≤a.length:=by
 unfold fL at h
 induction es generalizing nx mk with
 | nil=>simp only [pw,pI,bL] at h; subst h; exact ⟨aP _,rfl,hle⟩
 | cons e es ih=>
   simp only [pv,pF,pG] at h;obtain ⟨⟨E,m1⟩,h1,h2⟩:=h;have C:=xM f h1;have A:=ih h2<|Lu f h1 hle;exact ⟨ab,ab,A.2.2⟩
theorem sO {es:List (UInt8×Int)} {k:Nat} {e:UInt8×Int} (h:dU (es.take k)) (he:es[k]? =some e) (hp:∀ p,0 < k→es[k - 1]? =some p→p.1.toNat < e.1.toNat):dU (es.take<|k+1):=by
 obtain ⟨J,rfl⟩:=cI.1 he;rw [EI J];unfold dU at*;refine List.pairwise_append.2 ⟨h,by simp,fun x L y C=> ?_⟩;rw [eR] at C; subst C;obtain ⟨j,I,rfl⟩:=tW.1 L;simp only [dv] at I;have h1:=hp es[k - 1] ab<|bF ab;rcases dA j (k - 1) with A | A
 · have E:=pD.1 h j (k - 1) (by rw [dv]; omega) (by rw [dv]; omega) A;rw [tT,tT] at E;rw [tT]; omega
 · have :j=k - 1:=ab;subst this;rw [tT]; exact h1
theorem BB {es:List (UInt8×Int)} {k:Nat} {e p:UInt8×Int} (h0:0 < k) (he:es[k]? =some e) (hp:es[k - 1]? =some p) (h:e.1.toNat≤p.1.toNat):¬dU es:=fun hr=>by
 obtain ⟨A,rfl⟩:=cI.1 he;obtain ⟨C,rfl⟩:=cI.1 hp;have :=pD.1 hr (k - 1) k C A ab;omega
theorem Dh {f nx:Nat} {mk:List Nat} {s:Nat×List Nat} (A:nx < a.length) (hr:dU (aO a nx).2) (C:fL a f (nx+1) (mk.set nx 1) (aO a nx).2=some s):vs a (f+1) (nx,mk) (nx:Int)=if gv a (aO a nx)=true then some (s.1,s.2.set nx 2) else none:=by
 by_cases h:gv a (aO a nx)=true
 · rw [Di rfl A hr h,if_pos h];unfold fL at C;rw [C]; rfl
 · rw [tz rfl A (fun e=>h e.2),if_neg h]
theorem tA {f nx k:Nat} {mk:List Nat} (C:nx < a.length) (h:fL a f (nx+1) (mk.set nx 1) ((aO a nx).2.take k)=none):vs a (f+1) (nx,mk) (nx:Int)=none:=by
 by_cases A:dU (aO a nx).2∧gv a (aO a nx)=true
 · rw [Di rfl C A.1 A.2];have :=Lw (es':=(aO a nx).2.drop k) h;rw [List.take_append_drop] at this;unfold fL at this;rw [this]; rfl
 · exact tz U C A
theorem Dj {f nx:Nat} {mk:List Nat} (A:nx < a.length) (h:¬dU (aO a nx).2):vs a (f+1) (nx,mk) (nx:Int)=none:=tz rfl A (fun e=>h e.1)
theorem Lr {f nx:Nat} {mk:List Nat} (A:nx < a.length) (h:gv a (aO a nx)=false):vs a (f+1) (nx,mk) (nx:Int)=none:=tz rfl A (fun e=>by rw [h] at e; exact Bool.noConfusion e.2)
theorem mc {f nx k:Nat} {mk:List Nat} {es:List (UInt8×Int)} {e:UInt8×Int} {s:Nat×List Nat} (h:fL a f nx mk (es.take k)=some s) (he:es[k]? =some e):fL a f nx mk (es.take<|k+1)=vs a f s e.2:=by
 obtain ⟨A,rfl⟩:=cI.1 he;rw [EI A];exact Lx h
theorem Bc {q:aK} (h:0 < q.2.length):gv a q=true :=by grind [gv]
theorem Bb {q:aK} (h:q.1=true):gv a q=true :=by
 unfold gv; rw [h,Bool.or_true,Bool.true_or]
theorem vP {q:aK} (h:¬0 < q.2.length) (A:q.1=false):gv a q=decide (a.length=1):=by grind [gv,List.eq_nil_of_length_eq_zero]
theorem getD_set_ne (mk:List Nat) {i j:Nat} (x:Nat) (h:i≠j):(mk.set i x).getD j 0=mk.getD j 0:=by grind
theorem Lv:∀ (f:Nat) {nx A:Nat} {mk mk':List Nat} {n:Int},vs a f (nx,mk) n=some (A,mk')→(∀ i,nx≤i→mk.getD i 0=0)→∀ i,A≤i→mk'.getD i 0=0:=by
 intro f
 induction f with
 | zero=>intro nx A mk mk' n h; cases h
 | succ f ih=>
   intro nx A mk mk' n h C;have I:∀ (es:List (UInt8×Int)) (nx A:Nat) (mk mk':List Nat),es.foldlM (fun s e=>vs a f s e.2) (nx,mk)=some (A,mk')→(∀ i,nx≤i→mk.getD i 0=0)→nx≤A∧∀ i,A≤i→mk'.getD i 0=0:=by
    intro es
    induction es with
    | nil=>intro nx A mk mk' h; simp only [pw,pI,bL,gW] at h; obtain ⟨rfl,rfl⟩:=h; exact fun h=>⟨aP _,h⟩
    | cons e es J=>
      intro nx A mk mk' h C;simp only [pv,pF,pG] at h;obtain ⟨⟨L,m1⟩,h1,h2⟩:=h;have g:=J _ _ _ _ h2<|ih h1 C;exact ⟨cQ (xM f h1).1 g.1,g.2⟩
   rw [vs] at h;split at h
   · split at h
     · cases h; exact C
     · cases h
   · split at h
     · cases h
     · split at h
       · simp only [gG] at h;obtain ⟨⟨L,m1⟩,h1,h2⟩:=h;simp only [gW] at h2;obtain ⟨rfl,rfl⟩:=h2;obtain ⟨M,E⟩:=I _ _ _ _ _ h1 fun i hi=>by rw [getD_set_ne _ _ ab]; exact C i ab
         exact fun i hi=>by rw [getD_set_ne _ _ ab]; exact E i hi
       · cases h
theorem Ly {f nx:Nat} {mk:List Nat} {es:List (UInt8×Int)} {s:Nat×List Nat} (h:fL a f nx mk es=some s) (A:∀ i,nx≤i→mk.getD i 0=0):∀ i,s.1≤i→s.2.getD i 0=0:=by
 unfold fL at h
 induction es generalizing nx mk with
 | nil=>simp only [pw,pI,bL] at h; subst h; exact A
 | cons e es ih=>
   simp only [pv,pF,pG] at h;obtain ⟨⟨C,m1⟩,h1,h2⟩:=h;exact ih h2<|Lv f h1 A
theorem td (h:¬(0 < a.length∧a.length≤1048576)):shaped a=false :=by grind [shaped]
theorem CB (h:vs a (a.length+1) (0,cW a.length 0) 0=none):shaped a=false :=by
 unfold shaped; rw [h,tI]
theorem tf {s:Nat×List Nat} (h1:0 < a.length) (A:a.length≤1048576) (h:vs a (a.length+1) (0,cW a.length 0) 0=some s):shaped a=decide (s.1=a.length):=by grind [shaped]
end
end Go.Hb
namespace Go.Hb
structure lF (h:Array Obj) (ea:Option Addr) (es:List (UInt8×Int)):Prop where
 ok:0 < es.length→ea=some ⟨bk ea,fo ea,none⟩
 b:∀ k e,es[k]? =some e→ay h (bk ea) (fo ea+k*2 +0)=some (.int .u8 e.1.toNat)
 to:∀ k e,es[k]? =some e→ay h (bk ea) (fo ea+k*2 +1)=some (.int .i64 e.2)
theorem lF.wk {w w':ah} {A:Option Addr} {es:List (UInt8×Int)} (h:lF w.heap A es) (hm:Wk w w'):lF w'.heap A es:=⟨h.ok,fun k e he=>hm.ay (h.b k e he),fun k e he=>hm.ay<|h.to k e he⟩
theorem xG {h:Array Obj} {b o:Nat} {u v:ag} (h0:ay h b (o+0)=some u) (h1:ay h b (o+1)=some v):∀ j,j < 2→ay h b (o+j)= [u,v][j]? :=by grind
theorem lF.two {h:Array Obj} {A:Option Addr} {es:List (UInt8×Int)} (C:lF h A es) {k:Nat} {e:UInt8×Int} (he:es[k]? =some e):∀ j,j < 2→ay h (bk A) (fo A+k*2 +j)= [Value.int .u8 e.1.toNat,.int .i64 e.2][j]? :=xG (C.b k e he)<|C.to k e he
structure gY (h:Array Obj) (aa:Option Addr) (a:List aK):Prop where
 ok:0 < a.length→aa=some ⟨bk aa,fo aa,none⟩
 st:∀ i,i < a.length→∃ ea ec,ay h (bk aa) (fo aa+i*2 +0)=some (.bool (aO a i).1)∧ay h (bk aa) (fo aa+i*2 +1)=some (.slice ea (aO a i).2.length ec)∧lF h ea (aO a i).2
theorem gY.wk {w w':ah} {A:Option Addr} {a:List aK} (h:gY w.heap A a) (hm:Wk w w'):gY w'.heap A a:=
 ⟨h.ok,fun i hi=>by
  obtain ⟨C,E,h1,I,J⟩:=h.st i hi;exact ⟨C,E,hm.ay h1,hm.ay I,J.wk hm⟩⟩
theorem gY.two {h:Array Obj} {C:Option Addr} {a:List aK} (L:gY h C a) {i:Nat} (hi:i < a.length):∃ A E,(∀ j,j < 2→ay h (bk C) (fo C+i*2 +j)= [Value.bool (aO a i).1,.slice A (aO a i).2.length E][j]?)∧lF h A (aO a i).2:=by
 obtain ⟨A,E,h1,I,J⟩:=L.st i hi;exact ⟨A,E,xG h1 I,J⟩
theorem BP {w:ah} {B e size n b:Nat} {xs:List ag} (h:w.ownsRow B e size (.slice (some ⟨b,0,none⟩) n n) n xs):aB w.heap b xs:=by
 rcases h.2 with ⟨hn,_⟩ | ⟨g,cap,cur,C,_,E,_,_,I,A⟩
 · cases hn
 · simp only [Value.slice.injEq,bL,Addr.mk.injEq,and_true,true_and] at C;obtain ⟨rfl,rfl⟩:=C;rw [rj (by rw [Array.length_toList,I]; exact aP _)] at A;exact ⟨_,by rw [← A]; simpa using E⟩
theorem ma {w w':ah} {b o:Nat} {u v:ag} (hm:Wk w w') (h:∀ j,j < 2→ay w.heap b (o+j)= [u,v][j]?):∀ j,j < 2→ay w'.heap b (o+j)= [u,v][j]? :=xG (hm.ay<|h 0 ab)<|hm.ay<|h 1 ab
theorem Md.dc {F:Nat→Prop} {w w':ah} (h:Md F w.drew w'):Md F w w':=⟨h.os,h.output,h.size,h.dE⟩
def jv (n:Nat):ag:= .int .u8 n
theorem yV {h:Array Obj} {b:Nat} {f:Nat→ag} {mk:List Nat} {i:Nat} (hb:aB h b (mk.map f)) (hi:i < mk.length):ay h b (0 +i*1)=some (f<|mk.getD i 0):=by
 rw [Nat.mul_one,cx,hb.ay,fP,bY,bF hi]; rfl
end Go.Hb
namespace Go.Hb
abbrev Nr:Type :=List UInt8×Nat
end Go.Hb
namespace Go.Hb
theorem Ko (m:Nat):(m:Int).fdiv (2 ^ min (1:Int).toNat IntKind.u64.bits)=((m / 2:Nat):Int):=by
 show (m:Int).fdiv 2=_;rw [Int.fdiv_eq_ediv_of_nonneg _ ab]; rfl
section
variable {P:au} {N:Fm} {σ:Nat→ag} {w:ah} {ty:av} {pos :String} {af:Array bR} {g:Option (Nat×Bool)} {x y:aV} {K:(Nat→ag)→ah→Prop}
end
end Go.Hb
namespace Go.Hb
def Cp (l:List Nr) (c d:Nat):List Nr:=(l.drop c).take<|d - c
end Go.Hb
namespace Go.Hb
end Go.Hb
end
section
namespace Go.Hb
def dF:List UInt8→Nat
 | []=>0
 | b::l=>b.toNat % 128 +128 *dF l
theorem vQ:∀ (l m:List UInt8),dF (l++m)=dF l+128 ^ l.length*dF m
 | [],m=>by simp [dF]
 | b::l,m=>by
   rw [List.cons_append,dF,dF,vQ l m,dL,uf,Nat.mul_add,← Nat.mul_assoc,Nat.mul_comm 128 (128 ^ l.length)]; omega
theorem ss:∀ (l:List UInt8),dF l < 128 ^ l.length
 | []=>by simp [dF]
 | b::l=>by
   have :=ss l;rw [dF,dL,uf]; omega
def fZ (l:List UInt8):Nat:=((l.take 10).takeWhile fun b=>decide (128≤b.toNat)).length
theorem C8 {f:UInt8→Bool} :∀ {l:List UInt8} {k:Nat},(∀ j,j < k→j < l.length∧f (l.getD j 0)=true)→(l.length≤k∨f (l.getD k 0)=false)→(l.takeWhile f).length=k
 | [],k,h,_=>by
   cases k with
   | zero=>rfl
   | succ k=>have :=(h 0 ab).1; simp at this
 | b::l,0,_,A=>by
   rcases A with A | A
   · simp at A
   · simp only [tS] at A;rw [EG,A]; rfl
 | b::l,k+1,h1,A=>by
   have h0:=(h1 0 ab).2;simp only [tS] at h0;rw [EG,h0,if_pos rfl,dL,C8 (k:=k) (fun j C=>by have :=h1 (j+1) ab; simpa using this) (by simpa using A)]
theorem C1 {l:List UInt8} {n j:Nat} (h:j < n):(l.take n).getD j 0=l.getD j 0:=by
 rw [bY,List.getElem?_take_of_lt h,bY]
theorem zQ {l:List UInt8} {n j:Nat} :(l.drop n).getD j 0=l.getD (n+j) 0:=by
 rw [bY,iu,bY]
theorem jJ {s:List UInt8} {a k:Nat} (J:k≤10) (h:∀ j,j < k→a+j < s.length∧128≤(s.getD (a+j) 0).toNat) (A:k=10∨s.length≤a+k∨(s.getD (a+k) 0).toNat < 128):fZ (s.drop a)=k:=by
 unfold fZ;refine C8 (fun j E=> ?_) ?_
 · obtain ⟨h1,C⟩:=h j E;refine ⟨by rw [dv,jn]; omega,?_⟩;rw [C1 ab,zQ];exact decide_eq_true C
 · rcases A with A | A | A
   · exact .inl<|by rw [dv]; omega
   · exact .inl<|by rw [dv,jn]; omega
   · by_cases I:k=10
     · exact .inl<|by rw [dv]; omega
     · refine .inr ?_;rw [C1 ab,zQ];exact decide_eq_false ab
def a0 (s:List UInt8) (a:Nat):Except Nat (Nat×Nat):=
 if fZ (s.drop a)=10 then .error 61 else if s.length≤a+fZ (s.drop a) then .error 60
 else if (fZ (s.drop a)=9∧1 < (s.getD (a+fZ (s.drop a)) 0).toNat)∨(0 < fZ (s.drop a)∧(s.getD (a+fZ (s.drop a)) 0).toNat=0) then .error 61
 else .ok (dF ((s.drop a).take<|fZ (s.drop a)+1),a+fZ (s.drop a)+1)
section
variable {s:List UInt8} {a k n p:Nat}
theorem Cf (h:fZ (s.drop a)=10):a0 s a= .error 61:=by unfold a0; rw [if_pos h]
theorem sW (h:fZ (s.drop a)=k) (A:k≠10) (C:s.length≤a+k):a0 s a= .error 60:=by unfold a0; rw [h,if_neg A,if_pos C]
theorem oR (h:fZ (s.drop a)=k) (C:k≠10) (E:a+k < s.length) (A:(k=9∧1 < (s.getD (a+k) 0).toNat)∨(0 < k∧(s.getD (a+k) 0).toNat=0)):a0 s a= .error 61:=by
 unfold a0; rw [h,if_neg C,if_neg ab,if_pos A]
theorem sV (h:fZ (s.drop a)=k) (C:k≠10) (E:a+k < s.length) (A:¬((k=9∧1 < (s.getD (a+k) 0).toNat)∨(0 < k∧(s.getD (a+k) 0).toNat=0))):a0 s a= .ok (dF ((s.drop a).take<|k+1),a+k+1):=by
 unfold a0; rw [h,if_neg C,if_neg ab,if_neg A]
theorem jj (h:a0 s a= .ok (n,p)):a < p∧p≤s.length∧n < 18446744073709551616:=by
 unfold a0 at h;split at h
 · cases h
 · split at h
   · cases h
   · split at h
     · cases h
     · rename_i h1 M O;simp only [Except.ok.injEq,gW] at h;obtain ⟨rfl,rfl⟩:=h;refine ⟨ab,ab,?_⟩;have Z:fZ (s.drop a)≤10:=by
        unfold fZ;exact cQ (List.takeWhile_sublist _).length_le<|by rw [dv]; omega
       generalize V:fZ (s.drop a)=k at*;have L:=ss<|(s.drop a).take<|k+1;have hlen:((s.drop a).take<|k+1).length=k+1:=by rw [dv,jn]; omega
       by_cases J:k=9
       · subst J;rw [show (9:Nat)+1=10 from rfl,List.take_add_one,vQ];have A:=ss<|(s.drop a).take 9;have E:((s.drop a).take 9).length=9:=by rw [dv,jn]; omega
         rw [E] at A ⊢;have I:(s.drop a)[9]? =some (s.getD (a+9) 0):=by
          rw [iu,bY,bF ab]; rfl
         rw [I];simp only [Option.toList_some,dF];have U:(s.getD (a+9) 0).toNat≤1:=ab;have C:(128:Nat) ^ 9=9223372036854775808:=aD;rw [C] at A ⊢;omega
       · rw [hlen] at L;have :(128:Nat) ^ (k+1)≤128 ^ 9:=Nat.pow_le_pow_right aD ab;have C:(128:Nat) ^ 9=9223372036854775808:=aD;omega
end
def cj {α:Type} (f:Nat→Except Nat (α×Nat)):Nat→Nat→Except Nat (List α×Nat)
 | 0,a=> .ok ([],a)
 | k+1,a=>match cj f k a with
   | .error e=> .error e
   | .ok (l,p)=>match f p with
     | .error e=> .error e
     | .ok (x,q)=> .ok (l++ [x],q)
section
variable {α:Type} {f:Nat→Except Nat (α×Nat)} {k n a p q e:Nat} {l:List α} {x:α}
theorem lQ (h:cj f k a= .ok (l,p)) (A:f p= .ok (x,q)):cj f (k+1) a= .ok (l++ [x],q):=by rw [cj,h]; simp only [A]
theorem ig (h:cj f k a= .ok (l,p)) (A:f p= .error e) (hn:k < n):cj f n a= .error e:=by
 have h1:cj f (k+1) a= .error e:=by rw [cj,h]; simp only [A]
 obtain ⟨d,rfl⟩:∃ d,n=k+1 +d:=⟨n - (k+1),ab⟩
 clear hn
 induction d with
 | zero=>exact h1
 | succ d ih=>rw [← iw,cj,ih]
theorem iF:∀ {k:Nat} {l:List α} {p:Nat},cj f k a= .ok (l,p)→l.length=k
 | 0,l,p,h=>by cases h; rfl
 | k+1,l,p,h=>by
   rw [cj] at h;split at h
   · cases h
   · rename_i C p2 A;split at h
     · cases h
     · cases h;rw [List.length_append,iF A]; rfl
theorem mT {R:Nat→Prop} {S:α→Prop} (E:∀ p x q,R p→f p= .ok (x,q)→R q∧S x):∀ {k:Nat} {l:List α} {p:Nat},R a→cj f k a= .ok (l,p)→R p∧∀ x∈l,S x
 | 0,l,p,ha,h=>by cases h; exact ⟨ha,fun x C=>by simp at C⟩
 | k+1,l,p,ha,h=>by
   rw [cj] at h;split at h
   · cases h
   · rename_i U p2 I;obtain ⟨J,L⟩:=mT E ha I;split at h
     · cases h
     · rename_i x q C;cases h;obtain ⟨M,O⟩:=E _ _ _ J C;refine ⟨M,fun y A=> ?_⟩;rcases eC.1 A with A | A
       · exact L y A
       · rw [eR.1 A]; exact O
end
def cN (s:List UInt8) (a:Nat):Except Nat (List UInt8×Nat):=match a0 s a with
 | .error e=> .error e
 | .ok (n,p)=>if 255 < n then .error 62 else if s.length < p+n then .error 60 else .ok ((s.drop p).take n,p+n)
def gy (s:List UInt8) (a:Nat):Except Nat ((List UInt8×List UInt8)×Nat):=match cN s a with
 | .error e=> .error e
 | .ok (f,p)=>match cN s p with
   | .error e=> .error e
   | .ok (t,q)=> .ok ((f,t),q)
def dW (s:List UInt8) (n a:Nat):Except Nat ((UInt8×Int)×Nat):=if s.length≤a then .error 60 else match a0 s (a+1) with
 | .error e=> .error e
 | .ok (t,p)=>if n≤t then .error 190 else .ok ((s.getD a 0,(t:Int)),p)
def fv (s:List UInt8) (n a:Nat):Except Nat (aK×Nat):=match a0 s a with
 | .error e=> .error e
 | .ok (v,p)=>if 256 < v / 2 then .error 190 else match cj (dW s n) (v / 2) p with
   | .error e=> .error e
   | .ok (es,q)=> .ok ((decide (v % 2=1),es),q)
def cH (s:List UInt8) (a:Nat):Except Nat (List aK×Nat):=match a0 s a with
 | .error e=> .error e
 | .ok (n,p)=>if n=0∨1048576 < n then .error 190 else match cj (fv s n) n p with
   | .error e=> .error e
   | .ok (l,q)=>if shaped l=true then .ok (l,q) else .error 190
def gO (r:List UInt8×List UInt8):Bool:=decide (r.1≠[]) && (fV r.1 && decide (r.1.length≤32)) && (fV r.2 && decide (r.2.length≤32))
def dZ (n:Nat) (t:List UInt8) (rs:List (List UInt8×List UInt8)):Bool:=decide (1≤n∧n≤64∧rs.length≤256) && (decide (t= []) || decide (letE t=(t,0))) && rs.all gO
structure dS where
 least:Nat
 tr:List UInt8
 cF:List (List UInt8×List UInt8)
 an:List (List aK)
def eL:List UInt8:= [72,66,75,49]
def fW (s:List UInt8) (n:Nat) (t:List UInt8) (rs:List (List UInt8×List UInt8)) (a:Nat):Except Nat dS:=
 if dZ n t rs=true then match cj (cH s) 4 a with
  | .error e=> .error e
  | .ok (l,p)=>if p=s.length then .ok ⟨n,t,rs,l⟩ else .error 202
 else .error 201
def bI (s:List UInt8):Except Nat dS:=
 if s.take 4=eL then match a0 s 4 with
  | .error e=> .error e
  | .ok (n,p1)=>match cN s p1 with
    | .error e=> .error e
    | .ok (t,p2)=>match a0 s p2 with
      | .error e=> .error e
      | .ok (m,p3)=>if 256 < m then .error 201 else match cj (gy s) m p3 with
        | .error e=> .error e
        | .ok (rs,p4)=>fW s (if n≤64 then n else 0) t rs p4
 else .error 200
section
variable {s:List UInt8} {a n p:Nat}
theorem ot {f:List UInt8} (h:cN s a= .ok (f,p)):a < p∧p≤s.length∧f.length≤255:=by
 unfold cN at h;split at h
 · cases h
 · rename_i n q A;obtain ⟨h1,C,_⟩:=jj A;split at h
   · cases h
   · split at h
     · cases h
     · cases h;exact ⟨ab,ab,by rw [dv]; omega⟩
theorem JN {r:List UInt8×List UInt8} (h:gy s a= .ok (r,p)):a < p∧p≤s.length∧r.1.length≤255∧r.2.length≤255:=by
 unfold gy at h;split at h
 · cases h
 · rename_i f q I;obtain ⟨h1,L,A⟩:=ot I;split at h
   · cases h
   · rename_i t O J;obtain ⟨M,C,E⟩:=ot J;cases h;exact ⟨ab,C,A,E⟩
theorem G1 {e:UInt8×Int} (h:dW s n a= .ok (e,p)):a < p∧p≤s.length∧0≤e.2∧e.2 < n:=by
 unfold dW at h;split at h
 · cases h
 · split at h
   · cases h
   · rename_i t q C;obtain ⟨h1,A,_⟩:=jj C;split at h
     · cases h
     · cases h;exact ⟨ab,A,by show (0:Int)≤(t:Int); omega,by show (t:Int) < n; omega⟩
theorem qJ {x:aK} (h:fv s n a= .ok (x,p)):a < p∧p≤s.length∧x.2.length≤256∧∀ e∈x.2,0≤e.2∧e.2 < n:=by
 unfold fv at h;split at h
 · cases h
 · rename_i v q L;obtain ⟨h1,I,_⟩:=jj L;split at h
   · cases h
   · split at h
     · cases h
     · rename_i es Z A;have V:=iF A;obtain ⟨⟨U,J⟩,h5⟩:=mT (R:=fun p=>q≤p∧p≤s.length) (S:=fun e:UInt8×Int=>0≤e.2∧e.2 < n) (fun p x q' hr M=>by
        obtain ⟨O,C,E⟩:=G1 M;exact ⟨⟨ab,C⟩,E⟩) ⟨aP _,I⟩ A
       cases h;exact ⟨ab,J,by show es.length≤256; omega,h5⟩
theorem Co {l:List aK} (h:cH s a= .ok (l,p)):a < p∧p≤s.length∧shaped l=true∧l.length≤1048576∧∀ x∈l,x.2.length≤256∧∀ e∈x.2,0≤e.2∧e.2 < l.length:=by
 unfold cH at h;split at h
 · cases h
 · rename_i n q M;obtain ⟨h1,I,_⟩:=jj M;split at h
   · cases h
   · split at h
     · cases h
     · rename_i aa ac A;have L:=iF A;obtain ⟨⟨Z,J⟩,h5⟩:=mT (R:=fun p=>q≤p∧p≤s.length) (S:=fun x:aK=>x.2.length≤256∧∀ e∈x.2,0≤e.2∧e.2 < n) (fun p x q' hr U=>by
        obtain ⟨V,C,E⟩:=qJ U;exact ⟨⟨ab,C⟩,E⟩) ⟨aP _,I⟩ A
       split at h
       · cases h;rename_i O;exact ⟨ab,J,O,ab,by rw [L]; exact h5⟩
       · cases h
structure dS.Is (s:List UInt8) (b:dS):Prop where
 least:1≤b.least∧b.least≤64
 Ja:b.cF.length≤256
 cF:∀ r∈b.cF,r.1≠[]∧r.1.length≤32∧r.2.length≤32
 tr:b.tr.length≤255
 sB:b.an.length=4
 an:∀ l∈b.an,shaped l=true∧l.length≤1048576∧∀ x∈l,x.2.length≤256∧∀ e∈x.2,0≤e.2∧e.2 < l.length
theorem rR {b:dS} (h:bI s= .ok b):b.Is s:=by
 unfold bI at h;split at h
 · split at h
   · cases h
   · rename_i n p1 h1;split at h
     · cases h
     · rename_i t p2 L;split at h
       · cases h
       · rename_i m p3 O;split at h
         · cases h
         · split at h
           · cases h
           · rename_i rs p4 U;generalize (if n≤64 then n else 0)=n0 at h;unfold fW at h;split at h
             · rename_i A;split at h
               · cases h
               · rename_i l p5 C;split at h
                 · cases h;unfold dZ at A;simp only [aZ,decide_eq_true_eq,List.all_eq_true] at A;obtain ⟨⟨⟨E,I,J⟩,_⟩,g4⟩:=A;refine ⟨⟨E,I⟩,J,fun r hr=> ?_,(ot L).2.2,iF C,(mT (R:=fun _=>True) (fun p x q _ M=>⟨trivial,(Co M).2.2⟩) trivial C).2⟩;have :=g4 r hr;unfold gO at this;simp only [aZ,decide_eq_true_eq] at this;exact ⟨this.1.1,this.1.2.2,this.2.2⟩
                 · cases h
             · cases h
 · cases h
end
end Go.Hb
end
section
namespace Go.Hb
def dV {α:Type} (n:Nat) (base:Nat→α) (stp:Nat→(Nat→α)→α):Nat→Nat→α
 | 0,i=>base i
 | j+1,i=>if i=n - (j+1) then stp i (dV n base stp j) else dV n base stp j i
def eY {α:Type} (base:Nat→α) (stp:Nat→(Nat→α)→α):Nat→Nat→α
 | 0,k=>base k
 | j+1,k=>if k=j+1 then stp k (eY base stp j) else eY base stp j k
section
variable {α:Type} {n:Nat} {base:Nat→α} {stp:Nat→(Nat→α)→α}
theorem zN:∀ {j i:Nat},j≤n→i < n - j→dV n base stp j i=base i
 | 0,i,_,_=>rfl
 | j+1,i,hj,hi=>by
   rw [dV,if_neg ab];exact zN ab ab
theorem uU:∀ {j i:Nat},n≤i→j≤n→dV n base stp j i=base i
 | 0,i,_,_=>rfl
 | j+1,i,hi,hj=>by
   rw [dV,if_neg ab];exact uU hi ab
theorem uV {j i:Nat} (hi:n - j≤i):∀ {d:Nat},j+d≤n→dV n base stp (j+d) i=dV n base stp j i
 | 0,_=>rfl
 | d+1,h=>by
   rw [← iw,dV,if_neg ab];exact uV hi ab
theorem zM (loc:∀ i T A,(∀ k,i < k→k≤n→T k=A k)→stp i T=stp i A) {i:Nat} (hi:i < n):dV n base stp n i=stp i (dV n base stp n):=by
 have h1:dV n base stp n i=dV n base stp (n - i) i:=by
  have :=uV (n:=n) (base:=base) (stp:=stp) (j:=n - i) (i:=i) ab (d:=i) ab;rw [show n - i+i=n by omega] at this;exact this
 rw [h1];obtain ⟨j,C⟩:∃ j,n - i=j+1:=⟨n - i - 1,ab⟩
 rw [C,dV,if_pos ab];refine loc i _ _ fun k E I=> ?_;have :=uV (n:=n) (base:=base) (stp:=stp) (j:=j) (i:=k) ab (d:=n - j) ab;rw [show j+(n - j)=n by omega] at this;exact this.symm
theorem uW {j k:Nat} (A:k≤j):∀ {d:Nat},eY base stp (j+d) k=eY base stp j k
 | 0=>rfl
 | d+1=>by
   rw [← iw,eY,if_neg ab];exact uW A
theorem uX:∀ {j:Nat},eY base stp j 0=base 0
 | 0=>rfl
 | j+1=>by rw [eY,if_neg ab]; exact uX
theorem zP:∀ {j k:Nat},j < k→eY base stp j k=base k
 | 0,k,_=>rfl
 | j+1,k,h=>by rw [eY,if_neg ab]; exact zP ab
theorem zO (loc:∀ k T A,(∀ i,i < k→T i=A i)→stp k T=stp k A) {k:Nat} (h0:0 < k) (C:k≤n):eY base stp n k=stp k (eY base stp n):=by
 have h1:=uW (base:=base) (stp:=stp) (j:=k) (k:=k) (aP _) (d:=n - k);rw [show k+(n - k)=n by omega] at h1;rw [h1];obtain ⟨j,rfl⟩:∃ j,k=j+1:=⟨k - 1,ab⟩
 rw [eY,if_pos rfl];refine loc _ _ _ fun i hi=> ?_;have :=uW (base:=base) (stp:=stp) (j:=j) (k:=i) ab (d:=n - j);rw [show j+(n - j)=n by omega] at this;exact this.symm
end
theorem vn {α β:Type} (p:β→Bool) (f:α→β→α):∀ (l:List β) (a:α),(l.filter p).foldl f a=l.foldl (fun a b=>if p b=true then f a b else a) a
 | [],_=>rfl
 | b::l,a=>by
   rw [List.filter_cons,iR];cases h:p b
   · simp only [lk,if_false]; exact vn p f l a
   · simp only [if_true,iR]; exact vn p f l _
theorem p7 {α β:Type} {f g:α→β→α} :∀ {l:List β} {a:α},(∀ x∈l,∀ a,f a x=g a x)→l.foldl f a=l.foldl g a
 | [],_,_=>rfl
 | b::l,a,h=>by
   rw [iR,iR,h b gV];exact p7 fun x A=>h x<|gU _ A
theorem foldl_rel {α β A:Type} {f:α→A→α} {g:β→A→β} (R:α→β→Prop):∀ {l:List A} {a:α} {b:β},R a b→(∀ x∈l,∀ a b,R a b→R (f a x) (g b x))→R (l.foldl f a) (l.foldl g b)
 | [],_,_,h,_=>h
 | x::l,a,b,h,hs=>by
   rw [iR,iR];exact foldl_rel R (hs x gV _ _ h) fun y C=>hs y<|gU _ C
def da:Nat:=1099511627776
section
variable (pc:Nat→Nat→Bool) (n:Nat)
def jE (i:Nat):List Nat:=(fy (i+1)<|n - i).filter<|pc i
def bt (i k:Nat):Bool:=pc i k && !(decide (i=0) && decide (k=n))
def fF (i:Nat) (T:Nat→Nat×Nat) (m:Nat×Nat) (k:Nat):Nat×Nat:=
 if (k < n∧(T k).1=0)∨(i=0∧k=n) then m else (if m.1=0∨(T k).1 +1≤m.1 then (T k).1 +1 else m.1,min (m.2+(T k).2) (da+1))
def j7 (i:Nat) (T:Nat→Nat×Nat):Nat×Nat:=(jE pc n i).foldl (fF n i T) (0,0)
def lR (i:Nat):Nat×Nat:=(0,if i=n then 1 else 0)
def jC:Nat→Nat×Nat:=dV n (lR n) (j7 pc n) n
def lS (k:Nat) (T:Nat→Nat) (m i:Nat):Nat:=if pc i k=true∧(0 < i∨k < n) then (if da < m+T i then da+1 else m+T i) else m
def lT (k:Nat) (T:Nat→Nat):Nat:=(fw k).foldl (lS pc n k T) 0
def jW:Nat→Nat:=eY (fun k=>if k=0 then 1 else 0) (lT pc n) n
def pT (i:Nat) (T:Nat→Nat):Nat:=(fy (i+1)<|n - i).foldl (fun m k=>if bt pc n i k=true then m+T k else m) 0
def eB:Nat→Nat:=dV n (fun i=>if i=n then 1 else 0) (pT pc n) n
def pV (k:Nat) (T:Nat→Nat):Nat:=(fw k).foldl (fun m i=>if bt pc n i k=true then m+T i else m) 0
def eF:Nat→Nat:=eY (fun k=>if k=0 then 1 else 0) (pV pc n) n
end
section
variable {pc:Nat→Nat→Bool} {n:Nat}
theorem qn {i k:Nat} :k∈jE pc n i↔i < k∧k≤n∧pc i k=true :=by
 unfold jE;rw [pC,ys];constructor
 · rintro ⟨⟨h1,C⟩,A⟩; exact ⟨ab,ab,A⟩
 · rintro ⟨h1,C,A⟩; exact ⟨⟨ab,ab⟩,A⟩
theorem vI {i:Nat} (hi:i < n):jC pc n i=j7 pc n i (jC pc n):=zM (stp:=j7 pc n) (fun i T E h=>p7 fun k C m=>by
 obtain ⟨h1,A,_⟩:=qn.1 C;unfold fF; rw [h k h1 A]) hi
theorem zR {i:Nat} (hi:i < n):eB pc n i=pT pc n i (eB pc n):=zM (stp:=pT pc n) (fun i T C h=>p7 fun k A m=>by
 rw [ys] at A;rw [h k ab ab]) hi
theorem H6 {k:Nat} (h0:0 < k) (A:k≤n):jW pc n k=lT pc n k (jW pc n):=zO (stp:=lT pc n) (fun k T C h=>p7 fun i hi m=>by
 rw [jo] at hi;unfold lS; rw [h i hi]) h0 A
theorem zT {k:Nat} (h0:0 < k) (A:k≤n):eF pc n k=pV pc n k (eF pc n):=zO (stp:=pV pc n) (fun k T C h=>p7 fun i hi m=>by
 rw [jo] at hi;rw [h i hi]) h0 A
theorem sm:jC pc n n=(0,1):=by unfold jC; rw [uU (aP _) (aP _)]; simp [lR]
theorem uZ:eB pc n n=1:=by unfold eB; rw [uU (aP _) (aP _)]; simp
theorem H7:jW pc n 0=1:=by unfold jW; rw [uX]; rfl
theorem zV:eF pc n 0=1:=by unfold eF; rw [uX]; rfl
theorem down (P:Nat→Prop) (he:P n) (E:∀ i,i < n→(∀ k,i < k→k≤n→P k)→P i):∀ i,i≤n→P i:=fun i hi=>by
 have :∀ d i,i≤n→n - i≤d→P i:=fun d=>by
  induction d with
  | zero=>intro i h1 A; rw [show i=n by omega]; exact he
  | succ d ih=>
    intro i h1 A;by_cases h:i=n
    · rw [h]; exact he
    · exact E i ab fun k I C=>ih k C ab
 exact this (n - i) i hi<|aP _
theorem LA:∀ i,i≤n→(jC pc n i).2=min (eB pc n i) (da+1)∧(i < n→((jC pc n i).1=0↔eB pc n i=0)):=by
 refine down _ ⟨by rw [sm,uZ]; rfl,fun h=>by omega⟩ fun i hi ih=> ?_;rw [vI hi,zR hi];unfold j7 pT jE;rw [vn];have :=foldl_rel (f:=fun a b=>if pc i b=true then fF n i (jC pc n) a b else a) (g:=fun m k=>if bt pc n i k=true then m+eB pc n k else m) (fun (a:Nat×Nat) (b:Nat)=>a.2=min b (da+1)∧(a.1=0↔b=0)) (l:=fy (i+1)<|n - i) (a:=(0,0)) (b:=0) ⟨by simp,by simp⟩ (fun k M a b C=>by
  rw [ys] at M;obtain ⟨h1,I⟩:=ih k ab ab;have J:k=n→eB pc n k=1∧(jC pc n k).1=0:=fun e=>by rw [e,uZ,sm]; exact ⟨rfl,rfl⟩
  unfold fF bt;cases hp:pc i k
  · simp only [lk,if_false,DN]; exact C
  · by_cases E:i=0∧k=n
    · obtain ⟨rfl,rfl⟩:=E;simp only [if_true,and_self,or_true,decide_true,Bool.and_true,Bool.not_true,tI,lk,if_false]; exact C
    · have L:(true && !(decide (i=0) && decide (k=n)))=true :=by
       simp only [mg,jm,DM,decide_eq_false_iff_not];by_cases h:i=0
       · exact .inr fun e=>E ⟨h,e⟩
       · exact .inl h
      rw [L];simp only [if_true];by_cases A:k < n∧(jC pc n k).1=0
      · rw [if_pos (.inl A)];have :=(I A.1).1 A.2;rw [this]; exact C
      · rw [if_neg (by intro h; rcases h with h | h; exact A h; exact E h)];have U:eB pc n k≠0:=fun e=>by
         by_cases O:k=n
         · have :=(J O).1; omega
         · exact A ⟨ab,(I ab).2 e⟩
        refine ⟨?_,?_⟩
        · show min (a.2+(jC pc n k).2) _=_;rw [C.1,h1]; omega
        · show (if a.1=0∨(jC pc n k).1 +1≤a.1 then (jC pc n k).1 +1 else a.1)=0↔b+eB pc n k=0;split
          · omega
          · omega)
 exact ⟨this.1,fun _=>this.2⟩
theorem Lz:∀ k,k≤n→jW pc n k=min (eF pc n k) (da+1):=by
 intro k
 induction k using ER with
 | ind k ih=>
   intro E;rcases Nat.eq_zero_or_pos k with rfl | h0
   · rw [H7,zV]; rfl
   · rw [H6 h0 E,zT h0 E];unfold lT pV;refine foldl_rel (fun (a b:Nat)=>a=min b (da+1)) (by simp) fun i hi a b A=> ?_;rw [jo] at hi;have h1:=ih i hi ab;unfold lS bt;cases hp:pc i k
     · simp only [lk,false_and,if_false,DN]; exact A
     · by_cases C:i=0∧k=n
       · obtain ⟨rfl,rfl⟩:=C;rw [if_neg (by intro h; omega),if_neg (by simp)]; exact A
       · have I:(true && !(decide (i=0) && decide (k=n)))=true :=by
          simp only [mg,jm,DM,decide_eq_false_iff_not];by_cases h:i=0
          · exact .inr fun e=>C ⟨h,e⟩
          · exact .inl h
         rw [I,if_pos ⟨rfl,ab⟩];simp only [if_true];subst A;rw [h1];split <;> omega
theorem vp {β:Type} (p:β→Bool) (f:β→Nat):∀ (l:List β) (a:Nat),l.foldl (fun m x=>if p x=true then m+f x else m) a=a+(l.map fun x=>if p x=true then f x else 0).sum
 | [],a=>by simp
 | x::l,a=>by
   rw [iR,vp p f l,ei,pE];split <;> omega
def jh (pc:Nat→Nat→Bool) (n c:Nat):Nat:=((fw<|c+1).map fun i=>((fy (c+1)<|n - c).map fun k=>if bt pc n i k=true then eF pc n i*eB pc n k else 0).sum).sum
theorem CW {β:Type} (f g:β→Nat):∀ (l:List β),(l.map fun x=>f x+g x).sum=(l.map f).sum+(l.map g).sum
 | []=>rfl
 | x::l=>by
   simp only [ei,pE,CW f g l]; omega
theorem CU {β:Type} (a:Nat) (f:β→Nat):∀ (l:List β),(l.map fun x=>a*f x).sum=a*(l.map f).sum
 | []=>by simp
 | x::l=>by
   simp only [ei,pE,CU a f l,Nat.mul_add]
theorem CV {β:Type} (a:Nat) (f:β→Nat):∀ (l:List β),(l.map fun x=>f x*a).sum=(l.map f).sum*a
 | []=>by simp
 | x::l=>by
   simp only [ei,pE,CV a f l,Nat.add_mul]
theorem zS {i:Nat} (hi:i < n):eB pc n i=((fy (i+1)<|n - i).map fun k=>if bt pc n i k=true then eB pc n k else 0).sum:=by
 rw [zR hi]; unfold pT; rw [vp,cx]
theorem zU {k:Nat} (h0:0 < k) (A:k≤n):eF pc n k=((fw k).map fun i=>if bt pc n i k=true then eF pc n i else 0).sum:=by
 rw [zT h0 A]; unfold pV; rw [vp,cx]
theorem Js {a d:Nat} (h:0 < d):fy a d=a::fy (a+1) (d - 1):=by
 obtain ⟨e,rfl⟩:∃ e,d=e+1:=⟨d - 1,ab⟩
 rfl
theorem Jl {c:Nat} (I:c+1 < n):jh pc n c=jh pc n (c+1):=by
 have h1:jh pc n c=((fw<|c+1).map fun i=>(if bt pc n i (c+1)=true then eF pc n i*eB pc n (c+1) else 0)+((fy (c+2)<|n - (c+1)).map fun k=>if bt pc n i k=true then eF pc n i*eB pc n k else 0).sum).sum:=by
  unfold jh;congr 1;refine nS fun i _=> ?_;rw [Js ab,ei,pE,show n - c - 1=n - (c+1) by omega]
 have A:jh pc n (c+1)=((fw<|c+1).map fun i=>((fy (c+2)<|n - (c+1)).map fun k=>if bt pc n i k=true then eF pc n i*eB pc n k else 0).sum).sum+((fy (c+2)<|n - (c+1)).map fun k=>if bt pc n (c+1) k=true then eF pc n (c+1)*eB pc n k else 0).sum:=by
  unfold jh;rw [List.range_succ (n:=c+1),List.map_append,List.sum_append];simp
 have C:((fw<|c+1).map fun i=>if bt pc n i (c+1)=true then eF pc n i*eB pc n (c+1) else 0).sum=eF pc n (c+1)*eB pc n (c+1):=by
  rw [zU (k:=c+1) ab ab,← CV];congr 1;refine nS fun i _=> ?_;split <;> simp
 have E:((fy (c+2)<|n - (c+1)).map fun k=>if bt pc n (c+1) k=true then eF pc n (c+1)*eB pc n k else 0).sum=eF pc n (c+1)*eB pc n (c+1):=by
  rw [zS (i:=c+1) I,← CU];congr 1;refine nS fun i _=> ?_;split <;> simp
 rw [h1,A,CW,C,E]; omega
theorem GX (h0:0 < n):eB pc n 0=eF pc n n:=by
 have h1:jh pc n 0=eB pc n 0:=by
  unfold jh;rw [zS h0];simp only [cx,List.range_one,ei,List.map_nil,pE,List.sum_nil,Nat.add_zero,zV,Nat.one_mul]
 have A:jh pc n (n - 1)=eF pc n n:=by
  unfold jh;rw [zU h0 (aP _),show n - (n - 1)=1 by omega,show n - 1 +1=n by omega];congr 1;refine nS fun i _=> ?_;simp [uZ]
 rw [← h1,← A];have :∀ d,d≤n - 1→jh pc n 0=jh pc n d:=fun d=>by
  induction d with
  | zero=>intro _; rfl
  | succ d ih=>intro C; rw [ih ab,Jl ab]
 exact this _<|aP _
theorem LB (h0:0 < n):(jC pc n 0).2=jW pc n n:=by
 rw [(LA 0<|Nat.zero_le _).1,Lz n (aP _),GX h0]
def cD (pc:Nat→Nat→Bool) (n i k:Nat):Bool:=decide ((0 < i∨k < n)∧(k=n∨0 < (jC pc n k).1)∧(jC pc n k).1 +1=(jC pc n i).1)
def bX (pc:Nat→Nat→Bool) (n i:Nat):Nat:=(((jE pc n i).filter<|cD pc n i).getLast?).getD n
theorem Hs {i:Nat} (hi:i < n):(jC pc n i).1≠0→∃ k∈jE pc n i,cD pc n i k=true :=by
 rw [vI hi];unfold j7;have I:∀ k∈jE pc n i,k≤n:=fun k A=>(qn.1 A).2.1;have :∀ (l:List Nat) (m:Nat×Nat),(∀ k∈l,k∈jE pc n i)→(l.foldl (fF n i<|jC pc n) m).1≠0→(l.foldl (fF n i<|jC pc n) m).1=m.1∨∃ k∈l,((0 < i∨k < n)∧(k=n∨0 < (jC pc n k).1)∧(jC pc n k).1 +1=(l.foldl (fF n i<|jC pc n) m).1):=fun l=>by
  induction l with
  | nil=>intro m _ _; exact .inl rfl
  | cons k l ih=>
    intro m hm C;rw [iR] at C ⊢;rcases ih _ (fun q E=>hm q<|gU _ E) C with h | ⟨q,E,h⟩
    · rw [h];unfold fF;have :=I k<|hm k gV;split
      · exact .inl U
      · rename_i h1;show (if m.1=0∨(jC pc n k).1 +1≤m.1 then (jC pc n k).1 +1 else m.1)=m.1∨_;split
        · refine .inr ⟨k,gV,ab,ab,?_⟩;rfl
        · exact .inl U
    · exact .inr ⟨q,gU _ E,h⟩
 intro C;rcases this _ (0,0) (fun k A=>A) C with h | ⟨k,A,h⟩
 · exact absurd h C
 · refine ⟨k,A,?_⟩;unfold cD;rw [vI hi];exact decide_eq_true h
theorem wu {i:Nat} (hi:i < n) (E:(jC pc n i).1≠0):bX pc n i∈jE pc n i∧cD pc n i (bX pc n i)=true :=by
 obtain ⟨k,I,C⟩:=Hs hi E;have A:(jE pc n i).filter (cD pc n i)≠[]:=fun e=>by
  have :=pC.2 ⟨I,C⟩;rw [e] at this; cases this
 unfold bX;rw [Ey A];exact pC.1<|List.getLast_mem A
theorem Jb {i k:Nat} (E:k∈jE pc n i) (A:cD pc n i k=true):k≤bX pc n i:=by
 have hm:=pC.2 ⟨E,A⟩;have I:(jE pc n i).filter (cD pc n i)≠[]:=fun e=>by rw [e] at hm; cases hm
 have J:((jE pc n i).filter<|cD pc n i).Pairwise (· < ·):=((List.pairwise_lt_range' (s:=i+1) (n:=n - i)).filter _).filter _;unfold bX;rw [Ey I,List.getLast_eq_getElem];obtain ⟨j,C,rfl⟩:=tW.1 hm;simp only [Option.getD_some];by_cases h:j=((jE pc n i).filter<|cD pc n i).length - 1
 · subst h; exact aP _
 · exact Nat.le_of_lt<|pD.1 J _ _ C ab ab
def gu (pc:Nat→Nat→Bool) (n i:Nat):Prop :=i=n∨(i < n∧(jC pc n i).1≠0)
theorem gu.next {i:Nat} (hi:i < n) (h:gu pc n i):i < bX pc n i∧bX pc n i≤n∧pc i (bX pc n i)=true∧(0 < i∨bX pc n i < n)∧(jC pc n<|bX pc n i).1 +1=(jC pc n i).1∧gu pc n (bX pc n i):=by
 have M:(jC pc n i).1≠0:=by
  rcases h with h | h
  · omega
  · exact h.2
 obtain ⟨h1,A⟩:=wu hi M;obtain ⟨C,E,I⟩:=qn.1 h1;unfold cD at A;obtain ⟨J,O,L⟩:=of_decide_eq_true A;refine ⟨C,E,I,J,L,?_⟩;unfold gu;omega
def iY (pc:Nat→Nat→Bool) (n:Nat):Nat→Nat→List (Nat×Nat)
 | 0,_=> []
 | f+1,i=>if i < n then (i,bX pc n i)::iY pc n f (bX pc n i) else []
theorem uL:∀ (f A i:Nat),gu pc n i→n - i≤f→n - i≤A→iY pc n f i=iY pc n A i
 | 0,0,_,_,_,_=>rfl
 | 0,A+1,i,_,h1,_=>by unfold iY; rw [if_neg ab]
 | f+1,0,i,_,_,h2=>by
   show iY pc n (f+1) i= []
   unfold iY; rw [if_neg ab]
 | f+1,A+1,i,ho,h1,h2=>by
   rw [iY,iY];split
   · rename_i hi;obtain ⟨E,I,_,_,_,C⟩:=ho.next hi
     rw [uL f A _ C ab ab]
   · rfl
theorem Gn {i:Nat} (f:Nat) (h:¬i < n):iY pc n f i= []:=by
 cases f
 · rfl
 · unfold iY; rw [if_neg h]
def iA (pc:Nat→Nat→Bool) (n i:Nat):List (Nat×Nat):=iY pc n (n - i) i
theorem uM:iA pc n n= []:=Gn _ ab
theorem uN {i:Nat} (hi:i < n) (h:gu pc n i):iA pc n i=(i,bX pc n i)::iA pc n (bX pc n i):=by
 obtain ⟨C,E,_,_,_,A⟩:=h.next hi
 unfold iA;rw [uL (n - i) (n - i - 1 +1) i h ab ab,iY,if_pos hi,uL (n - i - 1) (n - bX pc n i) _ A ab ab]
theorem Gr (P:Nat→List (Nat×Nat)→Prop) (he:P n []) (U:∀ i,i < n→gu pc n i→i < bX pc n i→bX pc n i≤n→pc i (bX pc n i)=true→(0 < i∨bX pc n i < n)→(jC pc n<|bX pc n i).1 +1=(jC pc n i).1→P (bX pc n i) (iA pc n<|bX pc n i)→P i ((i,bX pc n i)::iA pc n (bX pc n i))) {i:Nat} (h:gu pc n i):P i (iA pc n i):=by
 have :∀ d i,n - i≤d→gu pc n i→P i (iA pc n i):=fun d=>by
  induction d with
  | zero=>
    intro i O A;have :i=n:=by unfold gu at A; omega
    rw [this,uM]; exact he
  | succ d ih=>
    intro i O A;by_cases hi:i < n
    · obtain ⟨C,E,I,J,L,M⟩:=A.next hi
      rw [uN hi A];exact U i hi A C E I J L<|ih _ ab M
    · have :i=n:=by unfold gu at A; omega
      rw [this,uM]; exact he
 exact this (n - i) i (aP _) h
theorem Gs {i:Nat} (h:gu pc n i):(iA pc n i).length=(jC pc n i).1:=by
 refine Gr (fun i l=>l.length=(jC pc n i).1) (by rw [sm]; rfl) (fun i hi L C E I J A ih=> ?_) h;rw [dL,ih,A]
end
section
variable {pc:Nat→Nat→Bool} {n i j:Nat} {T:Nat→Nat×Nat}
theorem H8 (hT:∀ k,(T k).1≤j) {m:Nat×Nat} (hm:m.1≤j+1∧m.2≤da+1) (k:Nat):(fF n i T m k).1≤j+1∧(fF n i T m k).2≤da+1:=by
 have :=hT k;unfold fF;split
 · exact hm
 · refine ⟨?_,Nat.min_le_right _ _⟩;show (if m.1=0∨(T k).1 +1≤m.1 then (T k).1 +1 else m.1)≤j+1;split <;> omega
theorem vJ (hT:∀ k,(T k).1≤j):∀ (l:List Nat) (m:Nat×Nat),m.1≤j+1∧m.2≤da+1→(l.foldl (fF n i T) m).1≤j+1∧(l.foldl (fF n i T) m).2≤da+1
 | [],_,hm=>hm
 | k::l,_,hm=>vJ hT l _<|H8 hT hm k
theorem uY:∀ (j k:Nat),(dV n (lR n) (j7 pc n) j k).1≤j∧(dV n (lR n) (j7 pc n) j k).2≤da+1
 | 0,k=>by
   unfold dV lR;refine ⟨aP _,?_⟩;show (if k=n then 1 else 0)≤da+1;split <;> simp [da]
 | j+1,k=>by
   have ih:=uY j;rw [dV];split
   · exact vJ (fun k=>(ih k).1) _ _ ⟨by simp,by simp⟩
   · have :=ih k; omega
theorem GS (A:j≤n) (hi:i < n - j):dV n (lR n) (j7 pc n) j i=(0,0):=by
 rw [zN A hi];unfold lR;rw [if_neg ab]
end
def cB (n:Nat) (g:Nat→Nat):List Nat:=(fw<|n+1).map g
theorem wZ (n:Nat) (g:Nat→Nat):(cB n g).length=n+1:=by simp [cB]
theorem jQ {n k:Nat} (g:Nat→Nat) (A:k≤n):(cB n g)[k]? =some (g k):=by
 unfold cB;rw [fP,List.getElem?_range ab]; rfl
theorem wY {n:Nat} {g h:Nat→Nat} (e:∀ k,k≤n→g k=h k):cB n g=cB n h:=by
 unfold cB;exact nS fun k A=>e k<|by rw [jo] at A; omega
theorem sT {n i:Nat} (g:Nat→Nat) (a:Nat):(cB n g).set i a=cB n fun k=>if k=i then a else g k:=by
 apply List.ext_getElem?;intro k;by_cases A:k≤n
 · rw [jQ _ A,List.getElem?_set,jQ _ A,wZ];by_cases h:i=k
   · subst h; rw [if_pos rfl,if_pos ab,if_pos rfl]
   · rw [if_neg h,if_neg (fun e=>h e.symm)]
 · have h1:=wZ n fun k=>if k=i then a else g k
   have C:=wZ n g;rw [gF (by rw [gn]; omega),gF ab]
theorem JM (n:Nat):cW (n+1) 0=cB n fun _=>0:=by
 unfold cB;rw [List.map_const',List.length_range]
end Go.Hb
end
section
namespace Go.Hb
section
variable {P:au} {N:Fm} {σ:Nat→ag} {w:ah} {dst:Option Nat} {ty:av} {pos :String} {af:Array bR} {g:Option (Nat×Bool)} {x y:aV}
theorem va (d:Nat) {t e:av} {a:Option Addr} {n c:Nat} (hu:P.underlying t=some (.slice e)):(Op.equalIn (d+1) t (.slice a n c)<|.slice none 0 0).run P w= .ok a.isNone w:=by
 cases a <;> simp [Op.equalIn,bu hu]
theorem Ha {t e:av} {a:Option Addr} {n c:Nat} (hu:P.underlying t=some (.slice e)):(Op.equal t (.slice a n c)<|.slice none 0 0).run P w= .ok a.isNone w:=va 9999 hu
theorem vb {t E e:av} {a:Option Addr} {n c:Nat} (hu:P.underlying t=some (.slice e)) (A:ev N σ x= .slice a n c) (C:ev N σ y= .slice none 0 0):
 (execOp (ev N σ) ⟨dst,.binOp .eql t x y E,ty,pos,af,g⟩).run P w= .ok (.value<|.bool a.isNone) w:=by
 have h:(binOp .eql t (.slice a n c)<|.slice none 0 0).run P w= .ok (.bool a.isNone) w:=by
  simp only [binOp]; simp [Ha hu]
 simp [execOp,A,C,eqGuard,h]
end
section
variable {P:au} {N:Fm} {σ:Nat→ag} {w:ah} {dst:Option Nat} {ty:av} {pos :String} {af:Array bR} {g:Option (Nat×Bool)} {x y z u:aV} {K:(Nat→ag)→ah→Prop}
theorem Kp {t n len cap:Nat} {a:Option Addr} {k I J:bw} {i j m:Nat} (he:cS P t=some n) (A:ev N σ x= .slice a len cap) (C:ev N σ y= .int k (i:Nat)) (E:ev N σ z= .int I (j:Nat)) (hu:ev N σ u= .int J (m:Nat)) (h:i≤j∧j≤m∧m≤cap):
 (execOp (ev N σ) ⟨dst,.slice t x (some y) (some z) (some u),ty,pos,af,g⟩).run P w= .ok (.value<|.slice (eb a m i n) (j - i)<|m - i) w:=by
 have h1:(0:Int)≤(i:Int):=ab;have L:(0:Int)≤(j:Int):=ab;have M:(0:Int)≤(m:Int):=ab;unfold cS at he;cases hd:P.underlying t with
 | none=>rw [hd] at he; cases he
 | some d=>
   rw [hd] at he;cases d <;> first | (cases he; done) | skip
   rename_i e;cases hi':P.info? e with
   | none=>simp [hi'] at he
   | some q=>
     simp only [hi',fA,bL] at he;subst he;simp only [execOp,nJ,Instr.slice,A,C,E,hu,fA,kr,Instr.sliceBound,asIntOf];simp [bu hd,db hi',sizeOf,h.1,h.2.1,h.2.2,eb]
end
end Go.Hb
end
section
namespace Go.Hb
section
variable {P:au} {N:Fm} {σ:Nat→ag} {w:ah} {ops:Array Oper} {Q:Exit→(Nat→ag)→ah→Prop} {S:ah→Prop} {fuel:Nat} {listed:Array Bool}
theorem kW (a:Array Bool) (i j:Nat):(a.setIfInBounds i true).setIfInBounds j true =(a.setIfInBounds j true).setIfInBounds i true :=by
 apply Array.ext
 · simp
 · intro k h1 A
   grind
theorem De {i s:Nat} {a:ag} :aU σ i a s=if s=i then a else σ s:=by
 unfold aU;by_cases h:s=i
 · subst h; simp
 · rw [if_neg h];cases hb:Nat.beq s i
   · rfl
   · exact absurd (Nat.eq_of_beq_eq_true hb) h
theorem kZ {i j:Nat} (h:i≠j) (a b:ag):aU (aU σ i a) j b=aU (aU σ j b) i a:=by
 funext s;simp only [De];by_cases h1:s=j
 · subst h1;rw [if_pos rfl,if_neg (Ne.symm h),if_pos rfl]
 · rw [if_neg h1,if_neg h1]
theorem kn {rs:List Nat} (hr:(dq .any ops listed==rs)=true) (I:rs≠[]) (h:∀ i∈rs,∃ o,ops[i]? =some o∧o.guard=none∧bV P N o σ w (fun σ w=>S w∧cg P N ops Q S fuel (listed.setIfInBounds i true) σ w)):cg P N ops Q S (fuel+1) listed σ w:=by
 unfold cg;refine wpAnyH_all (rs:=rs) (by simpa using hr) I ?_;intro q J;obtain ⟨o,h1,C,E⟩:=h q J;unfold wpOp;simp only [h1];rw [if_pos (fj _ C _)];exact .inl<|o8 E fun _ _ A=>by unfold cg at A; exact A
def rz (P:au) (N:Fm) (F:List Nat) (σ:Nat→ag) (o:Oper) (d:Nat) (V:Nat→ag) (R:Nat→ah→Prop):Prop :=
 ∀ (σ':Nat→ag) (w':ah) (K:(Nat→ag)→ah→Prop),(∀ s,s∉F→σ' s=σ s)→(∀ b A,b=w'.heap.size→Nw w' A→R b A→K (aU σ' d<|V b) A)→bV P N o σ' w' K
theorem wq {F:List Nat} {d t e bytes n:Nat} {ty:av} {pos :String} {af:Array bR} {x y:aV} {V U:bw} {zv:ag} (J:dG P t e 1 bytes=true) (O:zeroOf P e=some (some [zv])) (h1:zv.oneCell'=true)
 (L:∀ σ':Nat→ag,(∀ s,s∉F→σ' s=σ s)→ev N σ' x= .int V n) (M:∀ σ':Nat→ag,(∀ s,s∉F→σ' s=σ s)→ev N σ' y= .int U n) (hb:bytes*n≤281474976710656) (C:n≤maxLen):
 rz P N F σ ⟨some d,.makeSlice t x y,ty,pos,af,none⟩ d (fun b=> .slice (some ⟨b,0,none⟩) n n) (fun b w'=> ∀ B,B≤b→w'.ownsRow B e 1 (.slice (some ⟨b,0,none⟩) n n) n (cW n zv)):=
 fun σ' _ _ A k=>fI J O h1 (L σ' A) (M σ' A) hb C fun b Z E hn I=>k b Z E hn I
theorem IV (i j k:Nat) {aj ak al:Oper} {d1 d2 d3:Nat} {Z aa ai:Nat→ag} {R1 ay az:Nat→ah→Prop} (am:aj.guard=none) (an:ak.guard=none) (ao:al.guard=none) (hi:ops[i]? =some aj) (ap:ops[j]? =some ak) (ar:ops[k]? =some al)
 (r0:((dq .any ops listed)== [i,j,k])=true) (aN:((dq .any ops<|listed.setIfInBounds i true)== [j,k])=true) (aO:((dq .any ops<|listed.setIfInBounds j true)== [i,k])=true) (aP:((dq .any ops<|listed.setIfInBounds k true)== [i,j])=true)
 (aI:gK ops ((listed.setIfInBounds i true).setIfInBounds j true) k=true) (aJ:gK ops ((listed.setIfInBounds i true).setIfInBounds k true) j=true) (aK:gK ops ((listed.setIfInBounds j true).setIfInBounds k true) i=true)
 (aF:d1≠d2) (aG:d1≠d3) (aH:d2≠d3)
 (s1:rz P N [d1,d2,d3] σ aj d1 Z R1) (s2:rz P N [d1,d2,d3] σ ak d2 aa ay) (au:rz P N [d1,d2,d3] σ al d3 ai az)
 (m1:∀ b w w',R1 b w→Wk w w'→R1 b w') (aD:∀ b w w',ay b w→Wk w w'→ay b w') (aE:∀ b w w',az b w→Wk w w'→az b w')
 (U:∀ w',Wk w w'→S w')
 (c:∀ (L M O:Nat) (w':ah),w.heap.size≤L→w.heap.size≤M→w.heap.size≤O→L≠M→L≠O→M≠O→w.heap.size < w'.heap.size→Wk w w'→R1 L w'→ay M w'→az O w'→cg P N ops Q S fuel (((listed.setIfInBounds i true).setIfInBounds j true).setIfInBounds k true) (aU (aU (aU σ d1<|Z L) d2<|aa M) d3<|ai O) w'):cg P N ops Q S (fuel+3) listed σ w:=by
 have off :∀ {s:Nat} {σ':Nat→ag} {d:Nat} {v:ag},d∈[d1,d2,d3]→s∉[d1,d2,d3]→aU σ' d v s=σ' s:=fun {s σ' d v} aQ I=>by
  rw [De,if_neg (fun e=>I<|by rw [e]; exact aQ)]
 refine kn r0 (by simp) ?_;intro q A;simp only [ej,uc,or_false] at A;rcases A with A | A | A <;> rw [A]
 · refine ⟨aj,hi,am,s1 _ _ _ (fun _ _=>rfl) fun L aL aA J ac=>⟨U _ J.md,?_⟩⟩;have aM:=J.size;refine kn aN (by simp) ?_;intro q A;simp only [ej,uc,or_false] at A;rcases A with A | A <;> rw [A]
   · refine ⟨ak,ap,an,s2 _ _ _ (fun s I=>off (by simp) I) fun M av aB C ad=>⟨U _ (J.md.trans C.md),?_⟩⟩;have aw:=C.size;refine kn aI (by simp) ?_;intro q A;have A:=eR.1 A;rw [A];refine ⟨al,ar,ao,au _ _ _ (fun s I=>by rw [off (by simp) I,off (by simp) I]) fun O V aC E ae=>⟨U _ ((J.md.trans C.md).trans E.md),?_⟩⟩;have ax:=E.size;have :=c L M O V ab ab ab ab ab ab ab ((J.md.trans C.md).trans E.md) (m1 _ _ _ ac<|C.md.trans E.md) (aD _ _ _ ad E.md) ae;exact this
   · refine ⟨al,ar,ao,au _ _ _ (fun s I=>off (by simp) I) fun O av aC C ae=>⟨U _ (J.md.trans C.md),?_⟩⟩;have aw:=C.size;refine kn aJ (by simp) ?_;intro q A;have A:=eR.1 A;rw [A];refine ⟨ak,ap,an,s2 _ _ _ (fun s I=>by rw [off (by simp) I,off (by simp) I]) fun M V aB E ad=>⟨U _ ((J.md.trans C.md).trans E.md),?_⟩⟩;have ax:=E.size;have :=c L M O V ab ab ab ab ab ab ab ((J.md.trans C.md).trans E.md) (m1 _ _ _ ac<|C.md.trans E.md) ad<|aE _ _ _ ae E.md;rw [kW (listed.setIfInBounds i true) j k,kZ (σ:=aU σ d1<|Z L) aH (aa M) (ai O)] at this;exact this
 · refine ⟨ak,ap,an,s2 _ _ _ (fun _ _=>rfl) fun M aL aB J ad=>⟨U _ J.md,?_⟩⟩;have aM:=J.size;refine kn aO (by simp) ?_;intro q A;simp only [ej,uc,or_false] at A;rcases A with A | A <;> rw [A]
   · refine ⟨aj,hi,am,s1 _ _ _ (fun s I=>off (by simp) I) fun L av aA C ac=>⟨U _ (J.md.trans C.md),?_⟩⟩;have aw:=C.size;rw [kW listed j i];refine kn aI (by simp) ?_;intro q A;have A:=eR.1 A;rw [A];refine ⟨al,ar,ao,au _ _ _ (fun s I=>by rw [off (by simp) I,off (by simp) I]) fun O V aC E ae=>⟨U _ ((J.md.trans C.md).trans E.md),?_⟩⟩;have ax:=E.size;have :=c L M O V ab ab ab ab ab ab ab ((J.md.trans C.md).trans E.md) (m1 _ _ _ ac E.md) (aD _ _ _ ad<|C.md.trans E.md) ae;rw [kZ (σ:=σ) aF (Z L) (aa M)] at this;exact this
   · refine ⟨al,ar,ao,au _ _ _ (fun s I=>off (by simp) I) fun O av aC C ae=>⟨U _ (J.md.trans C.md),?_⟩⟩;have aw:=C.size;refine kn aK (by simp) ?_;intro q A;have A:=eR.1 A;rw [A];refine ⟨aj,hi,am,s1 _ _ _ (fun s I=>by rw [off (by simp) I,off (by simp) I]) fun L V aA E ac=>⟨U _ ((J.md.trans C.md).trans E.md),?_⟩⟩;have ax:=E.size;have :=c L M O V ab ab ab ab ab ab ab ((J.md.trans C.md).trans E.md) ac (aD _ _ _ ad<|C.md.trans E.md)<|aE _ _ _ ae E.md;rw [kW listed i j,kW (listed.setIfInBounds j true) i k,kZ (σ:=σ) aF (Z L) (aa M),kZ (σ:=aU σ d2<|aa M) aG (Z L) (ai O)] at this;exact this
 · refine ⟨al,ar,ao,au _ _ _ (fun _ _=>rfl) fun O aL aC J ae=>⟨U _ J.md,?_⟩⟩;have aM:=J.size;refine kn aP (by simp) ?_;intro q A;simp only [ej,uc,or_false] at A;rcases A with A | A <;> rw [A]
   · refine ⟨aj,hi,am,s1 _ _ _ (fun s I=>off (by simp) I) fun L av aA C ac=>⟨U _ (J.md.trans C.md),?_⟩⟩;have aw:=C.size;rw [kW listed k i];refine kn aJ (by simp) ?_;intro q A;have A:=eR.1 A;rw [A];refine ⟨ak,ap,an,s2 _ _ _ (fun s I=>by rw [off (by simp) I,off (by simp) I]) fun M V aB E ad=>⟨U _ ((J.md.trans C.md).trans E.md),?_⟩⟩;have ax:=E.size;have :=c L M O V ab ab ab ab ab ab ab ((J.md.trans C.md).trans E.md) (m1 _ _ _ ac E.md) ad<|aE _ _ _ ae<|C.md.trans E.md;rw [kW (listed.setIfInBounds i true) j k,kZ (σ:=aU σ d1<|Z L) aH (aa M) (ai O),kZ (σ:=σ) aG (Z L) (ai O)] at this;exact this
   · refine ⟨ak,ap,an,s2 _ _ _ (fun s I=>off (by simp) I) fun M av aB C ad=>⟨U _ (J.md.trans C.md),?_⟩⟩;have aw:=C.size;rw [kW listed k j];refine kn aK (by simp) ?_;intro q A;have A:=eR.1 A;rw [A];refine ⟨aj,hi,am,s1 _ _ _ (fun s I=>by rw [off (by simp) I,off (by simp) I]) fun L V aA E ac=>⟨U _ ((J.md.trans C.md).trans E.md),?_⟩⟩;have ax:=E.size;have :=c L M O V ab ab ab ab ab ab ab ((J.md.trans C.md).trans E.md) ac (aD _ _ _ ad E.md)<|aE _ _ _ ae<|C.md.trans E.md;rw [kW listed i j,kW (listed.setIfInBounds j true) i k,kZ (σ:=σ) aF (Z L) (aa M),kZ (σ:=aU σ d2<|aa M) aG (Z L) (ai O),kZ (σ:=σ) aH (aa M) (ai O)] at this;exact this
end
end Go.Hb
end
section
namespace Go.Hb
structure Gw (B:Nat) (fp:Nat→Prop) (w:ah) (fp':Nat→Prop) (w':ah):Prop where
 sub:∀ k,fp' k→fp k∨w.heap.size≤k
 dE:∀ (k:Nat) (cs:Array ag) (e:Nat) (z:Nat×Nat),B≤k→¬fp k→w.heap[k]? =some (.cells cs e z)→w'.heap[k]? =some (.cells cs e z)
 size:w.heap.size≤w'.heap.size
section
variable {B B':Nat} {fp fp' fp'':Nat→Prop} {w w' w'':ah}
theorem Gw.trans (h:Gw B fp w fp' w') (h':Gw B fp' w' fp'' w''):Gw B fp w fp'' w'':=
 ⟨fun k A=>(h'.sub k A).elim (h.sub k) (fun C=> .inr<|cQ h.size C),
  fun k cs e z E hn A=>h'.dE k cs e z E (fun C=>(h.sub k C).elim hn fun I=>by have :=(dh.1 A).1; omega) (h.dE k cs e z E hn A),cQ h.size h'.size⟩
theorem Gw.mono (h:Gw B fp w fp' w') (A:B≤B'):Gw B' fp w fp' w':=⟨h.sub,fun k cs e z C=>h.dE k cs e z (cQ A C),h.size⟩
theorem Gw.md {G:Nat→Prop} (hm:Md G w w') (C:∀ k,G k→fp k∨k < B) (E:∀ k,fp' k→fp k∨w.heap.size≤k):Gw B fp w fp' w':=
 ⟨E,fun k cs e z J hn A=>by rw [hm.dE k (dh.1 A).1 (fun h=>(C k h).elim hn fun I=>by omega)]; exact A,hm.size⟩
theorem Gw.wk (hm:Wk w w'):Gw B fp w fp w':=Gw.md hm (fun _ h=>h.elim) fun _ h=> .inl h
end
def uq {α:Type} (B:Nat) (A:List α→(Nat→Prop)→ah→Prop):Prop := ∀ pre fp W W' (F:Nat→Prop),A pre fp W→Md F W W'→(∀ k,F k→B≤k∧∀ cur e z,W.heap[k]? =some (.cells cur e z)→¬fp k)→A pre fp W'
section
variable {F fp:Nat→Prop} {W W':ah} {B:Nat}
theorem CX {b e:Nat} {cs:Array ag} {z:Nat×Nat} (h:W.heap[b]? =some (.cells cs e z)) (hm:Md F W W') (hb:b < B) (A:∀ k,F k→B≤k∧∀ cur e z,W.heap[k]? =some (.cells cur e z)→¬fp k):W'.heap[b]? =some (.cells cs e z):=by
 rw [hm.dE b (dh.1 h).1 (fun C=>by have :=(A b C).1; omega)]; exact h
theorem K5 {w:ah} (h:Wk w W) (hm:Md F W W') (E:w.heap.size≤B) (A:∀ k,F k→B≤k∧∀ cur e z,W.heap[k]? =some (.cells cur e z)→¬fp k):Wk w W':=Md.trans' h hm fun k I C=>by have :=(A k C).1; omega
end
def E6 {α:Type} (B:Nat) (A:Bool→List α→(Nat→Prop)→ah→Prop):Prop := ∀ b pre fp W W' (F:Nat→Prop),A b pre fp W→Md F W W'→(∀ k,F k→B≤k∧¬fp k∧∃ cs e z,W.heap[k]? =some (.cells cs e z))→A b pre fp W'
structure Yc {α:Type} (P:au) (l B:Nat) (encs:α→Array ag) (xs:List α) (Cap:ah→Prop) (J:Bool→List α→(Nat→Prop)→ah→Prop):Prop where
 cap:∀ b pre fp W,J b pre fp W→Cap W
 lt:∀ b pre fp W,J b pre fp W→∀ k,fp k→k < W.heap.size
 st:E6 B J
 yl:∀ pre x rest fp W1,xs=pre++x::rest→J true pre fp W1→YieldAt eO 0 P l (encs x) W1 fun e W'=> ∃ b,e= .returned (.bool b)∧∃ fp',J b (pre++ [x]) fp' W'∧Gw B fp W1 fp' W'
def yC {α:Type} (P:au) (I:Nat) (J:Array ag) (E:α→Array ag) (xs:List α) (C:ah→Prop):Prop :=
 ∀ (l:Nat) (A:Bool→List α→(Nat→Prop)→ah→Prop) (W:ah),A true [] (fun _=>False) W→Yc P l W.heap.size E xs C A→
   Calls P I (#[.func (.yield l) #[] #[]]++J) W fun e W'=>(∃ v,e= .returned v)∧∃ b pre fp,A b pre fp W'∧pre <+:xs∧(b=true→pre=xs)
def JD (id B:Nat) (fp:Nat→Prop) (W:ah) (R:(Nat→Prop)→ah→Prop) (X:Bool→(Nat→Prop)→ah→Prop):Exit→(Nat→ag)→ah→Prop
 | .normal,_,w=>bW W w∧∃ fp',Gw B fp W fp' w∧R fp' w
 | .exit i,_,w=>i=id∧bW W w∧∃ fp',Gw B fp W fp' w∧X false fp' w
 | .ret,_,w=>bW W w∧∃ fp',Gw B fp W fp' w∧X true fp' w
 | _,_,_=>False
def vK (id:Nat):Bool→Code
 | true => .ret
 | false => .exit id
def JX {α:Type} (A:List α→(Nat→Prop)→ah→Prop) (X:Bool→List α→(Nat→Prop)→ah→Prop) (S:ah→Prop) (T:Bool→ah→Prop):Bool→List α→(Nat→Prop)→ah→Prop
 | true,pre,fp,W=>A pre fp W∧S W
 | false,pre,fp,W=> ∃ r,X r pre fp W∧T r W
theorem JH {α:Type} {P:au} {id n:Nat} {ac:List Deferred} {g:aV} {ps:Array Tmp} {aA body:Code} {Fx:List Nat} {σ:Nat→ag} {w:ah} {B:Exit→Act→ah→Prop} {am:Nat} {an:Array ag}
 (ai:α→Array ag) (xs:List α) (aD:ah→Prop) (I:List α→(Nat→Prop)→ah→Prop) (X:Bool→List α→(Nat→Prop)→ah→Prop) (a2:ev ⟨n,ac,Fx,none⟩ σ g= .func (.func am) #[] an) (aY:gr P am) (ba:∀ x,(ai x).size=ps.size)
 (a3:yC P am an ai xs aD) (aS:I [] (fun _=>False) w) (aI:∀ pre fp W,I pre fp W→aD W∧∀ k,fp k→k < W.heap.size) (aJ:∀ r pre fp W,X r pre fp W→aD W∧∀ k,fp k→k < W.heap.size) (ad:uq w.heap.size I) (aw:∀ r,uq w.heap.size (X r)) (A:α→Nat→ah→Prop) (aQ:∀ x b W W' (F:Nat→Prop),A x b W→Md F W W'→(∀ k,F k→∀ cur e z,W.heap[k]?≠some (.cells cur e z))→A x b W') (aN:α→Nat→Nat→ag)
 (ha:∀ (l:Nat) (x:α) (W:ah) (K:(Nat→ag)→ah→Prop),(∀ b W',Wk W W'→A x b W'→K (aN x b) W')→bA P ⟨n,[],[],some l⟩ aA (gQ K fun _ _ _=>False) ((ps.toList.zip (ai x).toList).foldl (fun s p=>aU s p.1 p.2) σ) W)
 (hb:∀ (l:Nat) (pre:List α) (x:α) (rest:List α) (fp:Nat→Prop) (b:Nat) (W:ah),xs=pre++x::rest→I pre fp W→A x b W→bA P ⟨n,[],[],some l⟩ body (JD id w.heap.size fp W (I<|pre++ [x]) fun r=>X r<|pre++ [x]) (aN x b) W)
 (aZ:∀ (D:Nat) (W:ah),w.heap.size≤D→(∃ fp,I xs fp W)→W.heap[D]? =some (.deferred<|some [])→qb ⟨n,{target:= .collected D,args:= #[]} ::ac,Fx,none⟩ B .normal σ W)
 (bd:∀ (D:Nat) (W:ah) (pre:List α),w.heap.size≤D→pre <+:xs→(∃ fp,X false pre fp W)→W.heap[D]? =some (.deferred<|some [])→qb ⟨n,{target:= .collected D,args:= #[]} ::ac,Fx,none⟩ B .normal σ W)
 (bf:∀ (D:Nat) (W:ah) (pre:List α),w.heap.size≤D→pre <+:xs→(∃ fp,X true pre fp W)→W.heap[D]? =some (.deferred<|some [])→qb ⟨n,{target:= .collected D,args:= #[]} ::ac,Fx,none⟩ B .ret σ W):
 eN P ⟨n,ac,Fx,none⟩ (.block id<|.rangeFunc g ps aA body) B σ w:=by
 refine wpIn_block<|wpIn_rangeFunc ?_;intro fn _;obtain ⟨rc,aa⟩:∃ rc:LoopState→Option Code→Loop,rc=fun st bg=> {state:=st,pending:=bg,fn,tmps:=(act ⟨n,ac,Fx,none⟩ σ).tmps,params:=ps,assign:=aA,body,defers:=w.heap.size} :=⟨_,rfl⟩
 obtain ⟨L,av⟩:∃ L,(w.alloc<|.deferred<|some []).alloc (.loop<|rc .ready none)=L:=⟨_,rfl⟩
 have aX:L.heap[w.heap.size+1]? =some (.loop<|rc .ready none):=by
  rw [← av]; have :=Eg (w.alloc<|.deferred<|some []) (.loop<|rc .ready none); rwa [World.size_alloc] at this
 have aW:L.heap[w.heap.size]? =some (.deferred<|some []):=by
  rw [← av]; exact (Below.heap_alloc _ _ _<|by simp).trans<|Eg w _
 have bi:L.heap.size=w.heap.size+2:=by rw [← av]; simp
 have hn:∀ (W:ah) (o:Obj),Wk W (W.alloc o):=fun W o=>(BC W o).md;have aT:I [] (fun _=>False) L:=by rw [← av]; exact ad _ _ _ _ _ (ad _ _ _ _ _ aS (hn _ _) fun _ h=>h.elim) (hn _ _) fun _ h=>h.elim
 have a0:(act ⟨n,ac,Fx,none⟩ σ).eval g= .func (.func am) #[] an:=by rw [dj]; exact a2
 refine ⟨w.heap.size+1,[{target:= .collected w.heap.size,args:= #[]}],L,{target:= .fn (.func am) an,args:= #[.func (.yield<|w.heap.size+1) #[] #[]]},L,am,
  #[.func (.yield<|w.heap.size+1) #[] #[]]++an,L,?_,?_,fun _ _=>trivial,?_,fun h0=>(by cases h0),?_⟩
 · rw [← av,aa]; exact run_enterLoop_outer _ _ _ _ _
 · simp only [resolve,a0];simp [go_sem]
 · have :=aY (#[.func (.yield<|w.heap.size+1) #[] #[]]++an) L;simp [invoke,go_sem,this]
 ·
  have al:∀ (I:List α→(Nat→Prop)→ah→Prop),uq w.heap.size I→∀ (pre:List α) (fp:Nat→Prop) (W:ah) (o ao:Obj),I pre fp W→W.heap[w.heap.size+1]? =some o→(∀ cur e z,o≠.cells cur e z)→I pre fp (W.putObj (w.heap.size+1) ao):=fun I ad pre fp W o ao h1 aj ap=>
   ad _ _ _ _ _ h1 (vZ W _ ao) fun k E=>⟨ab,fun cur e z ar=>by subst E; rw [aj] at ar; exact absurd (dM ar)<|ap _ _ _⟩
  have aK:∀ (fp:Nat→Prop) (W:ah) (o ao:Obj),W.heap[w.heap.size+1]? =some o→(∀ cur e z,o≠.cells cur e z)→Gw w.heap.size fp W fp (W.putObj (w.heap.size+1) ao):=fun fp W o ao aj ap=>
   ⟨fun _ h=> .inl h,fun k cs e z _ _ E=>by
    rw [lr (fun h=>by subst h; rw [aj] at E; exact ap _ _ _<|dM E)]; exact E,by simp [World.putObj]⟩
  have aF:∀ {F:Nat→Prop} {A C:ah},Md F A C→∀ (k:Nat) (o:Obj),A.heap[k]? =some o→¬F k→C.heap[k]? =some o:=fun hm k o ay a1=>by
   rw [hm.dE k (dh.1 ay).1 a1]; exact ay
  refine callsIn_wide.2 (Calls.mono (a3 (w.heap.size+1)
   (JX I X (fun W=>W.heap[w.heap.size+1]? =some (.loop<|rc .ready none)∧W.heap[w.heap.size]? =some (.deferred<|some [])) fun r W=>W.heap[w.heap.size+1]? =some (.loop<|rc .done<|some<|vK id r)∧W.heap[w.heap.size]? =some (.deferred<|some []))
   L ⟨aT,aX,aW⟩ ⟨fun b pre fp W h=>match b,h with
    | true,h=>(aI pre fp W h.1).1
    | false,⟨r,h,_⟩=>(aJ r pre fp W h).1,fun b pre fp W h=>match b,h with
    | true,h=>(aI pre fp W h.1).2
    | false,⟨r,h,_⟩=>(aJ r pre fp W h).2,?_,?_⟩) ?_)
  · intro b pre fp A C F h hm aE;have aH:∀ k,F k→w.heap.size≤k∧∀ cur e z,A.heap[k]? =some (.cells cur e z)→¬fp k:=fun k E=>⟨by have :=(aE k E).1; omega,fun _ _ _ _=>(aE k E).2.1⟩
    have O:∀ (k:Nat) (o:Obj),A.heap[k]? =some o→(∀ cur e z,o≠.cells cur e z)→C.heap[k]? =some o:=fun k o ay a8=>aF hm k o ay fun E=>by
     obtain ⟨cs,e,z,aG⟩:=(aE k E).2.2; rw [ay] at aG; exact a8 _ _ _<|dM aG
    cases b with
    | true =>exact ⟨ad _ _ _ _ _ h.1 hm aH,O _ _ h.2.1 (fun _ _ _ h=>by cases h),O _ _ h.2.2 fun _ _ _ h=>by cases h⟩
    | false =>
      obtain ⟨r,h1,aj,ap⟩:=h;exact ⟨r,aw r _ _ _ _ _ h1 hm aH,O _ _ aj (fun _ _ _ h=>by cases h),O _ _ ap fun _ _ _ h=>by cases h⟩
  · rintro pre x rest fp W bc ⟨hi,J,E⟩;have aL:=run_yield (P:=P) (args:=ai x) J<|by rw [aa]; exact ba x
    rw [aa] at aL;refine ⟨fn,_,aA,body,aL,roundIn_of_wpIn (F:=eO) trivial ?_⟩;have bb:((ps.zip<|ai x).foldl (fun tmps (p:Tmp×ag)=>tmps.setIfInBounds p.1 p.2) (act ⟨n,ac,Fx,none⟩ σ).tmps)=(act ⟨n,[],[],some<|w.heap.size+1⟩<|(ps.toList.zip (ai x).toList).foldl (fun s p=>aU s p.1 p.2) σ).tmps:=by
     rw [← Array.foldl_toList,Array.toList_zip];exact yG ⟨n,[],[],some<|w.heap.size+1⟩ _ σ
    have h1:=ha (w.heap.size+1) x W (fun σ' W'=> ∃ aM,(Instr.beginRound<|w.heap.size+1).run P W'= .ok () aM∧
     body.wpIn (eO.inRound<|w.heap.size+1) 0 P (roundPost P (w.heap.size+1) fun e W'=> ∃ b,e= .returned (.bool b)∧∃ fp',JX I X (fun W=>W.heap[w.heap.size+1]? =some (.loop<|rc .ready none)∧W.heap[w.heap.size]? =some (.deferred<|some [])) (fun r W=>W.heap[w.heap.size+1]? =some (.loop<|rc .done<|some<|vK id r)∧W.heap[w.heap.size]? =some (.deferred<|some [])) b (pre++ [x]) fp' W'∧Gw L.heap.size fp W fp' W') (act ⟨n,[],[],some<|w.heap.size+1⟩ σ') aM) ?_
    · unfold bA at h1;have aO:({tmps:=(ps.zip<|ai x).foldl (fun tmps (p:Tmp×ag)=>tmps.setIfInBounds p.1 p.2) (act ⟨n,ac,Fx,none⟩ σ).tmps,defers:= []} :Act)=act ⟨n,[],[],some<|w.heap.size+1⟩ ((ps.toList.zip (ai x).toList).foldl (fun s p=>aU s p.1 p.2) σ):=by rw [bb]; rfl
      rw [aO];refine wpIn_mono h1 ?_;intro e a w' Z;cases e with
      | normal=>obtain ⟨σ',rfl,ae⟩:=Z; exact ae
      | panic c=>obtain ⟨σ',rfl,ae⟩:=Z; exact ae σ' fun _ _=>rfl
      | outgrown=>exact Z.elim
      | _=>obtain ⟨σ',rfl,ae⟩:=Z; exact ae
    intro b V aB aR;have hi:=ad _ _ _ _ _ hi aB fun _ h=>h.elim;have J:=aF aB _ _ J fun h=>h;have E:=aF aB _ _ E fun h=>h;have a7:w.heap.size+1 < V.heap.size:=(dh.1 J).1;refine ⟨_,run_beginRound J (by rw [aa]),?_⟩;have a6:(V.putObj (w.heap.size+1)<|.loop {rc .ready none with state:= .busy}).heap[w.heap.size+1]? =some (.loop {rc .ready none with state:= .busy}):=tQ a7;have a4:(V.putObj (w.heap.size+1)<|.loop {rc .ready none with state:= .busy}).heap[w.heap.size]? =some (.deferred<|some []):=(lr ab).trans E;have a9:=aK fp V _ (.loop {rc .ready none with state:= .busy}) J fun _ _ _ h=>by cases h
    have aj:=hb (w.heap.size+1) pre x rest fp b _ bc (al I ad _ _ _ _ (.loop {rc .ready none with state:= .busy}) hi J fun _ _ _ h=>by cases h)<|aQ _ _ _ _ _ aR (vZ V (w.heap.size+1) _) fun k E cur e z ar=>by subst E; rw [J] at ar; cases ar
    unfold bA at aj;refine wpIn_mono aj ?_;have fin:∀ (j:Option Code) (fp':Nat→Prop) (M:ah),bW (V.putObj (w.heap.size+1)<|.loop {rc .ready none with state:= .busy}) M→Gw w.heap.size fp (V.putObj (w.heap.size+1)<|.loop {rc .ready none with state:= .busy}) fp' M→
     (Instr.endRound (w.heap.size+1) j).run P M= .ok (.bool j.isNone) (M.putObj (w.heap.size+1)<|.loop<|rc (if j.isNone then .ready else .done) j)∧
     M.heap[w.heap.size+1]? =some (.loop {rc .ready none with state:= .busy})∧
     (M.putObj (w.heap.size+1)<|.loop<|rc (if j.isNone then .ready else .done) j).heap[w.heap.size+1]? =some (.loop<|rc (if j.isNone then .ready else .done) j)∧
     (M.putObj (w.heap.size+1)<|.loop<|rc (if j.isNone then .ready else .done) j).heap[w.heap.size]? =some (.deferred<|some [])∧
     Gw L.heap.size fp W fp' (M.putObj (w.heap.size+1)<|.loop<|rc (if j.isNone then .ready else .done) j):=fun j fp' M O ak=>by
     have aC:=O _ _ a6 ⟨(fun _ _ _ h=>by cases h),fun _ _ h=>by cases h⟩;have a5:=O _ _ a4 ⟨(fun _ _ _ h=>by cases h),fun _ _ h=>by cases h⟩;have hr:=run_endRound (P:=P) j aC;refine ⟨?_,aC,tQ (dh.1 aC).1,(lr ab).trans a5,((((Gw.wk aB).trans a9).trans ak).trans<|aK fp' _ _ _ aC fun _ _ _ h=>by cases h).mono ab⟩;rw [aa] at hr ⊢;exact hr
    intro e a M Z;cases e with
    | normal=>
      obtain ⟨σ',rfl,O,fp',ak,ax⟩:=Z;obtain ⟨f1,f2,f3,f4,f5⟩:=fin none fp' M O ak;exact ⟨_,_,f1,true,U,fp',⟨al I ad _ _ _ _ _ ax f2 (fun _ _ _ h=>by cases h),f3,f4⟩,f5⟩
    | ret=>
      obtain ⟨σ',rfl,O,fp',ak,ax⟩:=Z;obtain ⟨f1,f2,f3,f4,f5⟩:=fin (some .ret) fp' M O ak;exact ⟨_,_,f1,false,U,fp',⟨true,al (X true) (aw true) _ _ _ _ _ ax f2 (fun _ _ _ h=>by cases h),f3,f4⟩,f5⟩
    | exit i=>
      obtain ⟨σ',rfl,rfl,O,fp',ak,ax⟩:=Z;obtain ⟨f1,f2,f3,f4,f5⟩:=fin (some<|.exit i) fp' M O ak;exact ⟨_,_,f1,false,U,fp',⟨false,al (X false) (aw false) _ _ _ _ _ ax f2 (fun _ _ _ h=>by cases h),f3,f4⟩,f5⟩
    | panic c=>obtain ⟨σ',rfl,ae⟩:=Z; exact (ae σ' fun _ _=>rfl).elim
    | outgrown=>exact Z.elim
    | goto t=>obtain ⟨σ',rfl,ae⟩:=Z; exact ae.elim
  · rintro e bh ⟨⟨v,rfl⟩,b,pre,fp,hj,hpre,hb1⟩;cases b with
    | true =>
      obtain ⟨hi,J,E⟩:=hj;obtain rfl :=hb1 rfl;have az:=run_endLoop (P:=P) J<|by rw [aa]; simp
      rw [aa] at az;refine ⟨none,_,az,?_⟩;rw [aa] at J;exact aZ w.heap.size _ (aP _) ⟨fp,al I ad _ _ _ _ _ hi J fun _ _ _ h=>by cases h⟩<|(lr ab).trans E
    | false =>
      obtain ⟨r,hi,J,E⟩:=hj;have az:=run_endLoop (P:=P) J<|by rw [aa]; simp
      rw [aa] at az;refine ⟨some (vK id r),_,az,?_⟩;rw [aa] at J;cases r with
      | true =>
        refine wpIn_ret ?_;exact bf w.heap.size _ pre (aP _) hpre ⟨fp,al (X true) (aw true) _ _ _ _ _ hi J fun _ _ _ h=>by cases h⟩<|(lr ab).trans E
      | false =>
        refine wpIn_exit ?_;unfold pj;simp only [if_true];exact bd w.heap.size _ pre (aP _) hpre ⟨fp,al (X false) (aw false) _ _ _ _ _ hi J fun _ _ _ h=>by cases h⟩<|(lr ab).trans E
section
variable {P:au} {N:Fm} {ops:Array Oper} {Q:Exit→(Nat→ag)→ah→Prop} {rest:List Oper} {σ:Nat→ag} {w:ah} {d':Option Nat} {d:Nat} {op:Op} {ty:av} {pos :String} {af:Array bR} {v:ag}
theorem Mo {l:Nat} {fo:aV} {args:Array aV} {A:Array av} {L:List ag} {R:Bool→ah→Prop} (J:ev N σ fo= .func (.yield l) #[] #[]) (E:args.toList.map (ev N σ)=L)
 (O:YieldAt eO 0 P l L.toArray w fun e W'=> ∃ b,e= .returned (.bool b)∧R b W') (k:∀ b W',R b W'→ko P N ops Q rest (aU σ d<|.bool b) W'):
 ko P N ops Q (⟨some d,.call ⟨.value fo,args,A⟩,ty,pos,af,none⟩::rest) σ w:=by
 obtain ⟨fn,tmps,a,b,I,C⟩:=O;unfold ko wpListIn;rw [if_pos (fj _ rfl _)];refine ⟨fun f _=>j3 _ f,?_⟩;rw [mM,Oper.semAt_eq _ _ _ (fun c e=>by cases e),dj];have hm:args.map (ev N σ)=L.toArray:=by rw [← E,← Array.toList_map]
 have M:(execOp (ev N σ) ⟨some d,.call ⟨.value fo,args,A⟩,ty,pos,af,none⟩).run P w= .ok (.round l fn tmps a b) w:=by
  simp [execOp,resolve,J,Deferred.ofValue,invoke,hm,I]
 rw [M];simp only [Oper.uponIn];refine ⟨fun h0=>(by rw [mL] at h0; cases h0),?_⟩;have h1:RoundIn (fe N.r) (0 - 1) P l fn tmps a b w fun e W'=> ∃ b,e= .returned (.bool b)∧R b W':=by
  cases hr:N.r with
  | none=>exact C
  | some k=>exact C
 refine RoundIn.mono h1 ?_;rintro e W' ⟨c,rfl,hw⟩;simp only;rw [eG];exact k c W' hw
end
section
variable {P:au} {n:Nat} {F:List Nat} {σ:Nat→ag} {w:ah} {fn:Func} {R:ag→ah→Prop}
end
def vh (P:au) (s f:Nat):Option Nat:=
 match P.underlying s with
 | some (.struct A)=>match A[f]? with
   | some fd=>if cY P fd.type=some none then some fd.offset else none
   | none=>none
 | _=>none
theorem Cg {P:au} {t:Nat} (hu:cY P t=some none) (w:ah):(isAgg t).run P w= .ok false w:=by
 unfold cY at hu;cases hd:P.underlying t with
 | none=>rw [hd] at hu; cases hu
 | some d=>
   rw [hd] at hu;cases d <;> first
    | (simp only [gG] at hu; obtain ⟨_,_,h⟩:=hu; cases h; done)
    | simp [isAgg,bu hd]
theorem Ho {P:au} {N:Fm} {σ:Nat→ag} {w:ah} {dst:Option Nat} {ty:av} {pos :String} {af:Array bR} {g:Option (Nat×Bool)} {x:aV} {s f n:Nat} {cs:Array ag} {v:ag} (A:vh P s f=some n) (I:ev N σ x= .agg cs) (E:cs[n]? =some v):
 (execOp (ev N σ) ⟨dst,.field s x f,ty,pos,af,g⟩).run P w= .ok (.value v) w:=by
 unfold vh at A;split at A
 · rename_i J hu;split at A
   · rename_i fd C;split at A
     · rename_i ha;cases A;simp [execOp,D3,bu hu,C,I,asAgg,part,Cg ha,E]
     · cases A
   · cases A
 · cases A
section
variable {P:au} {ops:Array Oper} {Q:Exit→Act→ah→Prop} {S:ah→Prop} {md:nO}
def Dp (P:au) (md:nO) (ops:Array Oper) (Q:Exit→Act→ah→Prop) (S:ah→Prop):Nat→Array Bool→Act→ah→Prop
 | 0,listed,a,w=>dq md ops listed= []∧Q .normal a w
 | fuel+1,listed,a,w=>
   (dq md ops listed= []→Q .normal a w)∧
   ∀ i∈dq md ops listed,wpOpIn eO 0 P ops Q i (fun A w'=>S w'∧Dp P md ops Q S fuel (listed.setIfInBounds i true) A w') a w
end
def Mh (P:au) (N:Fm) (ops:Array Oper) (Q:Exit→(Nat→ag)→ah→Prop) (S:ah→Prop) (fuel:Nat) (listed:Array Bool) (σ:Nat→ag) (w:ah):Prop :=
 Dp P .any ops (lift N Q) S fuel listed (act N σ) w
section
variable {P:au} {N:Fm} {ops:Array Oper} {Q:Exit→(Nat→ag)→ah→Prop} {σ:Nat→ag} {w:ah} {d':Option Nat} {d:Nat} {op:Op} {ty:av} {pos :String} {af:Array bR} {v:ag}
variable {S:ah→Prop} {fuel:Nat} {listed:Array Bool}
end
attribute [irreducible] Mh
end Go.Hb
end
section
namespace Go.Hb
abbrev lX (A:List Nat):List Deferred:=A.map fun D=> {target:= .collected D,args:= #[]}
def mJ:List Nat→ah→ah
 | [],w=>w
 | D::Ds,w=>mJ Ds<|w.putObj D<|.deferred none
def fB (A:List Nat) (w:ah):Prop :=(∀ D∈A,w.heap[D]? =some (.deferred<|some []))∧A.Nodup
theorem fB.nc {A:List Nat} {w w':ah} (h:fB A w) (hn:bW w w'):fB A w':=⟨fun D C=>hn D _ (h.1 D C) ⟨(fun _ _ _ h=>by cases h),fun _ _ h=>by cases h⟩,h.2⟩
theorem fB.cons {A:List Nat} {D:Nat} {w:ah} (h:fB A w) (C:w.heap[D]? =some (.deferred<|some [])) (hn:D∉A):fB (D::A) w:=by grind [fB]
theorem fB.ne {A:List Nat} {w:ah} {D:Nat} (h:fB A w) (C:w.heap.size≤D):D∉A:=by grind [fB]
theorem fB.put {A:List Nat} {D:Nat} {w:ah} (h:fB (D::A) w):fB A (w.putObj D<|.deferred none):=
 ⟨fun k C=>by
  have I:k≠D:=fun E=>(ub.1 h.2).1<|E ▸ C;rw [lr I]; exact h.1 k (gU _ C),(ub.1 h.2).2⟩
theorem uT:∀ (A:List Nat) (w:ah),Md (fun k=>k∈A) w (mJ A w)
 | [],w=>Md.refl _ w
 | D::A,w=>((vZ w D<|.deferred none).mono fun k _ C=>C ▸ gV ..).trans' (uT A _) fun k _ C=>gU _ C
section
variable {P:au} {n:Nat} {Fx:List Nat} {σ:Nat→ag} {w:ah} {fn:Func} {R:ag→ah→Prop} {B:Exit→Act→ah→Prop} {N:Fm}
theorem Be {tmps:Array ag} {v:ag} :∀ (A:List Nat) (w:ah),fB A w→(results fn tmps).run P (mJ A w)= .ok v (mJ A w)→R v (mJ A w)→
 LeavesInM eO 0 P fn tmps (fun e w'=> ∃ v,e= .returned v∧R v w') (lX A) .returning w
 | [],w,_,hr,hR=>⟨v,hr,v,rfl,hR⟩
 | D::A,w,h,hr,hR=>⟨FrameMode.noConfusion,.inl ⟨_,_,rfl,run_takeDeferred (h.1 D<|gV ..),Be A _ h.put hr hR⟩⟩
theorem Hl {r:ResultVar} {v:ag} (A:List Nat) (C:fB A w) (h:fn.results= #[r]) (h1:gX P ⟨n,lX A,Fx,none⟩ σ (mJ A w) r v) (E:R v (mJ A w)):qb ⟨n,lX A,Fx,none⟩ (Bm P fn R) .ret σ w:=
 Be A w C (Cd h<|gz h1) E
theorem Bt {id:Nat} {c:Code} (h:eN P N c (pj id B) σ w):eN P N (.block id c) B σ w:=wpIn_block h
theorem IU {c:Code} {L:List (Nat×ag)} (h:Sl σ L) (A:eN P N c B (o7 σ L) w):eN P N c B σ w:=by rw [tv h] at A; exact A
theorem Bu {id:Nat} (h:qb N B .normal σ w):qb N (pj id B) .normal σ w:=h
theorem IP {id:Nat} (h:qb N B .normal σ w):qb N (pj id B) (.exit id) σ w:=by show (if id=id then B .normal (act N σ) w else B (.exit id) (act N σ) w); rw [if_pos rfl]; exact h
theorem I0 {i:Nat} {y:Act→ah→Prop} (h:qb N B (.exit i) σ w):qb N (Exit.then y B) (.exit i) σ w:=h
def vU (n:Nat) (Fx:List Nat) (R:List Nat→(Nat→ag)→ah→Prop) (B:Exit→Act→ah→Prop):Exit→Act→ah→Prop
 | .normal,a,w=> ∃ A σ,a=act ⟨n,lX A,Fx,none⟩ σ∧R A σ w
 | e,a,w=>B e a w
variable {S:List Nat→(Nat→ag)→ah→Prop}
theorem Bw (A:List Nat) (h:S A σ w):qb ⟨n,lX A,Fx,none⟩ (vU n Fx S B) .normal σ w:=⟨A,σ,rfl,h⟩
theorem IY {i:Nat} (h:qb N B (.exit i) σ w):qb N (vU n Fx S B) (.exit i) σ w:=h
theorem IX {c:Code} (A:List Nat) (L:Nat→List Nat→(Nat→ag)→ah→Prop) (m:Nat) (h0:L m A σ w)
 (h:∀ m A σ w,L m A σ w→eN P ⟨n,lX A,Fx,none⟩ c (vU n Fx (fun O σ' w'=> ∃ k,k < m∧L k O σ' w') B) σ w):eN P ⟨n,lX A,Fx,none⟩ (.loop c) B σ w:=by
 intro b k cs al hb hr;have key:∀ m A σ w,L m A σ w→
  ∃ e M w',B e M w'∧ArrivesIn (Machine.fenced P eO) P (lone (b.atR (act ⟨n,lX A,Fx,none⟩ σ) (.code c:: .inLoop c::k)) cs w) b k cs e M w':=by
  intro m
  induction m using ER with
  | _ m ih=>
    intro A σ w ac;obtain ⟨e,J,I,E,C⟩:=h m A σ w ac b (.inLoop c::k) cs al hb hr;cases e with
    | normal=>
      obtain ⟨V,an,rfl,j,ai,ad⟩:=E;obtain ⟨ab,Z,am,ak,ae⟩:=ih j ai V an I ad;exact ⟨ab,Z,am,ak,.of_steps (StepsIn.trans C<|.one (fenced_calm hb hr U) stepR_inLoop) ae⟩
    | exit id=>exact ⟨.exit id,J,I,E,.pass (x:= .inLoop c) rfl (fun _ _=> .inl<|by simp) C⟩
    | goto l=>exact ⟨.goto l,J,I,E,.pass (x:= .inLoop c) rfl (fun _ _=> .inl<|by simp) C⟩
    | ret=>exact ⟨.ret,J,I,E,.pass (x:= .inLoop c) rfl (fun _ _=> .inl<|by simp) C⟩
    | panic aa=>exact ⟨.panic aa,J,I,E,.pass (x:= .inLoop c) rfl (fun _ _=> .inl<|by simp) C⟩
    | outgrown=>exact ⟨.outgrown,J,I,E,.pass (x:= .inLoop c) rfl (fun _ _=> .inl<|by simp) C⟩
 obtain ⟨e,M,w',aj,C⟩:=key _ A σ w h0;exact ⟨e,M,w',aj,.of_steps (.one (fenced_calm hb hr U) stepR_loop) C⟩
end
section
variable {P:au} {N:Fm} {σ:Nat→ag} {w:ah} {dst:Option Nat} {ty:av} {pos :String} {af:Array bR} {g:Option (Nat×Bool)} {K:(Nat→ag)→ah→Prop}
end
section
variable {P:au} {N:Fm} {σ:Nat→ag} {w:ah} {dst:Option Nat} {ty:av} {pos :String} {af:Array bR} {g:Option (Nat×Bool)} {x y:aV}
end
end Go.Hb
end
section
namespace Go.Hb
theorem Kd {L:List ag} {o:Nat} {v:ag} (h:o < L.length):(L.set o v).take (o+1)=L.take o++ [v]:=by grind [List.set_eq_take_append_cons_drop,List.take_append,dv,Nat.min_eq_left,Nat.add_sub_cancel_left,rj]
theorem Kc {L:List ag} {o m:Nat} {v:ag} (h:o < m):(L.set o v).drop m=L.drop m:=by
 rw [List.drop_set,if_pos h]
section
variable {P:au} {N:Fm} {σ:Nat→ag} {w:ah} {ty:av} {pos :String} {af:Array bR} {g:Option (Nat×Bool)} {x:aV} {K:(Nat→ag)→ah→Prop}
end
end Go.Hb
end
section
namespace Go.Hb
section
variable {P:au} {N:Fm} {σ:Nat→ag} {w:ah} {dst:Option Nat} {ty:av} {pos :String} {af:Array bR} {g:Option (Nat×Bool)} {x:aV}
theorem Fl {t n C b:Nat} (he:kz P t=some (n,C)) (A:ev N σ x= .pointer (some ⟨b,0,none⟩)):
 (execOp (ev N σ) ⟨dst,.slice t x none none none,ty,pos,af,g⟩).run P w= .ok (.value<|.slice (some ⟨b,0,none⟩) n n) w:=by
 unfold kz at he;cases hd:P.underlying t with
 | none=>rw [hd] at he; cases he
 | some d=>
   rw [hd] at he;cases d <;> first | (cases he; done) | skip
   rename_i m e;cases hi:P.info? e with
   | none=>simp [hi] at he
   | some j=>
     simp only [hi,fA,bL,gW] at he;obtain ⟨rfl,rfl⟩:=he;simp [execOp,nJ,Instr.sureAddr,kr,A,bu hd,sizeOf,db hi,fU]
def vi (P:au) (t f:Nat):Option (Nat×Nat):=
 match P.underlying t with
 | some (.struct A)=>(A[f]?).map fun d=>(d.type,d.offset)
 | _=>none
theorem Hx {t f A off n:Nat} {cs vs:List ag} (h:vi P t f=some (A,off)) (ha:cY P A=some (some n)) (I:ev N σ x= .agg cs.toArray) (E:(cs.drop off).take n=vs):
 (execOp (ev N σ) ⟨dst,.field t x f,ty,pos,af,g⟩).run P w= .ok (.value<|.agg vs.toArray) w:=by
 subst E;unfold vi at h;cases hd:P.underlying t with
 | none=>rw [hd] at h; cases h
 | some d=>
   rw [hd] at h;cases d <;> first | (cases h; done) | skip
   rename_i J;simp only [gG] at h;obtain ⟨fd,C,he⟩:=h;cases he;unfold cY at ha;cases hd2:P.underlying fd.type with
   | none=>rw [hd2] at ha; cases ha
   | some d2=>
     rw [hd2] at ha;cases hi:P.info? fd.type with
     | none=>simp [Program.underlying,hi] at hd2
     | some i=>
       rw [hi] at ha;have L:cs.toArray.extract fd.offset (fd.offset+n)=((cs.drop fd.offset).take n).toArray:=by simp
       cases d2 <;> first
        | (cases ha; done)
        | (simp only [fA,bL] at ha; subst ha
           simp [execOp,D3,bu hd,C,I,asAgg,part,isAgg,bu hd2,sizeOf,db hi])
end
end Go.Hb
end
section
set_option linter.unusedSimpArgs false
namespace Go.Hb
open Classical
structure yE (P:au) (k:av) (cU:ag→Prop):Prop where
 key:nY P k cU
 stays:∀ w v,cU v→(qW v v).run P w= .ok v w
def HU (v:ag):Prop := ∃ s:List UInt8,v=str s
def AN (q:bw) (v:ag):Prop := ∃ a:Int,v= .int q a
theorem Au {d:TypeDesc} {cU:ag→Prop} (L:∀ x y,cU x→cU y→∃ A,yd d x y=some A∧(A=true↔x=y)) {x:ag} (M:cU x):∀ (es:List MapEntry) (i:Nat),(∀ e∈es,cU e.key)→
 (nI d x es i=some none∧∀ e∈es,e.key≠x)∨∃ j e,nI d x es i=some (some (i+j,e.val))∧es[j]? =some e∧e.key=x
 | [],i,_=> .inl ⟨rfl,fun _ h=>by simp at h⟩
 | e::es,i,h=>by
   obtain ⟨A,h1,J⟩:=L x e.key M<|h e<|by simp
   cases A with
   | true =>exact .inr ⟨0,e,by simp [nI,h1],rfl,(J.1 rfl).symm⟩
   | false =>
     have V:e.key≠x:=fun U=>by cases J.2 U.symm
     rcases Au L M es (i+1) (fun e he=>h e<|by simp [he]) with ⟨C,E⟩ | ⟨j,e',C,E,O⟩
     · refine .inl ⟨by simp [nI,h1,C],fun e' I=> ?_⟩;rcases ej.1 I with rfl | I
       · exact V
       · exact E e' I
     · refine .inr ⟨j+1,e',?_,E,O⟩;simp only [nI,h1,C]; rw [show i+1 +j=i+(j+1) from by omega]
theorem A2 {P:au} {k:av} {d:TypeDesc} {cU:ag→Prop} (E:P.underlying k=some d) (L:∀ x y,cU x→cU y→∃ C,yd d x y=some C∧(C=true↔x=y)) (J:∀ em w v,cU v→(kq em 10000 k v).run P w= .ok () w):nY P k cU where
 check:=J
 find w x es hx hes:=by
  rcases Au L hx es 0 hes with ⟨h1,A⟩ | ⟨j,e,h1,A,I⟩
  · exact .inl ⟨by simp [nH,bu E,h1],A⟩
  · exact .inr ⟨j,e,by simp [nH,bu E,h1],A,I⟩
theorem yU (a b:ByteArray):(a==b)=decide (a=b):=by
 rw [Bool.eq_iff_iff,decide_eq_true_iff];show ((a.data==b.data)=true)↔_;rw [beq_iff_eq];exact ⟨fun h=>by cases a; cases b; cases h; rfl,fun h=>by rw [h]⟩
theorem A1 {P:au} {k:av} (A:P.underlying k=some .string):yE P k HU where
 key:=A2 A (by
  rintro _ _ ⟨a,rfl⟩ ⟨b,rfl⟩;refine ⟨_,U,?_⟩;rw [yU,decide_eq_true_iff];constructor
  · intro h; unfold str; rw [h]
  · intro h; unfold str at h; cases h; rfl) (by rintro em w _ ⟨a,rfl⟩; exact zb (n:=9999) A w)
 stays w v hv:=by obtain ⟨a,rfl⟩:=hv; simp [qW,D7,str,yU]
theorem FZ {P:au} {k:av} {q r:bw} {em:Bool} {n:Nat} {a:Int} (A:P.underlying k=some (.int q)) (w:ah):(kq em (n+1) k<|.int r a).run P w= .ok () w:=by
 simp only [kq,Sem.run_bind,bu A,Result.andThen_ok,Sem.run_pure]
theorem A0 {P:au} {k:av} {q r:bw} (A:P.underlying k=some (.int q)):yE P k (AN r) where
 key:=A2 A (by
  rintro _ _ ⟨a,rfl⟩ ⟨b,rfl⟩;refine ⟨decide (a=b),by simp [yd]; rfl,?_⟩;rw [decide_eq_true_iff];exact ⟨fun h=>by rw [h],fun h=>by cases h; rfl⟩) (by rintro em w _ ⟨a,rfl⟩; exact FZ (n:=9999) A w)
 stays w v hv:=by obtain ⟨a,rfl⟩:=hv; simp [qW,D7]
section
variable {P:au} {N:Fm} {σ:Nat→ag} {w:ah} {dst:Option Nat} {ty:av} {pos :String} {af:Array bR} {g:Option (Nat×Bool)} {x y z:aV} {K:(Nat→ag)→ah→Prop}
variable {t k e:av} {cU:ag→Prop} {b:Nat} {f:ag→Option ag} {kx v zv:ag}
end
end Go.Hb
end
section
namespace Go.Hb
theorem HW (c:UInt8):∀ l:List UInt8,D9 l c=kK c l:=by
 intro l
 induction l with
 | nil=>rfl
 | cons b l ih=>
   unfold D9;rw [ih];rw [show kK c (b::l)=if (b::l).idxOf c < (b::l).length then ((b::l).idxOf c:Int) else -1 from rfl,List.idxOf_cons];by_cases h:(b==c)=true
   · rw [if_pos h,h]; rfl
   · have h':(b==c)=false :=by simpa using h
     rw [if_neg h,h'];simp only [cond_false,dL];by_cases h1:l.idxOf c < l.length
     · have A:kK c l=l.idxOf c:=if_pos h1;rw [A,if_neg (fun hb=>by have :=eq_of_beq hb; omega),if_pos ab]; rfl
     · have A:kK c l= -1:=if_neg h1;rw [A,if_pos aD,if_neg ab]
theorem J2 {P:au} {f:FuncId} {fn:Func} (A:P.funcs[f]? =some fn) (C:(fn.name== "runtime.NumGoroutine")=false) (hb:fn.body.isNone=true) (hn:Extern.findNext fn=none)
 (he:Extern.find fn=some MA) (l:List UInt8) (c:UInt8) (w:ah):(callFunc f #[str l,.int .u8 c.toNat]).run P w= .ok (.value<|.int .i64<|kK c l) w:=by
 rw [run_callFunc_extern A C hb hn he];unfold str;rw [Lib.run_indexByteString];have h1:((c.toNat:Int)).toNat.toUInt8=c:=UInt8.toNat_inj.1<|by simp
 rw [h1,HW];rfl
section
variable {P:au} {N:Fm} {σ:Nat→ag} {w:ah} {dst:Option Nat} {ty:av} {pos :String} {af:Array bR} {g:Option (Nat×Bool)}
end
end Go.Hb
end
