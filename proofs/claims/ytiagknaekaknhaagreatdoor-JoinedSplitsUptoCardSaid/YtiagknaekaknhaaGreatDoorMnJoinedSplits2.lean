/-
  Walks and plain laws that the law rests on, laid together. No conditions but those that each theorem names.
-/
import Derived.Test.YtiagknaekaknhaaGreatDoorMnJoinedSplits1
set_option linter.unusedVariables false
open Array renaming getElem?_eq_some_iff→dm
open Bool renaming and_eq_true→a0,false_eq_true→nF
open Go renaming Edge→bT,IntKind→bu,Operand→aW,Program→au,TypeId→av,Value→ag,World→ah
open Go.Exit renaming inBlock→ph
open Go.Extern.BytealgIndexByte renaming indexByte→Mk
open Go.Fence renaming wide→eN
open Go.Instr renaming checkKey→km,field→DS,findKey→nI,findNow→nJ,keyThatStays→qV,sameBits→DW,sameNow→yf,sliceAt→nK,sliceBounds→kn
open Go.Lib renaming indexByte→DY
open Go.Region renaming Mode→nP,ready→dw
open Go.World renaming alloc_heap_new→D8,putObj_heap_other→lu,putObj_heap_same→tT
open List renaming append_assoc→kq,append_nil→nS,foldlM_append→El,foldlM_cons→pv,foldlM_nil→pw,foldl_cons→jg,getD_cons_zero→tU,getD_eq_getElem?_getD→b9,getElem?_drop→ik,getElem?_eq_getElem→bG,getElem?_eq_none→gF,getElem?_eq_some_iff→cK,getElem?_map→fq,getElem_take→tV,getLast?_eq_some_getLast→Ep,length_cons→dP,length_drop→ji,length_set→gl,length_take→dB,mem_append→eA,mem_append_left→pB,mem_cons→ei,mem_cons_of_mem→gR,mem_cons_self→gS,mem_filter→pC,mem_iff_getElem→tY,mem_range'_1→yu,mem_singleton→eQ,nodup_cons→ud,not_mem_nil→ue,pairwise_iff_getElem→pD,range'→kr,replicate→cZ,takeWhile_cons→Ey,take_of_length_le→ri,take_succ_eq_append_getElem→EA
open Nat renaming add_assoc→iN,eq_or_lt_of_le→EC,le_refl→aQ,le_trans→cS,lt_or_ge→dF,pow_succ→ui
open Option renaming bind_eq_bind→pE,bind_eq_some_iff→pF,map_eq_some_iff→gG,map_some→fu,pure_def→pH
open Option.some renaming inj→dq,injEq→bM
open Prod.mk renaming injEq→gT
open Go.Proofs.Tryz
open Go.RowKit

section
namespace Go.Hb
end Go.Hb
namespace Go.Hb
def nv (n:Nat):ag:= .int .i64 n
theorem eK {h:Array Obj} {a:Option Addr} {r:List Nat} {i x:Nat} (A:aX h a (r.map nv)) (hi:r[i]? =some x):ay h (bk a) (fo a+i*1)=some (.int .i64 (x:Nat)):=by
 rw [Nat.mul_one]; exact A.ay _ _<|by rw [fq,hi]; rfl
section
variable {P:au} {N:Fm} {σ:Nat→ag} {w:ah} {dst:Option Nat} {ty:av} {pos :String} {af:Array bT} {g:Option (Nat×Bool)} {x y z:aW}
end
end Go.Hb
namespace Go.Hb
abbrev aM:Type :=Bool×List (UInt8×Int)
def dI:aM:=(false,[])
abbrev aO (a:List aM) (n:Nat):aM:=a.getD n dI
def dW (l:List (UInt8×Int)):Prop :=l.Pairwise fun x y=>x.1.toNat < y.1.toNat
instance (l:List (UInt8×Int)):Decidable (dW l):=by unfold dW; infer_instance
def gv (a:List aM) (p:aM):Bool:=decide (p.2≠[]) || p.1 || decide (a.length=1)
def vs (a:List aM):Nat→Nat×List Nat→Int→Option (Nat×List Nat)
 | 0,_,_=>none
 | f+1,(nx,mk),n=>
   if n≠nx then (if 0≤n∧n < nx∧mk.getD n.toNat 0=2 then some (nx,mk) else none)
   else if a.length≤nx then none
   else if dW (aO a nx).2∧gv a (aO a nx)=true then
    ((aO a nx).2.foldlM (fun s e=>vs a f s e.2) (nx+1,mk.set nx 1)).map fun s=>(s.1,s.2.set nx 2)
   else none
def shaped (a:List aM):Bool:=decide (0 < a.length) && decide (a.length≤1048576) && match vs a (a.length+1) (0,cZ a.length 0) 0 with
 | some s=>decide (s.1=a.length)
 | none=>false
section
variable {a:List aM}
theorem xN:∀ (f:Nat) {nx A:Nat} {mk mk':List Nat} {n:Int},vs a f (nx,mk) n=some (A,mk')→nx≤A∧mk'.length=mk.length:=by
 intro f
 induction f with
 | zero=>intro nx A mk mk' n h; cases h
 | succ f ih=>
   intro nx A mk mk' n h;have C:∀ (es:List (UInt8×Int)) (nx A:Nat) (mk mk':List Nat),es.foldlM (fun s e=>vs a f s e.2) (nx,mk)=some (A,mk')→nx≤A∧mk'.length=mk.length:=by
    intro es
    induction es with
    | nil=>intro nx A mk mk' h; simp only [pw,pH,bM,gT] at h; obtain ⟨rfl,rfl⟩:=h; exact ⟨aQ _,rfl⟩
    | cons e es E=>
      intro nx A mk mk' h;simp only [pv,pE,pF] at h;obtain ⟨⟨I,m1⟩,h1,h2⟩:=h;have J:=ih h1;have L:=E _ _ _ _ h2;exact ⟨ab,ab⟩
   rw [vs] at h;split at h
   · split at h
     · cases h; exact ⟨aQ _,rfl⟩
     · cases h
   · split at h
     · cases h
     · split at h
       · simp only [gG] at h;obtain ⟨⟨I,m1⟩,h1,h2⟩:=h;simp only [gT] at h2;obtain ⟨rfl,rfl⟩:=h2;have :=C _ _ _ _ _ h1;simp only [gl] at this ⊢;exact ⟨ab,this.2⟩
       · cases h
def IZ (a:List aM) (l:List Nat) (i:Nat):Prop :=i < a.length∧dW (aO a i).2∧gv a (aO a i)=true∧∀ e∈(aO a i).2,0≤e.2∧e.2.toNat∈l
inductive Ord (a:List aM):List Nat→Prop
 | nil:Ord a []
 | snoc {l i} :Ord a l→IZ a l i→i∉l→Ord a (l++ [i])
def uo (a:List aM) (i:Nat):Prop := ∃ j,j < i∧∃ e∈(aO a j).2,e.2=(i:Int)
structure pJ (a:List aM) (nx:Nat) (mk:List Nat) (l:List Nat):Prop where
 ord:Ord a l
 len:mk.length=a.length
 le:nx≤a.length
 done :∀ i,mk.getD i 0=2↔i∈l
 lt:∀ i∈l,i < nx
 zero:∀ i,nx≤i→mk.getD i 0=0
theorem mP (mk:List Nat) (i j x:Nat) (h:i < mk.length):(mk.set i x).getD j 0=if i=j then x else mk.getD j 0:=by grind
theorem Lg:∀ (f:Nat) {nx J:Nat} {mk mk':List Nat} {n:Int} {l:List Nat},vs a f (nx,mk) n=some (J,mk')→pJ a nx mk l→
 ∃ C,pJ a J mk' (l++C)∧(∀ i,i < nx→mk'.getD i 0=mk.getD i 0)∧(∀ i,nx≤i→i < J→i∈C)∧0≤n∧n.toNat∈l++C∧(∀ i,nx≤i→i < J→(i:Int)=n∨uo a i):=by
 intro f
 induction f with
 | zero=>intro nx J mk mk' n l h; cases h
 | succ f ih=>
   intro nx J mk mk' n l h V;rw [vs] at h;split at h
   · rename_i hn;split at h
     · rename_i L;cases h;exact ⟨[],by rw [nS]; exact V,fun _ _=>rfl,fun i h1 A=>by omega,L.1,by rw [nS]; exact (V.done _).1 L.2.2,fun i h1 A=>by omega⟩
     · cases h
   · rename_i hn;have hn:n=nx:=Classical.not_not.1 hn;split at h
     · cases h
     · rename_i aA;split at h
       · rename_i L;simp only [gG] at h;obtain ⟨⟨aB,m1⟩,h1,A⟩:=h;simp only [gT] at A;obtain ⟨rfl,rfl⟩:=A;have Z:nx < mk.length:=by rw [V.len]; omega
         have ai:pJ a (nx+1) (mk.set nx 1) l:=by
          refine ⟨V.ord,by rw [gl]; exact V.len,ab,fun i=> ?_,fun i hi=>by have :=V.lt i hi; omega,fun i hi=> ?_⟩
          · rw [mP _ _ _ _ Z];by_cases e:nx=i
            · subst e; rw [if_pos rfl];exact ⟨fun h=>by omega,fun h=>by have :=V.lt _ h; omega⟩
            · rw [if_neg e]; exact V.done i
          · rw [mP _ _ _ _ Z,if_neg ab]; exact V.zero i ab
         have ar:∀ (es:List (UInt8×Int)) (k I:Nat) (m M:List Nat) (l:List Nat),(∀ e∈es,e∈(aO a nx).2)→nx+1≤k→es.foldlM (fun s e=>vs a f s e.2) (k,m)=some (I,M)→pJ a k m l→
          ∃ C,pJ a I M (l++C)∧(∀ i,i < k→M.getD i 0=m.getD i 0)∧(∀ i,k≤i→i < I→i∈C)∧(∀ e∈es,0≤e.2∧e.2.toNat∈l++C)∧(∀ i,k≤i→i < I→uo a i)∧k≤I:=by
          intro es
          induction es with
          | nil=>
            intro k I m M l _ _ h V;simp only [pw,pH,bM,gT] at h;obtain ⟨rfl,rfl⟩:=h;exact ⟨[],by rw [nS]; exact V,fun _ _=>rfl,fun i h1 A=>by omega,fun e he=>by simp at he,fun i h1 A=>by omega,aQ _⟩
          | cons e es av=>
            intro k I m M l ag ay h V;simp only [pv,pE,pF] at h;obtain ⟨⟨ah,m1⟩,g1,g2⟩:=h;obtain ⟨aw,aj,ak,al,am,ao,ap⟩:=ih g1 V;have az:=(xN f g1).1;obtain ⟨ax,X1,O,aa,ac,ad,aq⟩:=av _ _ _ _ _ (fun e he=>ag e<|by simp [he]) ab g2 aj;rw [kq] at X1;refine ⟨aw++ax,X1,fun i hi=>(O i ab).trans (ak i hi),fun i h1 A=> ?_,fun e' ae=> ?_,fun i h1 A=> ?_,ab⟩
            · rcases dF i ah with h | h
              · exact pB _<|al i h1 h
              · exact List.mem_append_right _<|aa i h A
            · rcases ei.1 ae with rfl | ae
              · refine ⟨am,?_⟩;rw [← kq]; exact pB _ ao
              · have :=ac e' ae;rw [kq] at this; exact this
            · rcases dF i ah with h | h
              · rcases ap i h1 h with E | E
                · exact ⟨nx,ab,e,ag e (by simp),E.symm⟩
                · exact E
              · exact ad i h A
         obtain ⟨C,X1,O,aa,ac,ad,aq⟩:=ar _ _ _ _ _ _ (fun _ h=>h) (aQ _) h1 ai;have kF:nx < m1.length:=by rw [X1.len]; omega
         have au:nx∉l++C:=fun h=>by
          have E:=(X1.done nx).2 h;rw [O nx ab,mP _ _ _ _ Z,if_pos rfl] at E; omega
         refine ⟨C++ [nx],?_,fun i hi=> ?_,fun i A E=> ?_,ab,?_,fun i A E=> ?_⟩
         · rw [← kq];refine ⟨.snoc X1.ord ⟨ab,L.1,L.2,ac⟩ au,by rw [gl]; exact X1.len,X1.le,fun i=> ?_,fun i hi=> ?_,fun i hi=> ?_⟩
           · rw [mP _ _ _ _ kF,eA,eQ];by_cases e:nx=i
             · subst e; rw [if_pos rfl]; exact ⟨fun _=> .inr rfl,fun _=>rfl⟩
             · rw [if_neg e,X1.done i]; exact ⟨.inl,fun h=>h.elim id fun h=>absurd h.symm e⟩
           · rw [eA,eQ] at hi;rcases hi with hi | rfl
             · exact X1.lt i hi
             · omega
           · rw [mP _ _ _ _ kF,if_neg ab]; exact X1.zero i hi
         · rw [mP _ _ _ _ kF,if_neg ab,O i ab,mP _ _ _ _ Z,if_neg ab]
         · rw [eA,eQ];rcases EC A with U | U
           · exact .inr U.symm
           · exact .inl<|aa i ab E
         · rw [← kq,eA,eQ]; right; omega
         · rcases EC A with U | U
           · left; omega
           · exact .inr<|ad i ab E
       · cases h
structure uu (a:List aM) (l:List Nat):Prop where
 pos :0 < a.length
 le:a.length≤1048576
 ord:Ord a l
 all:∀ i,i < a.length→i∈l
 met:∀ i,0 < i→i < a.length→uo a i
theorem J5 (h:shaped a=true):∃ l,uu a l:=by
 unfold shaped at h;simp only [a0,decide_eq_true_eq] at h;obtain ⟨⟨h1,J⟩,A⟩:=h;split at A
 · rename_i s L;obtain ⟨k,m⟩:=s;have A:=of_decide_eq_true A;simp only at A;subst A;have C:∀ i,(cZ a.length 0).getD i 0=0:=fun i=>by
    rw [b9,List.getElem?_replicate]; split <;> rfl
   obtain ⟨l,V,_,E,_,_,I⟩:=Lg (l:= []) _ L ⟨.nil,by simp,ab,fun i=>by rw [C]; simp,fun i hi=>by simp at hi,fun i _=>C i⟩;refine ⟨l,h1,J,by simpa using V.ord,fun i hi=>E i ab hi,fun i h0 hi=>(I i ab hi).resolve_left ab⟩
 · cases A
theorem Ord.st {l:List Nat} (h:Ord a l):∀ i∈l,dW (aO a i).2∧gv a (aO a i)=true∧∀ e∈(aO a i).2,0≤e.2∧e.2.toNat∈l:=by
 induction h with
 | nil=>intro i hi; simp at hi
 | snoc _ A _ ih=>
   intro i hi;rcases eA.1 hi with h | h
   · obtain ⟨h1,E,C⟩:=ih i h; exact ⟨h1,E,fun e he=>⟨(C e he).1,pB _ (C e he).2⟩⟩
   · rw [eQ] at h; subst h; exact ⟨A.2.1,A.2.2.1,fun e he=>⟨(A.2.2.2 e he).1,pB _ (A.2.2.2 e he).2⟩⟩
variable {l:List Nat}
theorem uu.BW (h:uu a l) {i:Nat} (hi:i < a.length):dW (aO a i).2:=(h.ord.st i<|h.all i hi).1
theorem xO {f nx:Nat} {mk:List Nat} {n:Int} (h:n≠nx):vs a (f+1) (nx,mk) n=if 0≤n∧n < nx∧mk.getD n.toNat 0=2 then some (nx,mk) else none:=by rw [vs,if_pos h]
theorem Dd {f nx:Nat} {mk:List Nat} {n:Int} (h:n=nx) (A:a.length≤nx):vs a (f+1) (nx,mk) n=none:=by rw [vs,if_neg (fun e=>e h),if_pos A]
theorem tD {f nx:Nat} {mk:List Nat} {n:Int} (h:n=nx) (A:nx < a.length) (C:¬(dW (aO a nx).2∧gv a (aO a nx)=true)):vs a (f+1) (nx,mk) n=none:=by grind [vs]
theorem Db {f nx:Nat} {mk:List Nat} {n:Int} (h:n=nx) (A:nx < a.length) (C:dW (aO a nx).2) (E:gv a (aO a nx)=true):
 vs a (f+1) (nx,mk) n=((aO a nx).2.foldlM (fun s e=>vs a f s e.2) (nx+1,mk.set nx 1)).map fun s=>(s.1,s.2.set nx 2):=by grind [vs]
theorem Lh:∀ (f:Nat) {nx A:Nat} {mk mk':List Nat} {n:Int},vs a f (nx,mk) n=some (A,mk')→nx≤a.length→A≤a.length:=by
 intro f
 induction f with
 | zero=>intro nx A mk mk' n h; cases h
 | succ f ih=>
   intro nx A mk mk' n h hle;have C:∀ (es:List (UInt8×Int)) (nx A:Nat) (mk mk':List Nat),es.foldlM (fun s e=>vs a f s e.2) (nx,mk)=some (A,mk')→nx≤a.length→A≤a.length:=by
    intro es
    induction es with
    | nil=>intro nx A mk mk' h; simp only [pw,pH,bM,gT] at h; obtain ⟨rfl,rfl⟩:=h; exact id
    | cons e es E=>
      intro nx A mk mk' h hle;simp only [pv,pE,pF] at h;obtain ⟨⟨I,m1⟩,h1,h2⟩:=h;exact E _ _ _ _ h2<|ih h1 hle
   rw [vs] at h;split at h
   · split at h
     · cases h; exact hle
     · cases h
   · split at h
     · cases h
     · split at h
       · simp only [gG] at h;obtain ⟨⟨I,m1⟩,h1,h2⟩:=h;simp only [gT] at h2;obtain ⟨rfl,rfl⟩:=h2;exact C _ _ _ _ _ h1 ab
       · cases h
def fG (a:List aM) (f nx:Nat) (mk:List Nat) (es:List (UInt8×Int)):Option (Nat×List Nat):=es.foldlM (fun s e=>vs a f s e.2) (nx,mk)
theorem Lk {f nx:Nat} {mk:List Nat} {es:List (UInt8×Int)} {e:UInt8×Int} {s:Nat×List Nat} (h:fG a f nx mk es=some s):fG a f nx mk (es++ [e])=vs a f s e.2:=by
 unfold fG at*;rw [El,h];simp
theorem Lj {f nx:Nat} {mk:List Nat} {es es':List (UInt8×Int)} (h:fG a f nx mk es=none):fG a f nx mk (es++es')=none:=by grind [fG,El]
theorem tF {f nx:Nat} {mk:List Nat} {es:List (UInt8×Int)} {s:Nat×List Nat} (h:fG a f nx mk es=some s) (hle:nx≤a.length):nx≤s.1∧s.2.length=mk.length∧s.1≤a.length:=by
 unfold fG at h
 induction es generalizing nx mk with
 | nil=>simp only [pw,pH,bM] at h; subst h; exact ⟨aQ _,rfl,hle⟩
 | cons e es ih=>
   simp only [pv,pE,pF] at h;obtain ⟨⟨E,m1⟩,h1,h2⟩:=h;have C:=xN f h1;have A:=ih h2<|Lh f h1 hle;exact ⟨ab,ab,A.2.2⟩
theorem sR {es:List (UInt8×Int)} {k:Nat} {e:UInt8×Int} (h:dW (es.take k)) (he:es[k]? =some e) (hp:∀ p,0 < k→es[k - 1]? =some p→p.1.toNat < e.1.toNat):dW (es.take<|k+1):=by
 obtain ⟨J,rfl⟩:=cK.1 he;rw [EA J];unfold dW at*;refine List.pairwise_append.2 ⟨h,by simp,fun x L y C=> ?_⟩;rw [eQ] at C; subst C;obtain ⟨j,I,rfl⟩:=tY.1 L;simp only [dB] at I;have h1:=hp es[k - 1] ab<|bG ab;rcases dF j (k - 1) with A | A
 · have E:=pD.1 h j (k - 1) (by rw [dB]; omega) (by rw [dB]; omega) A;rw [tV,tV] at E;rw [tV]; omega
 · have :j=k - 1:=ab;subst this;rw [tV]; exact h1
theorem Bu {es:List (UInt8×Int)} {k:Nat} {e p:UInt8×Int} (h0:0 < k) (he:es[k]? =some e) (hp:es[k - 1]? =some p) (h:e.1.toNat≤p.1.toNat):¬dW es:=fun hr=>by
 obtain ⟨A,rfl⟩:=cK.1 he;obtain ⟨C,rfl⟩:=cK.1 hp;have :=pD.1 hr (k - 1) k C A ab;omega
theorem Da {f nx:Nat} {mk:List Nat} {s:Nat×List Nat} (A:nx < a.length) (hr:dW (aO a nx).2) (C:fG a f (nx+1) (mk.set nx 1) (aO a nx).2=some s):vs a (f+1) (nx,mk) (nx:Int)=if gv a (aO a nx)=true then some (s.1,s.2.set nx 2) else none:=by
 by_cases h:gv a (aO a nx)=true
 · rw [Db rfl A hr h,if_pos h];unfold fG at C;rw [C]; rfl
 · rw [tD rfl A (fun e=>h e.2),if_neg h]
theorem tE {f nx k:Nat} {mk:List Nat} (C:nx < a.length) (h:fG a f (nx+1) (mk.set nx 1) ((aO a nx).2.take k)=none):vs a (f+1) (nx,mk) (nx:Int)=none:=by
 by_cases A:dW (aO a nx).2∧gv a (aO a nx)=true
 · rw [Db rfl C A.1 A.2];have :=Lj (es':=(aO a nx).2.drop k) h;rw [List.take_append_drop] at this;unfold fG at this;rw [this]; rfl
 · exact tD U C A
theorem Dc {f nx:Nat} {mk:List Nat} (A:nx < a.length) (h:¬dW (aO a nx).2):vs a (f+1) (nx,mk) (nx:Int)=none:=tD rfl A (fun e=>h e.1)
theorem Lf {f nx:Nat} {mk:List Nat} (A:nx < a.length) (h:gv a (aO a nx)=false):vs a (f+1) (nx,mk) (nx:Int)=none:=tD rfl A (fun e=>by rw [h] at e; exact Bool.noConfusion e.2)
theorem l9 {f nx k:Nat} {mk:List Nat} {es:List (UInt8×Int)} {e:UInt8×Int} {s:Nat×List Nat} (h:fG a f nx mk (es.take k)=some s) (he:es[k]? =some e):fG a f nx mk (es.take<|k+1)=vs a f s e.2:=by
 obtain ⟨A,rfl⟩:=cK.1 he;rw [EA A];exact Lk h
theorem A5 {q:aM} (h:0 < q.2.length):gv a q=true :=by grind [gv]
theorem A4 {q:aM} (h:q.1=true):gv a q=true :=by
 unfold gv; rw [h,Bool.or_true,Bool.true_or]
theorem vQ {q:aM} (h:¬0 < q.2.length) (A:q.1=false):gv a q=decide (a.length=1):=by grind [gv,List.eq_nil_of_length_eq_zero]
theorem getD_set_ne (mk:List Nat) {i j:Nat} (x:Nat) (h:i≠j):(mk.set i x).getD j 0=mk.getD j 0:=by grind
theorem Li:∀ (f:Nat) {nx A:Nat} {mk mk':List Nat} {n:Int},vs a f (nx,mk) n=some (A,mk')→(∀ i,nx≤i→mk.getD i 0=0)→∀ i,A≤i→mk'.getD i 0=0:=by
 intro f
 induction f with
 | zero=>intro nx A mk mk' n h; cases h
 | succ f ih=>
   intro nx A mk mk' n h C;have I:∀ (es:List (UInt8×Int)) (nx A:Nat) (mk mk':List Nat),es.foldlM (fun s e=>vs a f s e.2) (nx,mk)=some (A,mk')→(∀ i,nx≤i→mk.getD i 0=0)→nx≤A∧∀ i,A≤i→mk'.getD i 0=0:=by
    intro es
    induction es with
    | nil=>intro nx A mk mk' h; simp only [pw,pH,bM,gT] at h; obtain ⟨rfl,rfl⟩:=h; exact fun h=>⟨aQ _,h⟩
    | cons e es J=>
      intro nx A mk mk' h C;simp only [pv,pE,pF] at h;obtain ⟨⟨L,m1⟩,h1,h2⟩:=h;have g:=J _ _ _ _ h2<|ih h1 C;exact ⟨cS (xN f h1).1 g.1,g.2⟩
   rw [vs] at h;split at h
   · split at h
     · cases h; exact C
     · cases h
   · split at h
     · cases h
     · split at h
       · simp only [gG] at h;obtain ⟨⟨L,m1⟩,h1,h2⟩:=h;simp only [gT] at h2;obtain ⟨rfl,rfl⟩:=h2;obtain ⟨M,E⟩:=I _ _ _ _ _ h1 fun i hi=>by rw [getD_set_ne _ _ ab]; exact C i ab
         exact fun i hi=>by rw [getD_set_ne _ _ ab]; exact E i hi
       · cases h
theorem Ll {f nx:Nat} {mk:List Nat} {es:List (UInt8×Int)} {s:Nat×List Nat} (h:fG a f nx mk es=some s) (A:∀ i,nx≤i→mk.getD i 0=0):∀ i,s.1≤i→s.2.getD i 0=0:=by
 unfold fG at h
 induction es generalizing nx mk with
 | nil=>simp only [pw,pH,bM] at h; subst h; exact A
 | cons e es ih=>
   simp only [pv,pE,pF] at h;obtain ⟨⟨C,m1⟩,h1,h2⟩:=h;exact ih h2<|Li f h1 A
theorem tj (h:¬(0 < a.length∧a.length≤1048576)):shaped a=false :=by grind [shaped]
theorem Cw (h:vs a (a.length+1) (0,cZ a.length 0) 0=none):shaped a=false :=by
 unfold shaped; rw [h,Bool.and_false]
theorem tk {s:Nat×List Nat} (h1:0 < a.length) (A:a.length≤1048576) (h:vs a (a.length+1) (0,cZ a.length 0) 0=some s):shaped a=decide (s.1=a.length):=by grind [shaped]
end
end Go.Hb
namespace Go.Hb
structure lG (h:Array Obj) (ea:Option Addr) (es:List (UInt8×Int)):Prop where
 ok:0 < es.length→ea=some ⟨bk ea,fo ea,none⟩
 b:∀ k e,es[k]? =some e→ay h (bk ea) (fo ea+k*2 +0)=some (.int .u8 e.1.toNat)
 to:∀ k e,es[k]? =some e→ay h (bk ea) (fo ea+k*2 +1)=some (.int .i64 e.2)
theorem lG.wk {w w':ah} {A:Option Addr} {es:List (UInt8×Int)} (h:lG w.heap A es) (hm:Wk w w'):lG w'.heap A es:=⟨h.ok,fun k e he=>hm.ay (h.b k e he),fun k e he=>hm.ay<|h.to k e he⟩
theorem xH {h:Array Obj} {b o:Nat} {u v:ag} (h0:ay h b (o+0)=some u) (h1:ay h b (o+1)=some v):∀ j,j < 2→ay h b (o+j)= [u,v][j]? :=by grind
theorem lG.two {h:Array Obj} {A:Option Addr} {es:List (UInt8×Int)} (C:lG h A es) {k:Nat} {e:UInt8×Int} (he:es[k]? =some e):∀ j,j < 2→ay h (bk A) (fo A+k*2 +j)= [Value.int .u8 e.1.toNat,.int .i64 e.2][j]? :=xH (C.b k e he)<|C.to k e he
structure gV (h:Array Obj) (aa:Option Addr) (a:List aM):Prop where
 ok:0 < a.length→aa=some ⟨bk aa,fo aa,none⟩
 st:∀ i,i < a.length→∃ ea ec,ay h (bk aa) (fo aa+i*2 +0)=some (.bool (aO a i).1)∧ay h (bk aa) (fo aa+i*2 +1)=some (.slice ea (aO a i).2.length ec)∧lG h ea (aO a i).2
theorem gV.wk {w w':ah} {A:Option Addr} {a:List aM} (h:gV w.heap A a) (hm:Wk w w'):gV w'.heap A a:=
 ⟨h.ok,fun i hi=>by
  obtain ⟨C,E,h1,I,J⟩:=h.st i hi;exact ⟨C,E,hm.ay h1,hm.ay I,J.wk hm⟩⟩
theorem gV.two {h:Array Obj} {C:Option Addr} {a:List aM} (L:gV h C a) {i:Nat} (hi:i < a.length):∃ A E,(∀ j,j < 2→ay h (bk C) (fo C+i*2 +j)= [Value.bool (aO a i).1,.slice A (aO a i).2.length E][j]?)∧lG h A (aO a i).2:=by
 obtain ⟨A,E,h1,I,J⟩:=L.st i hi;exact ⟨A,E,xH h1 I,J⟩
theorem BJ {w:ah} {B e size n b:Nat} {xs:List ag} (h:w.ownsRow B e size (.slice (some ⟨b,0,none⟩) n n) n xs):aC w.heap b xs:=by
 rcases h.2 with ⟨hn,_⟩ | ⟨g,cap,cur,C,_,E,_,_,I,A⟩
 · cases hn
 · simp only [Value.slice.injEq,bM,Addr.mk.injEq,and_true,true_and] at C;obtain ⟨rfl,rfl⟩:=C;rw [ri (by rw [Array.length_toList,I]; exact aQ _)] at A;exact ⟨_,by rw [← A]; simpa using E⟩
theorem l7 {w w':ah} {b o:Nat} {u v:ag} (hm:Wk w w') (h:∀ j,j < 2→ay w.heap b (o+j)= [u,v][j]?):∀ j,j < 2→ay w'.heap b (o+j)= [u,v][j]? :=xH (hm.ay<|h 0 ab)<|hm.ay<|h 1 ab
theorem Md.cy {F:Nat→Prop} {w w':ah} (h:Md F w.drew w'):Md F w w':=⟨h.os,h.output,h.size,h.dH⟩
def jq (n:Nat):ag:= .int .u8 n
theorem yX {h:Array Obj} {b:Nat} {f:Nat→ag} {mk:List Nat} {i:Nat} (hb:aC h b (mk.map f)) (hi:i < mk.length):ay h b (0 +i*1)=some (f<|mk.getD i 0):=by
 rw [Nat.mul_one,Nat.zero_add,hb.ay,fq,b9,bG hi]; rfl
end Go.Hb
namespace Go.Hb
abbrev Nr:Type :=List UInt8×Nat
end Go.Hb
namespace Go.Hb
theorem J8 (m:Nat):(m:Int).fdiv (2 ^ min (1:Int).toNat IntKind.u64.bits)=((m / 2:Nat):Int):=by
 show (m:Int).fdiv 2=_;rw [Int.fdiv_eq_ediv_of_nonneg _ ab]; rfl
section
variable {P:au} {N:Fm} {σ:Nat→ag} {w:ah} {ty:av} {pos :String} {af:Array bT} {g:Option (Nat×Bool)} {x y:aW} {K:(Nat→ag)→ah→Prop}
end
end Go.Hb
namespace Go.Hb
def Ci (l:List Nr) (c d:Nat):List Nr:=(l.drop c).take<|d - c
end Go.Hb
namespace Go.Hb
end Go.Hb
end
section
namespace Go.Hb
def dJ:List UInt8→Nat
 | []=>0
 | b::l=>b.toNat % 128 +128 *dJ l
theorem vR:∀ (l m:List UInt8),dJ (l++m)=dJ l+128 ^ l.length*dJ m
 | [],m=>by simp [dJ]
 | b::l,m=>by
   rw [List.cons_append,dJ,dJ,vR l m,dP,ui,Nat.mul_add,← Nat.mul_assoc,Nat.mul_comm 128 (128 ^ l.length)]; omega
theorem su:∀ (l:List UInt8),dJ l < 128 ^ l.length
 | []=>by simp [dJ]
 | b::l=>by
   have :=su l;rw [dJ,dP,ui]; omega
def fY (l:List UInt8):Nat:=((l.take 10).takeWhile fun b=>decide (128≤b.toNat)).length
theorem C1 {f:UInt8→Bool} :∀ {l:List UInt8} {k:Nat},(∀ j,j < k→j < l.length∧f (l.getD j 0)=true)→(l.length≤k∨f (l.getD k 0)=false)→(l.takeWhile f).length=k
 | [],k,h,_=>by
   cases k with
   | zero=>rfl
   | succ k=>have :=(h 0 ab).1; simp at this
 | b::l,0,_,A=>by
   rcases A with A | A
   · simp at A
   · simp only [tU] at A;rw [Ey,A]; rfl
 | b::l,k+1,h1,A=>by
   have h0:=(h1 0 ab).2;simp only [tU] at h0;rw [Ey,h0,if_pos rfl,dP,C1 (k:=k) (fun j C=>by have :=h1 (j+1) ab; simpa using this) (by simpa using A)]
theorem CU {l:List UInt8} {n j:Nat} (h:j < n):(l.take n).getD j 0=l.getD j 0:=by
 rw [b9,List.getElem?_take_of_lt h,b9]
theorem zQ {l:List UInt8} {n j:Nat} :(l.drop n).getD j 0=l.getD (n+j) 0:=by
 rw [b9,ik,b9]
theorem jF {s:List UInt8} {a k:Nat} (J:k≤10) (h:∀ j,j < k→a+j < s.length∧128≤(s.getD (a+j) 0).toNat) (A:k=10∨s.length≤a+k∨(s.getD (a+k) 0).toNat < 128):fY (s.drop a)=k:=by
 unfold fY;refine C1 (fun j E=> ?_) ?_
 · obtain ⟨h1,C⟩:=h j E;refine ⟨by rw [dB,ji]; omega,?_⟩;rw [CU ab,zQ];exact decide_eq_true C
 · rcases A with A | A | A
   · exact .inl<|by rw [dB]; omega
   · exact .inl<|by rw [dB,ji]; omega
   · by_cases I:k=10
     · exact .inl<|by rw [dB]; omega
     · refine .inr ?_;rw [CU ab,zQ];exact decide_eq_false ab
def a9 (s:List UInt8) (a:Nat):Except Nat (Nat×Nat):=
 if fY (s.drop a)=10 then .error 61 else if s.length≤a+fY (s.drop a) then .error 60
 else if (fY (s.drop a)=9∧1 < (s.getD (a+fY (s.drop a)) 0).toNat)∨(0 < fY (s.drop a)∧(s.getD (a+fY (s.drop a)) 0).toNat=0) then .error 61
 else .ok (dJ ((s.drop a).take<|fY (s.drop a)+1),a+fY (s.drop a)+1)
section
variable {s:List UInt8} {a k n p:Nat}
theorem Ca (h:fY (s.drop a)=10):a9 s a= .error 61:=by unfold a9; rw [if_pos h]
theorem ta (h:fY (s.drop a)=k) (A:k≠10) (C:s.length≤a+k):a9 s a= .error 60:=by unfold a9; rw [h,if_neg A,if_pos C]
theorem oQ (h:fY (s.drop a)=k) (C:k≠10) (E:a+k < s.length) (A:(k=9∧1 < (s.getD (a+k) 0).toNat)∨(0 < k∧(s.getD (a+k) 0).toNat=0)):a9 s a= .error 61:=by
 unfold a9; rw [h,if_neg C,if_neg ab,if_pos A]
theorem sZ (h:fY (s.drop a)=k) (C:k≠10) (E:a+k < s.length) (A:¬((k=9∧1 < (s.getD (a+k) 0).toNat)∨(0 < k∧(s.getD (a+k) 0).toNat=0))):a9 s a= .ok (dJ ((s.drop a).take<|k+1),a+k+1):=by
 unfold a9; rw [h,if_neg C,if_neg ab,if_neg A]
theorem jb (h:a9 s a= .ok (n,p)):a < p∧p≤s.length∧n < 18446744073709551616:=by
 unfold a9 at h;split at h
 · cases h
 · split at h
   · cases h
   · split at h
     · cases h
     · rename_i h1 M O;simp only [Except.ok.injEq,gT] at h;obtain ⟨rfl,rfl⟩:=h;refine ⟨ab,ab,?_⟩;have Z:fY (s.drop a)≤10:=by
        unfold fY;exact cS (List.takeWhile_sublist _).length_le<|by rw [dB]; omega
       generalize V:fY (s.drop a)=k at*;have L:=su<|(s.drop a).take<|k+1;have hlen:((s.drop a).take<|k+1).length=k+1:=by rw [dB,ji]; omega
       by_cases J:k=9
       · subst J;rw [show (9:Nat)+1=10 from rfl,List.take_add_one,vR];have A:=su<|(s.drop a).take 9;have E:((s.drop a).take 9).length=9:=by rw [dB,ji]; omega
         rw [E] at A ⊢;have I:(s.drop a)[9]? =some (s.getD (a+9) 0):=by
          rw [ik,b9,bG ab]; rfl
         rw [I];simp only [Option.toList_some,dJ];have U:(s.getD (a+9) 0).toNat≤1:=ab;have C:(128:Nat) ^ 9=9223372036854775808:=aE;rw [C] at A ⊢;omega
       · rw [hlen] at L;have :(128:Nat) ^ (k+1)≤128 ^ 9:=Nat.pow_le_pow_right aE ab;have C:(128:Nat) ^ 9=9223372036854775808:=aE;omega
end
def cq {α:Type} (f:Nat→Except Nat (α×Nat)):Nat→Nat→Except Nat (List α×Nat)
 | 0,a=> .ok ([],a)
 | k+1,a=>match cq f k a with
   | .error e=> .error e
   | .ok (l,p)=>match f p with
     | .error e=> .error e
     | .ok (x,q)=> .ok (l++ [x],q)
section
variable {α:Type} {f:Nat→Except Nat (α×Nat)} {k n a p q e:Nat} {l:List α} {x:α}
theorem lR (h:cq f k a= .ok (l,p)) (A:f p= .ok (x,q)):cq f (k+1) a= .ok (l++ [x],q):=by rw [cq,h]; simp only [A]
theorem hO (h:cq f k a= .ok (l,p)) (A:f p= .error e) (hn:k < n):cq f n a= .error e:=by
 have h1:cq f (k+1) a= .error e:=by rw [cq,h]; simp only [A]
 obtain ⟨d,rfl⟩:∃ d,n=k+1 +d:=⟨n - (k+1),ab⟩
 clear hn
 induction d with
 | zero=>exact h1
 | succ d ih=>rw [← iN,cq,ih]
theorem iy:∀ {k:Nat} {l:List α} {p:Nat},cq f k a= .ok (l,p)→l.length=k
 | 0,l,p,h=>by cases h; rfl
 | k+1,l,p,h=>by
   rw [cq] at h;split at h
   · cases h
   · rename_i C p2 A;split at h
     · cases h
     · cases h;rw [List.length_append,iy A]; rfl
theorem mR {R:Nat→Prop} {S:α→Prop} (E:∀ p x q,R p→f p= .ok (x,q)→R q∧S x):∀ {k:Nat} {l:List α} {p:Nat},R a→cq f k a= .ok (l,p)→R p∧∀ x∈l,S x
 | 0,l,p,ha,h=>by cases h; exact ⟨ha,fun x C=>by simp at C⟩
 | k+1,l,p,ha,h=>by
   rw [cq] at h;split at h
   · cases h
   · rename_i U p2 I;obtain ⟨J,L⟩:=mR E ha I;split at h
     · cases h
     · rename_i x q C;cases h;obtain ⟨M,O⟩:=E _ _ _ J C;refine ⟨M,fun y A=> ?_⟩;rcases eA.1 A with A | A
       · exact L y A
       · rw [eQ.1 A]; exact O
end
def cQ (s:List UInt8) (a:Nat):Except Nat (List UInt8×Nat):=match a9 s a with
 | .error e=> .error e
 | .ok (n,p)=>if 255 < n then .error 62 else if s.length < p+n then .error 60 else .ok ((s.drop p).take n,p+n)
def gz (s:List UInt8) (a:Nat):Except Nat ((List UInt8×List UInt8)×Nat):=match cQ s a with
 | .error e=> .error e
 | .ok (f,p)=>match cQ s p with
   | .error e=> .error e
   | .ok (t,q)=> .ok ((f,t),q)
def dX (s:List UInt8) (n a:Nat):Except Nat ((UInt8×Int)×Nat):=if s.length≤a then .error 60 else match a9 s (a+1) with
 | .error e=> .error e
 | .ok (t,p)=>if n≤t then .error 190 else .ok ((s.getD a 0,(t:Int)),p)
def fm (s:List UInt8) (n a:Nat):Except Nat (aM×Nat):=match a9 s a with
 | .error e=> .error e
 | .ok (v,p)=>if 256 < v / 2 then .error 190 else match cq (dX s n) (v / 2) p with
   | .error e=> .error e
   | .ok (es,q)=> .ok ((decide (v % 2=1),es),q)
def cJ (s:List UInt8) (a:Nat):Except Nat (List aM×Nat):=match a9 s a with
 | .error e=> .error e
 | .ok (n,p)=>if n=0∨1048576 < n then .error 190 else match cq (fm s n) n p with
   | .error e=> .error e
   | .ok (l,q)=>if shaped l=true then .ok (l,q) else .error 190
def gM (r:List UInt8×List UInt8):Bool:=decide (r.1≠[]) && (fQ r.1 && decide (r.1.length≤32)) && (fQ r.2 && decide (r.2.length≤32))
def dZ (n:Nat) (t:List UInt8) (rs:List (List UInt8×List UInt8)):Bool:=decide (1≤n∧n≤64∧rs.length≤256) && (decide (t= []) || decide (letE t=(t,0))) && rs.all gM
structure dU where
 least:Nat
 tr:List UInt8
 cH:List (List UInt8×List UInt8)
 aq:List (List aM)
def eJ:List UInt8:= [72,66,75,49]
def fS (s:List UInt8) (n:Nat) (t:List UInt8) (rs:List (List UInt8×List UInt8)) (a:Nat):Except Nat dU:=
 if dZ n t rs=true then match cq (cJ s) 4 a with
  | .error e=> .error e
  | .ok (l,p)=>if p=s.length then .ok ⟨n,t,rs,l⟩ else .error 202
 else .error 201
def bJ (s:List UInt8):Except Nat dU:=
 if s.take 4=eJ then match a9 s 4 with
  | .error e=> .error e
  | .ok (n,p1)=>match cQ s p1 with
    | .error e=> .error e
    | .ok (t,p2)=>match a9 s p2 with
      | .error e=> .error e
      | .ok (m,p3)=>if 256 < m then .error 201 else match cq (gz s) m p3 with
        | .error e=> .error e
        | .ok (rs,p4)=>fS s (if n≤64 then n else 0) t rs p4
 else .error 200
section
variable {s:List UInt8} {a n p:Nat}
theorem ot {f:List UInt8} (h:cQ s a= .ok (f,p)):a < p∧p≤s.length∧f.length≤255:=by
 unfold cQ at h;split at h
 · cases h
 · rename_i n q A;obtain ⟨h1,C,_⟩:=jb A;split at h
   · cases h
   · split at h
     · cases h
     · cases h;exact ⟨ab,ab,by rw [dB]; omega⟩
theorem Jy {r:List UInt8×List UInt8} (h:gz s a= .ok (r,p)):a < p∧p≤s.length∧r.1.length≤255∧r.2.length≤255:=by
 unfold gz at h;split at h
 · cases h
 · rename_i f q I;obtain ⟨h1,L,A⟩:=ot I;split at h
   · cases h
   · rename_i t O J;obtain ⟨M,C,E⟩:=ot J;cases h;exact ⟨ab,C,A,E⟩
theorem GM {e:UInt8×Int} (h:dX s n a= .ok (e,p)):a < p∧p≤s.length∧0≤e.2∧e.2 < n:=by
 unfold dX at h;split at h
 · cases h
 · split at h
   · cases h
   · rename_i t q C;obtain ⟨h1,A,_⟩:=jb C;split at h
     · cases h
     · cases h;exact ⟨ab,A,by show (0:Int)≤(t:Int); omega,by show (t:Int) < n; omega⟩
theorem qI {x:aM} (h:fm s n a= .ok (x,p)):a < p∧p≤s.length∧x.2.length≤256∧∀ e∈x.2,0≤e.2∧e.2 < n:=by
 unfold fm at h;split at h
 · cases h
 · rename_i v q L;obtain ⟨h1,I,_⟩:=jb L;split at h
   · cases h
   · split at h
     · cases h
     · rename_i es Z A;have V:=iy A;obtain ⟨⟨U,J⟩,h5⟩:=mR (R:=fun p=>q≤p∧p≤s.length) (S:=fun e:UInt8×Int=>0≤e.2∧e.2 < n) (fun p x q' hr M=>by
        obtain ⟨O,C,E⟩:=GM M;exact ⟨⟨ab,C⟩,E⟩) ⟨aQ _,I⟩ A
       cases h;exact ⟨ab,J,by show es.length≤256; omega,h5⟩
theorem Ch {l:List aM} (h:cJ s a= .ok (l,p)):a < p∧p≤s.length∧shaped l=true∧l.length≤1048576∧∀ x∈l,x.2.length≤256∧∀ e∈x.2,0≤e.2∧e.2 < l.length:=by
 unfold cJ at h;split at h
 · cases h
 · rename_i n q M;obtain ⟨h1,I,_⟩:=jb M;split at h
   · cases h
   · split at h
     · cases h
     · rename_i aa ac A;have L:=iy A;obtain ⟨⟨Z,J⟩,h5⟩:=mR (R:=fun p=>q≤p∧p≤s.length) (S:=fun x:aM=>x.2.length≤256∧∀ e∈x.2,0≤e.2∧e.2 < n) (fun p x q' hr U=>by
        obtain ⟨V,C,E⟩:=qI U;exact ⟨⟨ab,C⟩,E⟩) ⟨aQ _,I⟩ A
       split at h
       · cases h;rename_i O;exact ⟨ab,J,O,ab,by rw [L]; exact h5⟩
       · cases h
structure dU.Is (s:List UInt8) (b:dU):Prop where
 least:1≤b.least∧b.least≤64
 IY:b.cH.length≤256
 cH:∀ r∈b.cH,r.1≠[]∧r.1.length≤32∧r.2.length≤32
 tr:b.tr.length≤255
 sD:b.aq.length=4
 aq:∀ l∈b.aq,shaped l=true∧l.length≤1048576∧∀ x∈l,x.2.length≤256∧∀ e∈x.2,0≤e.2∧e.2 < l.length
theorem rS {b:dU} (h:bJ s= .ok b):b.Is s:=by
 unfold bJ at h;split at h
 · split at h
   · cases h
   · rename_i n p1 h1;split at h
     · cases h
     · rename_i t p2 L;split at h
       · cases h
       · rename_i m p3 O;split at h
         · cases h
         · split at h
           · cases h
           · rename_i rs p4 U;generalize (if n≤64 then n else 0)=n0 at h;unfold fS at h;split at h
             · rename_i A;split at h
               · cases h
               · rename_i l p5 C;split at h
                 · cases h;unfold dZ at A;simp only [a0,decide_eq_true_eq,List.all_eq_true] at A;obtain ⟨⟨⟨E,I,J⟩,_⟩,g4⟩:=A;refine ⟨⟨E,I⟩,J,fun r hr=> ?_,(ot L).2.2,iy C,(mR (R:=fun _=>True) (fun p x q _ M=>⟨trivial,(Ch M).2.2⟩) trivial C).2⟩;have :=g4 r hr;unfold gM at this;simp only [a0,decide_eq_true_eq] at this;exact ⟨this.1.1,this.1.2.2,this.2.2⟩
                 · cases h
             · cases h
 · cases h
end
end Go.Hb
end
section
namespace Go.Hb
def dc {α:Type} (n:Nat) (base:Nat→α) (stp:Nat→(Nat→α)→α):Nat→Nat→α
 | 0,i=>base i
 | j+1,i=>if i=n - (j+1) then stp i (dc n base stp j) else dc n base stp j i
section
variable {α:Type} {n:Nat} {base:Nat→α} {stp:Nat→(Nat→α)→α}
theorem zP:∀ {j i:Nat},j≤n→i < n - j→dc n base stp j i=base i
 | 0,i,_,_=>rfl
 | j+1,i,hj,hi=>by
   rw [dc,if_neg ab];exact zP ab ab
theorem uV:∀ {j i:Nat},n≤i→j≤n→dc n base stp j i=base i
 | 0,i,_,_=>rfl
 | j+1,i,hi,hj=>by
   rw [dc,if_neg ab];exact uV hi ab
theorem uW {j i:Nat} (hi:n - j≤i):∀ {d:Nat},j+d≤n→dc n base stp (j+d) i=dc n base stp j i
 | 0,_=>rfl
 | d+1,h=>by
   rw [← iN,dc,if_neg ab];exact uW hi ab
theorem zO (loc:∀ i T A,(∀ k,i < k→k≤n→T k=A k)→stp i T=stp i A) {i:Nat} (hi:i < n):dc n base stp n i=stp i (dc n base stp n):=by
 have h1:dc n base stp n i=dc n base stp (n - i) i:=by
  have :=uW (n:=n) (base:=base) (stp:=stp) (j:=n - i) (i:=i) ab (d:=i) ab;rw [show n - i+i=n by omega] at this;exact this
 rw [h1];obtain ⟨j,C⟩:∃ j,n - i=j+1:=⟨n - i - 1,ab⟩
 rw [C,dc,if_pos ab];refine loc i _ _ fun k E I=> ?_;have :=uW (n:=n) (base:=base) (stp:=stp) (j:=j) (i:=k) ab (d:=n - j) ab;rw [show j+(n - j)=n by omega] at this;exact this.symm
end
theorem vq {α β:Type} (p:β→Bool) (f:α→β→α):∀ (l:List β) (a:α),(l.filter p).foldl f a=l.foldl (fun a b=>if p b=true then f a b else a) a
 | [],_=>rfl
 | b::l,a=>by
   rw [List.filter_cons,jg];cases h:p b
   · simp only [nF,if_false]; exact vq p f l a
   · simp only [if_true,jg]; exact vq p f l _
theorem vp {α β:Type} {f g:α→β→α} :∀ {l:List β} {a:α},(∀ x∈l,∀ a,f a x=g a x)→l.foldl f a=l.foldl g a
 | [],_,_=>rfl
 | b::l,a,h=>by
   rw [jg,jg,h b gS];exact vp fun x A=>h x<|gR _ A
theorem foldl_rel {α β A:Type} {f:α→A→α} {g:β→A→β} (R:α→β→Prop):∀ {l:List A} {a:α} {b:β},R a b→(∀ x∈l,∀ a b,R a b→R (f a x) (g b x))→R (l.foldl f a) (l.foldl g b)
 | [],_,_,h,_=>h
 | x::l,a,b,h,hs=>by
   rw [jg,jg];exact foldl_rel R (hs x gS _ _ h) fun y C=>hs y<|gR _ C
def gd:Nat:=1099511627776
section
variable (pc:Nat→Nat→Bool) (n:Nat)
def jE (i:Nat):List Nat:=(kr (i+1)<|n - i).filter<|pc i
def bQ (i k:Nat):Bool:=pc i k && !(decide (i=0) && decide (k=n))
def fV (i:Nat) (T:Nat→Nat×Nat) (m:Nat×Nat) (k:Nat):Nat×Nat:=
 if (k < n∧(T k).1=0)∨(i=0∧k=n) then m else (if m.1=0∨(T k).1 +1≤m.1 then (T k).1 +1 else m.1,min (m.2+(T k).2) (gd+1))
def j0 (i:Nat) (T:Nat→Nat×Nat):Nat×Nat:=(jE pc n i).foldl (fV n i T) (0,0)
def lS (i:Nat):Nat×Nat:=(0,if i=n then 1 else 0)
def jC:Nat→Nat×Nat:=dc n (lS n) (j0 pc n) n
def jD (i:Nat) (T:Nat→Int) (m:Int) (k:Nat):Int:=
 if pc i k=false∨T k < 0∨(i=0∧k=n) then m else if m < 0∨T k+1 < m then T k+1 else m
def j1 (i:Nat) (T:Nat→Int):Int:=(kr (i+1)<|n - i).foldl (jD pc n i T)<|-1
def jR:Nat→Int:=dc n (fun _=>0) (j1 pc n) n
end
section
variable {pc:Nat→Nat→Bool} {n:Nat}
theorem ox {i k:Nat} :k∈jE pc n i↔i < k∧k≤n∧pc i k=true :=by
 unfold jE;rw [pC,yu];constructor
 · rintro ⟨⟨h1,C⟩,A⟩; exact ⟨ab,ab,A⟩
 · rintro ⟨h1,C,A⟩; exact ⟨⟨ab,ab⟩,A⟩
theorem vJ {i:Nat} (hi:i < n):jC pc n i=j0 pc n i (jC pc n):=zO (stp:=j0 pc n) (fun i T E h=>vp fun k C m=>by
 obtain ⟨h1,A,_⟩:=ox.1 C;unfold fV; rw [h k h1 A]) hi
theorem HP {i:Nat} (hi:i < n):jR pc n i=j1 pc n i (jR pc n):=zO (stp:=j1 pc n) (fun i T C h=>vp fun k A m=>by
 rw [yu] at A;unfold jD; rw [h k ab ab]) hi
theorem sn:jC pc n n=(0,1):=by unfold jC; rw [uV (aQ _) (aQ _)]; simp [lS]
theorem HQ:jR pc n n=0:=by unfold jR; rw [uV (aQ _) (aQ _)]
theorem down (P:Nat→Prop) (he:P n) (E:∀ i,i < n→(∀ k,i < k→k≤n→P k)→P i):∀ i,i≤n→P i:=fun i hi=>by
 have :∀ d i,i≤n→n - i≤d→P i:=fun d=>by
  induction d with
  | zero=>intro i h1 A; rw [show i=n by omega]; exact he
  | succ d ih=>
    intro i h1 A;by_cases h:i=n
    · rw [h]; exact he
    · exact E i ab fun k I C=>ih k C ab
 exact this (n - i) i hi<|aQ _
theorem sa:∀ i,i≤n→(i=n∧(jC pc n i).1=0∧jR pc n i=0)∨(i < n∧(((jC pc n i).1=0∧jR pc n i= -1)∨(0 < (jC pc n i).1∧jR pc n i=((jC pc n i).1:Nat)))):=by
 refine down _ (.inl ⟨U,by rw [sn],HQ⟩) fun i hi ih=> .inr ⟨hi,?_⟩;rw [vJ hi,HP hi];unfold j0 j1 jE;rw [vq];refine foldl_rel (fun (a:Nat×Nat) (b:Int)=>(a.1=0∧b= -1)∨(0 < a.1∧b=(a.1:Nat))) (.inl ⟨U,U⟩) fun k C a b A=> ?_;rw [yu] at C;have E:=ih k ab ab;unfold fV jD;cases hp:pc i k
 · simp only [nF,if_false,true_or,if_true]; exact A
 · simp only [if_true,Bool.true_eq_false,false_or]
   grind
def cD (pc:Nat→Nat→Bool) (n i k:Nat):Bool:=decide ((0 < i∨k < n)∧(k=n∨0 < (jC pc n k).1)∧(jC pc n k).1 +1=(jC pc n i).1)
def bN (pc:Nat→Nat→Bool) (n i:Nat):Nat:=(((jE pc n i).filter<|cD pc n i).getLast?).getD n
theorem Hc {i:Nat} (hi:i < n):(jC pc n i).1≠0→∃ k∈jE pc n i,cD pc n i k=true :=by
 rw [vJ hi];unfold j0;have I:∀ k∈jE pc n i,k≤n:=fun k A=>(ox.1 A).2.1;have :∀ (l:List Nat) (m:Nat×Nat),(∀ k∈l,k∈jE pc n i)→(l.foldl (fV n i<|jC pc n) m).1≠0→(l.foldl (fV n i<|jC pc n) m).1=m.1∨∃ k∈l,((0 < i∨k < n)∧(k=n∨0 < (jC pc n k).1)∧(jC pc n k).1 +1=(l.foldl (fV n i<|jC pc n) m).1):=fun l=>by
  induction l with
  | nil=>intro m _ _; exact .inl rfl
  | cons k l ih=>
    intro m hm C;rw [jg] at C ⊢;rcases ih _ (fun q E=>hm q<|gR _ E) C with h | ⟨q,E,h⟩
    · rw [h];unfold fV;have :=I k<|hm k gS;split
      · exact .inl U
      · rename_i h1;show (if m.1=0∨(jC pc n k).1 +1≤m.1 then (jC pc n k).1 +1 else m.1)=m.1∨_;split
        · refine .inr ⟨k,gS,ab,ab,?_⟩;rfl
        · exact .inl U
    · exact .inr ⟨q,gR _ E,h⟩
 intro C;rcases this _ (0,0) (fun k A=>A) C with h | ⟨k,A,h⟩
 · exact absurd h C
 · refine ⟨k,A,?_⟩;unfold cD;rw [vJ hi];exact decide_eq_true h
theorem wv {i:Nat} (hi:i < n) (E:(jC pc n i).1≠0):bN pc n i∈jE pc n i∧cD pc n i (bN pc n i)=true :=by
 obtain ⟨k,I,C⟩:=Hc hi E;have A:(jE pc n i).filter (cD pc n i)≠[]:=fun e=>by
  have :=pC.2 ⟨I,C⟩;rw [e] at this; cases this
 unfold bN;rw [Ep A];exact pC.1<|List.getLast_mem A
theorem Bw {i k:Nat} (E:k∈jE pc n i) (A:cD pc n i k=true):k≤bN pc n i:=by
 have hm:=pC.2 ⟨E,A⟩;have I:(jE pc n i).filter (cD pc n i)≠[]:=fun e=>by rw [e] at hm; cases hm
 have J:((jE pc n i).filter<|cD pc n i).Pairwise (· < ·):=((List.pairwise_lt_range' (s:=i+1) (n:=n - i)).filter _).filter _;unfold bN;rw [Ep I,List.getLast_eq_getElem];obtain ⟨j,C,rfl⟩:=tY.1 hm;simp only [Option.getD_some];by_cases h:j=((jE pc n i).filter<|cD pc n i).length - 1
 · subst h; exact aQ _
 · exact Nat.le_of_lt<|pD.1 J _ _ C ab ab
def eE (pc:Nat→Nat→Bool) (n i:Nat):Prop :=i=n∨(i < n∧(jC pc n i).1≠0)
theorem eE.next {i:Nat} (hi:i < n) (h:eE pc n i):i < bN pc n i∧bN pc n i≤n∧pc i (bN pc n i)=true∧(0 < i∨bN pc n i < n)∧(jC pc n<|bN pc n i).1 +1=(jC pc n i).1∧eE pc n (bN pc n i):=by
 have M:(jC pc n i).1≠0:=by
  rcases h with h | h
  · omega
  · exact h.2
 obtain ⟨h1,A⟩:=wv hi M;obtain ⟨C,E,I⟩:=ox.1 h1;unfold cD at A;obtain ⟨J,O,L⟩:=of_decide_eq_true A;refine ⟨C,E,I,J,L,?_⟩;unfold eE;omega
def iR (pc:Nat→Nat→Bool) (n:Nat):Nat→Nat→List (Nat×Nat)
 | 0,_=> []
 | f+1,i=>if i < n then (i,bN pc n i)::iR pc n f (bN pc n i) else []
theorem uM:∀ (f A i:Nat),eE pc n i→n - i≤f→n - i≤A→iR pc n f i=iR pc n A i
 | 0,0,_,_,_,_=>rfl
 | 0,A+1,i,_,h1,_=>by unfold iR; rw [if_neg ab]
 | f+1,0,i,_,_,h2=>by
   show iR pc n (f+1) i= []
   unfold iR; rw [if_neg ab]
 | f+1,A+1,i,ho,h1,h2=>by
   rw [iR,iR];split
   · rename_i hi;obtain ⟨E,I,_,_,_,C⟩:=ho.next hi
     rw [uM f A _ C ab ab]
   · rfl
theorem F9 {i:Nat} (f:Nat) (h:¬i < n):iR pc n f i= []:=by
 cases f
 · rfl
 · unfold iR; rw [if_neg h]
def fR (pc:Nat→Nat→Bool) (n i:Nat):List (Nat×Nat):=iR pc n (n - i) i
theorem rM:fR pc n n= []:=F9 _ ab
theorem rN {i:Nat} (hi:i < n) (h:eE pc n i):fR pc n i=(i,bN pc n i)::fR pc n (bN pc n i):=by
 obtain ⟨C,E,_,_,_,A⟩:=h.next hi
 unfold fR;rw [uM (n - i) (n - i - 1 +1) i h ab ab,iR,if_pos hi,uM (n - i - 1) (n - bN pc n i) _ A ab ab]
theorem Ge (P:Nat→List (Nat×Nat)→Prop) (he:P n []) (U:∀ i,i < n→eE pc n i→i < bN pc n i→bN pc n i≤n→pc i (bN pc n i)=true→(0 < i∨bN pc n i < n)→(jC pc n<|bN pc n i).1 +1=(jC pc n i).1→P (bN pc n i) (fR pc n<|bN pc n i)→P i ((i,bN pc n i)::fR pc n (bN pc n i))) {i:Nat} (h:eE pc n i):P i (fR pc n i):=by
 have :∀ d i,n - i≤d→eE pc n i→P i (fR pc n i):=fun d=>by
  induction d with
  | zero=>
    intro i O A;have :i=n:=by unfold eE at A; omega
    rw [this,rM]; exact he
  | succ d ih=>
    intro i O A;by_cases hi:i < n
    · obtain ⟨C,E,I,J,L,M⟩:=A.next hi
      rw [rN hi A];exact U i hi A C E I J L<|ih _ ab M
    · have :i=n:=by unfold eE at A; omega
      rw [this,rM]; exact he
 exact this (n - i) i (aQ _) h
theorem uN {i:Nat} (h:eE pc n i):(fR pc n i).length=(jC pc n i).1:=by
 refine Ge (fun i l=>l.length=(jC pc n i).1) (by rw [sn]; rfl) (fun i hi L C E I J A ih=> ?_) h;rw [dP,ih,A]
end
section
variable {pc:Nat→Nat→Bool} {n i j:Nat} {T:Nat→Nat×Nat}
theorem HS (hT:∀ k,(T k).1≤j) {m:Nat×Nat} (hm:m.1≤j+1∧m.2≤gd+1) (k:Nat):(fV n i T m k).1≤j+1∧(fV n i T m k).2≤gd+1:=by
 have :=hT k;unfold fV;split
 · exact hm
 · refine ⟨?_,Nat.min_le_right _ _⟩;show (if m.1=0∨(T k).1 +1≤m.1 then (T k).1 +1 else m.1)≤j+1;split <;> omega
theorem vK (hT:∀ k,(T k).1≤j):∀ (l:List Nat) (m:Nat×Nat),m.1≤j+1∧m.2≤gd+1→(l.foldl (fV n i T) m).1≤j+1∧(l.foldl (fV n i T) m).2≤gd+1
 | [],_,hm=>hm
 | k::l,_,hm=>vK hT l _<|HS hT hm k
theorem uX:∀ (j k:Nat),(dc n (lS n) (j0 pc n) j k).1≤j∧(dc n (lS n) (j0 pc n) j k).2≤gd+1
 | 0,k=>by
   unfold dc lS;refine ⟨aQ _,?_⟩;show (if k=n then 1 else 0)≤gd+1;split <;> simp [gd]
 | j+1,k=>by
   have ih:=uX j;rw [dc];split
   · exact vK (fun k=>(ih k).1) _ _ ⟨by simp,by simp⟩
   · have :=ih k; omega
theorem GF (A:j≤n) (hi:i < n - j):dc n (lS n) (j0 pc n) j i=(0,0):=by
 rw [zP A hi];unfold lS;rw [if_neg ab]
end
def cF (n:Nat) (g:Nat→Nat):List Nat:=(List.range<|n+1).map g
theorem wW (n:Nat) (g:Nat→Nat):(cF n g).length=n+1:=by simp [cF]
theorem jK {n k:Nat} (g:Nat→Nat) (A:k≤n):(cF n g)[k]? =some (g k):=by
 unfold cF;rw [fq,List.getElem?_range ab]; rfl
theorem wV {n:Nat} {g h:Nat→Nat} (e:∀ k,k≤n→g k=h k):cF n g=cF n h:=by
 unfold cF;exact List.map_congr_left fun k A=>e k<|by rw [List.mem_range] at A; omega
theorem sX {n i:Nat} (g:Nat→Nat) (a:Nat):(cF n g).set i a=cF n fun k=>if k=i then a else g k:=by
 apply List.ext_getElem?;intro k;by_cases A:k≤n
 · rw [jK _ A,List.getElem?_set,jK _ A,wW];by_cases h:i=k
   · subst h; rw [if_pos rfl,if_pos ab,if_pos rfl]
   · rw [if_neg h,if_neg (fun e=>h e.symm)]
 · have h1:=wW n fun k=>if k=i then a else g k
   have C:=wW n g;rw [gF (by rw [gl]; omega),gF ab]
theorem Jx (n:Nat):cZ (n+1) 0=cF n fun _=>0:=by
 unfold cF;rw [List.map_const',List.length_range]
end Go.Hb
end
section
namespace Go.Hb
section
variable {P:au} {N:Fm} {σ:Nat→ag} {w:ah} {dst:Option Nat} {ty:av} {pos :String} {af:Array bT} {g:Option (Nat×Bool)} {x y:aW}
theorem va (d:Nat) {t e:av} {a:Option Addr} {n c:Nat} (hu:P.underlying t=some (.slice e)):(Op.equalIn (d+1) t (.slice a n c)<|.slice none 0 0).run P w= .ok a.isNone w:=by
 cases a <;> simp [Op.equalIn,bt hu]
theorem GW {t e:av} {a:Option Addr} {n c:Nat} (hu:P.underlying t=some (.slice e)):(Op.equal t (.slice a n c)<|.slice none 0 0).run P w= .ok a.isNone w:=va 9999 hu
theorem vb {t E e:av} {a:Option Addr} {n c:Nat} (hu:P.underlying t=some (.slice e)) (A:ev N σ x= .slice a n c) (C:ev N σ y= .slice none 0 0):
 (execOp (ev N σ) ⟨dst,.binOp .eql t x y E,ty,pos,af,g⟩).run P w= .ok (.value<|.bool a.isNone) w:=by
 have h:(binOp .eql t (.slice a n c)<|.slice none 0 0).run P w= .ok (.bool a.isNone) w:=by
  simp only [binOp]; simp [GW hu]
 simp [execOp,A,C,eqGuard,h]
end
section
variable {P:au} {N:Fm} {σ:Nat→ag} {w:ah} {dst:Option Nat} {ty:av} {pos :String} {af:Array bT} {g:Option (Nat×Bool)} {x y z u:aW} {K:(Nat→ag)→ah→Prop}
theorem J9 {t n len cap:Nat} {a:Option Addr} {k I J:bu} {i j m:Nat} (he:cU P t=some n) (A:ev N σ x= .slice a len cap) (C:ev N σ y= .int k (i:Nat)) (E:ev N σ z= .int I (j:Nat)) (hu:ev N σ u= .int J (m:Nat)) (h:i≤j∧j≤m∧m≤cap):
 (execOp (ev N σ) ⟨dst,.slice t x (some y) (some z) (some u),ty,pos,af,g⟩).run P w= .ok (.value<|.slice (eb a m i n) (j - i)<|m - i) w:=by
 have h1:(0:Int)≤(i:Int):=ab;have L:(0:Int)≤(j:Int):=ab;have M:(0:Int)≤(m:Int):=ab;unfold cU at he;cases hd:P.underlying t with
 | none=>rw [hd] at he; cases he
 | some d=>
   rw [hd] at he;cases d <;> first | (cases he; done) | skip
   rename_i e;cases hi':P.info? e with
   | none=>simp [hi'] at he
   | some q=>
     simp only [hi',fu,bM] at he;subst he;simp only [execOp,nK,Instr.slice,A,C,E,hu,fu,kn,Instr.sliceBound,asIntOf];simp [bt hd,de hi',sizeOf,h.1,h.2.1,h.2.2,eb]
end
end Go.Hb
end
section
namespace Go.Hb
section
variable {P:au} {N:Fm} {σ:Nat→ag} {w:ah} {ops:Array Oper} {Q:Exit→(Nat→ag)→ah→Prop} {S:ah→Prop} {fuel:Nat} {listed:Array Bool}
theorem kW (a:Array Bool) (i j:Nat):(a.setIfInBounds i true).setIfInBounds j true =(a.setIfInBounds j true).setIfInBounds i true :=by
 apply Array.ext
 · simp
 · intro k h1 A
   grind
theorem C7 {i s:Nat} {a:ag} :aU σ i a s=if s=i then a else σ s:=by
 unfold aU;by_cases h:s=i
 · subst h; simp
 · rw [if_neg h];cases hb:Nat.beq s i
   · rfl
   · exact absurd (Nat.eq_of_beq_eq_true hb) h
theorem kZ {i j:Nat} (h:i≠j) (a b:ag):aU (aU σ i a) j b=aU (aU σ j b) i a:=by
 funext s;simp only [C7];by_cases h1:s=j
 · subst h1;rw [if_pos rfl,if_neg (Ne.symm h),if_pos rfl]
 · rw [if_neg h1,if_neg h1]
theorem kg {rs:List Nat} (hr:(dw .any ops listed==rs)=true) (I:rs≠[]) (h:∀ i∈rs,∃ o,ops[i]? =some o∧o.guard=none∧bZ P N o σ w (fun σ w=>S w∧bY P N ops Q S fuel (listed.setIfInBounds i true) σ w)):bY P N ops Q S (fuel+1) listed σ w:=by
 unfold bY;refine wpAnyH_all (rs:=rs) (by simpa using hr) I ?_;intro q J;obtain ⟨o,h1,C,E⟩:=h q J;unfold wpOp;simp only [h1];rw [if_pos (fh _ C _)];exact .inl<|o6 E fun _ _ A=>by unfold bY at A; exact A
def ry (P:au) (N:Fm) (F:List Nat) (σ:Nat→ag) (o:Oper) (d:Nat) (V:Nat→ag) (R:Nat→ah→Prop):Prop :=
 ∀ (σ':Nat→ag) (w':ah) (K:(Nat→ag)→ah→Prop),(∀ s,s∉F→σ' s=σ s)→(∀ b A,b=w'.heap.size→Nw w' A→R b A→K (aU σ' d<|V b) A)→bZ P N o σ' w' K
theorem wu {F:List Nat} {d t e bytes n:Nat} {ty:av} {pos :String} {af:Array bT} {x y:aW} {V U:bu} {zv:ag} (J:dK P t e 1 bytes=true) (O:zeroOf P e=some (some [zv])) (h1:zv.oneCell'=true)
 (L:∀ σ':Nat→ag,(∀ s,s∉F→σ' s=σ s)→ev N σ' x= .int V n) (M:∀ σ':Nat→ag,(∀ s,s∉F→σ' s=σ s)→ev N σ' y= .int U n) (hb:bytes*n≤281474976710656) (C:n≤maxLen):
 ry P N F σ ⟨some d,.makeSlice t x y,ty,pos,af,none⟩ d (fun b=> .slice (some ⟨b,0,none⟩) n n) (fun b w'=> ∀ B,B≤b→w'.ownsRow B e 1 (.slice (some ⟨b,0,none⟩) n n) n (cZ n zv)):=
 fun σ' _ _ A k=>fC J O h1 (L σ' A) (M σ' A) hb C fun b Z E hn I=>k b Z E hn I
theorem II (i j k:Nat) {aj ak al:Oper} {d1 d2 d3:Nat} {Z aa ai:Nat→ag} {R1 ay az:Nat→ah→Prop} (am:aj.guard=none) (ao:ak.guard=none) (ap:al.guard=none) (hi:ops[i]? =some aj) (aq:ops[j]? =some ak) (ar:ops[k]? =some al)
 (r0:((dw .any ops listed)== [i,j,k])=true) (aN:((dw .any ops<|listed.setIfInBounds i true)== [j,k])=true) (aO:((dw .any ops<|listed.setIfInBounds j true)== [i,k])=true) (aP:((dw .any ops<|listed.setIfInBounds k true)== [i,j])=true)
 (aI:gK ops ((listed.setIfInBounds i true).setIfInBounds j true) k=true) (aJ:gK ops ((listed.setIfInBounds i true).setIfInBounds k true) j=true) (aK:gK ops ((listed.setIfInBounds j true).setIfInBounds k true) i=true)
 (aF:d1≠d2) (aG:d1≠d3) (aH:d2≠d3)
 (s1:ry P N [d1,d2,d3] σ aj d1 Z R1) (s2:ry P N [d1,d2,d3] σ ak d2 aa ay) (au:ry P N [d1,d2,d3] σ al d3 ai az)
 (m1:∀ b w w',R1 b w→Wk w w'→R1 b w') (aD:∀ b w w',ay b w→Wk w w'→ay b w') (aE:∀ b w w',az b w→Wk w w'→az b w')
 (U:∀ w',Wk w w'→S w')
 (c:∀ (L M O:Nat) (w':ah),w.heap.size≤L→w.heap.size≤M→w.heap.size≤O→L≠M→L≠O→M≠O→w.heap.size < w'.heap.size→Wk w w'→R1 L w'→ay M w'→az O w'→bY P N ops Q S fuel (((listed.setIfInBounds i true).setIfInBounds j true).setIfInBounds k true) (aU (aU (aU σ d1<|Z L) d2<|aa M) d3<|ai O) w'):bY P N ops Q S (fuel+3) listed σ w:=by
 have off :∀ {s:Nat} {σ':Nat→ag} {d:Nat} {v:ag},d∈[d1,d2,d3]→s∉[d1,d2,d3]→aU σ' d v s=σ' s:=fun {s σ' d v} aQ I=>by
  rw [C7,if_neg (fun e=>I<|by rw [e]; exact aQ)]
 refine kg r0 (by simp) ?_;intro q A;simp only [ei,ue,or_false] at A;rcases A with A | A | A <;> rw [A]
 · refine ⟨aj,hi,am,s1 _ _ _ (fun _ _=>rfl) fun L aL aA J ac=>⟨U _ J.md,?_⟩⟩;have aM:=J.size;refine kg aN (by simp) ?_;intro q A;simp only [ei,ue,or_false] at A;rcases A with A | A <;> rw [A]
   · refine ⟨ak,aq,ao,s2 _ _ _ (fun s I=>off (by simp) I) fun M av aB C ad=>⟨U _ (J.md.trans C.md),?_⟩⟩;have aw:=C.size;refine kg aI (by simp) ?_;intro q A;have A:=eQ.1 A;rw [A];refine ⟨al,ar,ap,au _ _ _ (fun s I=>by rw [off (by simp) I,off (by simp) I]) fun O V aC E ae=>⟨U _ ((J.md.trans C.md).trans E.md),?_⟩⟩;have ax:=E.size;have :=c L M O V ab ab ab ab ab ab ab ((J.md.trans C.md).trans E.md) (m1 _ _ _ ac<|C.md.trans E.md) (aD _ _ _ ad E.md) ae;exact this
   · refine ⟨al,ar,ap,au _ _ _ (fun s I=>off (by simp) I) fun O av aC C ae=>⟨U _ (J.md.trans C.md),?_⟩⟩;have aw:=C.size;refine kg aJ (by simp) ?_;intro q A;have A:=eQ.1 A;rw [A];refine ⟨ak,aq,ao,s2 _ _ _ (fun s I=>by rw [off (by simp) I,off (by simp) I]) fun M V aB E ad=>⟨U _ ((J.md.trans C.md).trans E.md),?_⟩⟩;have ax:=E.size;have :=c L M O V ab ab ab ab ab ab ab ((J.md.trans C.md).trans E.md) (m1 _ _ _ ac<|C.md.trans E.md) ad<|aE _ _ _ ae E.md;rw [kW (listed.setIfInBounds i true) j k,kZ (σ:=aU σ d1<|Z L) aH (aa M) (ai O)] at this;exact this
 · refine ⟨ak,aq,ao,s2 _ _ _ (fun _ _=>rfl) fun M aL aB J ad=>⟨U _ J.md,?_⟩⟩;have aM:=J.size;refine kg aO (by simp) ?_;intro q A;simp only [ei,ue,or_false] at A;rcases A with A | A <;> rw [A]
   · refine ⟨aj,hi,am,s1 _ _ _ (fun s I=>off (by simp) I) fun L av aA C ac=>⟨U _ (J.md.trans C.md),?_⟩⟩;have aw:=C.size;rw [kW listed j i];refine kg aI (by simp) ?_;intro q A;have A:=eQ.1 A;rw [A];refine ⟨al,ar,ap,au _ _ _ (fun s I=>by rw [off (by simp) I,off (by simp) I]) fun O V aC E ae=>⟨U _ ((J.md.trans C.md).trans E.md),?_⟩⟩;have ax:=E.size;have :=c L M O V ab ab ab ab ab ab ab ((J.md.trans C.md).trans E.md) (m1 _ _ _ ac E.md) (aD _ _ _ ad<|C.md.trans E.md) ae;rw [kZ (σ:=σ) aF (Z L) (aa M)] at this;exact this
   · refine ⟨al,ar,ap,au _ _ _ (fun s I=>off (by simp) I) fun O av aC C ae=>⟨U _ (J.md.trans C.md),?_⟩⟩;have aw:=C.size;refine kg aK (by simp) ?_;intro q A;have A:=eQ.1 A;rw [A];refine ⟨aj,hi,am,s1 _ _ _ (fun s I=>by rw [off (by simp) I,off (by simp) I]) fun L V aA E ac=>⟨U _ ((J.md.trans C.md).trans E.md),?_⟩⟩;have ax:=E.size;have :=c L M O V ab ab ab ab ab ab ab ((J.md.trans C.md).trans E.md) ac (aD _ _ _ ad<|C.md.trans E.md)<|aE _ _ _ ae E.md;rw [kW listed i j,kW (listed.setIfInBounds j true) i k,kZ (σ:=σ) aF (Z L) (aa M),kZ (σ:=aU σ d2<|aa M) aG (Z L) (ai O)] at this;exact this
 · refine ⟨al,ar,ap,au _ _ _ (fun _ _=>rfl) fun O aL aC J ae=>⟨U _ J.md,?_⟩⟩;have aM:=J.size;refine kg aP (by simp) ?_;intro q A;simp only [ei,ue,or_false] at A;rcases A with A | A <;> rw [A]
   · refine ⟨aj,hi,am,s1 _ _ _ (fun s I=>off (by simp) I) fun L av aA C ac=>⟨U _ (J.md.trans C.md),?_⟩⟩;have aw:=C.size;rw [kW listed k i];refine kg aJ (by simp) ?_;intro q A;have A:=eQ.1 A;rw [A];refine ⟨ak,aq,ao,s2 _ _ _ (fun s I=>by rw [off (by simp) I,off (by simp) I]) fun M V aB E ad=>⟨U _ ((J.md.trans C.md).trans E.md),?_⟩⟩;have ax:=E.size;have :=c L M O V ab ab ab ab ab ab ab ((J.md.trans C.md).trans E.md) (m1 _ _ _ ac E.md) ad<|aE _ _ _ ae<|C.md.trans E.md;rw [kW (listed.setIfInBounds i true) j k,kZ (σ:=aU σ d1<|Z L) aH (aa M) (ai O),kZ (σ:=σ) aG (Z L) (ai O)] at this;exact this
   · refine ⟨ak,aq,ao,s2 _ _ _ (fun s I=>off (by simp) I) fun M av aB C ad=>⟨U _ (J.md.trans C.md),?_⟩⟩;have aw:=C.size;rw [kW listed k j];refine kg aK (by simp) ?_;intro q A;have A:=eQ.1 A;rw [A];refine ⟨aj,hi,am,s1 _ _ _ (fun s I=>by rw [off (by simp) I,off (by simp) I]) fun L V aA E ac=>⟨U _ ((J.md.trans C.md).trans E.md),?_⟩⟩;have ax:=E.size;have :=c L M O V ab ab ab ab ab ab ab ((J.md.trans C.md).trans E.md) ac (aD _ _ _ ad E.md)<|aE _ _ _ ae<|C.md.trans E.md;rw [kW listed i j,kW (listed.setIfInBounds j true) i k,kZ (σ:=σ) aF (Z L) (aa M),kZ (σ:=aU σ d2<|aa M) aG (Z L) (ai O),kZ (σ:=σ) aH (aa M) (ai O)] at this;exact this
end
end Go.Hb
end
section
namespace Go.Hb
structure Gw (B:Nat) (fp:Nat→Prop) (w:ah) (fp':Nat→Prop) (w':ah):Prop where
 sub:∀ k,fp' k→fp k∨w.heap.size≤k
 dH:∀ (k:Nat) (cs:Array ag) (e:Nat) (z:Nat×Nat),B≤k→¬fp k→w.heap[k]? =some (.cells cs e z)→w'.heap[k]? =some (.cells cs e z)
 size:w.heap.size≤w'.heap.size
section
variable {B B':Nat} {fp fp' fp'':Nat→Prop} {w w' w'':ah}
theorem Gw.trans (h:Gw B fp w fp' w') (h':Gw B fp' w' fp'' w''):Gw B fp w fp'' w'':=
 ⟨fun k A=>(h'.sub k A).elim (h.sub k) (fun C=> .inr<|cS h.size C),
  fun k cs e z E hn A=>h'.dH k cs e z E (fun C=>(h.sub k C).elim hn fun I=>by have :=(dm.1 A).1; omega) (h.dH k cs e z E hn A),cS h.size h'.size⟩
theorem Gw.mono (h:Gw B fp w fp' w') (A:B≤B'):Gw B' fp w fp' w':=⟨h.sub,fun k cs e z C=>h.dH k cs e z (cS A C),h.size⟩
theorem Gw.md {G:Nat→Prop} (hm:Md G w w') (C:∀ k,G k→fp k∨k < B) (E:∀ k,fp' k→fp k∨w.heap.size≤k):Gw B fp w fp' w':=
 ⟨E,fun k cs e z J hn A=>by rw [hm.dH k (dm.1 A).1 (fun h=>(C k h).elim hn fun I=>by omega)]; exact A,hm.size⟩
theorem Gw.wk (hm:Wk w w'):Gw B fp w fp w':=Gw.md hm (fun _ h=>h.elim) fun _ h=> .inl h
end
def uv {α:Type} (B:Nat) (A:List α→(Nat→Prop)→ah→Prop):Prop := ∀ pre fp W W' (F:Nat→Prop),A pre fp W→Md F W W'→(∀ k,F k→B≤k∧∀ cur e z,W.heap[k]? =some (.cells cur e z)→¬fp k)→A pre fp W'
section
variable {F fp:Nat→Prop} {W W':ah} {B:Nat}
theorem CP {b e:Nat} {cs:Array ag} {z:Nat×Nat} (h:W.heap[b]? =some (.cells cs e z)) (hm:Md F W W') (hb:b < B) (A:∀ k,F k→B≤k∧∀ cur e z,W.heap[k]? =some (.cells cur e z)→¬fp k):W'.heap[b]? =some (.cells cs e z):=by
 rw [hm.dH b (dm.1 h).1 (fun C=>by have :=(A b C).1; omega)]; exact h
theorem KR {w:ah} (h:Wk w W) (hm:Md F W W') (E:w.heap.size≤B) (A:∀ k,F k→B≤k∧∀ cur e z,W.heap[k]? =some (.cells cur e z)→¬fp k):Wk w W':=Md.trans' h hm fun k I C=>by have :=(A k C).1; omega
end
def EW {α:Type} (B:Nat) (A:Bool→List α→(Nat→Prop)→ah→Prop):Prop := ∀ b pre fp W W' (F:Nat→Prop),A b pre fp W→Md F W W'→(∀ k,F k→B≤k∧¬fp k∧∃ cs e z,W.heap[k]? =some (.cells cs e z))→A b pre fp W'
structure Yc {α:Type} (P:au) (l B:Nat) (encs:α→Array ag) (xs:List α) (Cap:ah→Prop) (J:Bool→List α→(Nat→Prop)→ah→Prop):Prop where
 cap:∀ b pre fp W,J b pre fp W→Cap W
 lt:∀ b pre fp W,J b pre fp W→∀ k,fp k→k < W.heap.size
 st:EW B J
 yl:∀ pre x rest fp W1,xs=pre++x::rest→J true pre fp W1→YieldAt eN 0 P l (encs x) W1 fun e W'=> ∃ b,e= .returned (.bool b)∧∃ fp',J b (pre++ [x]) fp' W'∧Gw B fp W1 fp' W'
def yE {α:Type} (P:au) (I:Nat) (J:Array ag) (E:α→Array ag) (xs:List α) (C:ah→Prop):Prop :=
 ∀ (l:Nat) (A:Bool→List α→(Nat→Prop)→ah→Prop) (W:ah),A true [] (fun _=>False) W→Yc P l W.heap.size E xs C A→
   Calls P I (#[.func (.yield l) #[] #[]]++J) W fun e W'=>(∃ v,e= .returned v)∧∃ b pre fp,A b pre fp W'∧pre <+:xs∧(b=true→pre=xs)
def Jo (id B:Nat) (fp:Nat→Prop) (W:ah) (R:(Nat→Prop)→ah→Prop) (X:Bool→(Nat→Prop)→ah→Prop):Exit→(Nat→ag)→ah→Prop
 | .normal,_,w=>cg W w∧∃ fp',Gw B fp W fp' w∧R fp' w
 | .exit i,_,w=>i=id∧cg W w∧∃ fp',Gw B fp W fp' w∧X false fp' w
 | .ret,_,w=>cg W w∧∃ fp',Gw B fp W fp' w∧X true fp' w
 | _,_,_=>False
def vL (id:Nat):Bool→Code
 | true => .ret
 | false => .exit id
def JX {α:Type} (A:List α→(Nat→Prop)→ah→Prop) (X:Bool→List α→(Nat→Prop)→ah→Prop) (S:ah→Prop) (T:Bool→ah→Prop):Bool→List α→(Nat→Prop)→ah→Prop
 | true,pre,fp,W=>A pre fp W∧S W
 | false,pre,fp,W=> ∃ r,X r pre fp W∧T r W
theorem Js {α:Type} {P:au} {id n:Nat} {ac:List Deferred} {g:aW} {ps:Array Tmp} {aA body:Code} {Fx:List Nat} {σ:Nat→ag} {w:ah} {B:Exit→Act→ah→Prop} {am:Nat} {ao:Array ag}
 (ai:α→Array ag) (xs:List α) (aD:ah→Prop) (I:List α→(Nat→Prop)→ah→Prop) (X:Bool→List α→(Nat→Prop)→ah→Prop) (a2:ev ⟨n,ac,Fx,none⟩ σ g= .func (.func am) #[] ao) (aY:gr P am) (ba:∀ x,(ai x).size=ps.size)
 (a3:yE P am ao ai xs aD) (aS:I [] (fun _=>False) w) (aI:∀ pre fp W,I pre fp W→aD W∧∀ k,fp k→k < W.heap.size) (aJ:∀ r pre fp W,X r pre fp W→aD W∧∀ k,fp k→k < W.heap.size) (ad:uv w.heap.size I) (aw:∀ r,uv w.heap.size (X r)) (A:α→Nat→ah→Prop) (aP:∀ x b W W' (F:Nat→Prop),A x b W→Md F W W'→(∀ k,F k→∀ cur e z,W.heap[k]?≠some (.cells cur e z))→A x b W') (aN:α→Nat→Nat→ag)
 (ha:∀ (l:Nat) (x:α) (W:ah) (K:(Nat→ag)→ah→Prop),(∀ b W',Wk W W'→A x b W'→K (aN x b) W')→bA P ⟨n,[],[],some l⟩ aA (gN K fun _ _ _=>False) ((ps.toList.zip (ai x).toList).foldl (fun s p=>aU s p.1 p.2) σ) W)
 (hb:∀ (l:Nat) (pre:List α) (x:α) (rest:List α) (fp:Nat→Prop) (b:Nat) (W:ah),xs=pre++x::rest→I pre fp W→A x b W→bA P ⟨n,[],[],some l⟩ body (Jo id w.heap.size fp W (I<|pre++ [x]) fun r=>X r<|pre++ [x]) (aN x b) W)
 (aZ:∀ (D:Nat) (W:ah),w.heap.size≤D→(∃ fp,I xs fp W)→W.heap[D]? =some (.deferred<|some [])→qb ⟨n,{target:= .collected D,args:= #[]} ::ac,Fx,none⟩ B .normal σ W)
 (bd:∀ (D:Nat) (W:ah) (pre:List α),w.heap.size≤D→pre <+:xs→(∃ fp,X false pre fp W)→W.heap[D]? =some (.deferred<|some [])→qb ⟨n,{target:= .collected D,args:= #[]} ::ac,Fx,none⟩ B .normal σ W)
 (bf:∀ (D:Nat) (W:ah) (pre:List α),w.heap.size≤D→pre <+:xs→(∃ fp,X true pre fp W)→W.heap[D]? =some (.deferred<|some [])→qb ⟨n,{target:= .collected D,args:= #[]} ::ac,Fx,none⟩ B .ret σ W):
 eM P ⟨n,ac,Fx,none⟩ (.block id<|.rangeFunc g ps aA body) B σ w:=by
 refine wpIn_block<|wpIn_rangeFunc ?_;intro fn _;obtain ⟨rc,aa⟩:∃ rc:LoopState→Option Code→Loop,rc=fun st bg=> {state:=st,pending:=bg,fn,tmps:=(act ⟨n,ac,Fx,none⟩ σ).tmps,params:=ps,assign:=aA,body,defers:=w.heap.size} :=⟨_,rfl⟩
 obtain ⟨L,av⟩:∃ L,(w.alloc<|.deferred<|some []).alloc (.loop<|rc .ready none)=L:=⟨_,rfl⟩
 have aX:L.heap[w.heap.size+1]? =some (.loop<|rc .ready none):=by
  rw [← av]; have :=D8 (w.alloc<|.deferred<|some []) (.loop<|rc .ready none); rwa [World.size_alloc] at this
 have aV:L.heap[w.heap.size]? =some (.deferred<|some []):=by
  rw [← av]; exact (Below.heap_alloc _ _ _<|by simp).trans<|D8 w _
 have bi:L.heap.size=w.heap.size+2:=by rw [← av]; simp
 have hn:∀ (W:ah) (o:Obj),Wk W (W.alloc o):=fun W o=>(Bv W o).md;have aT:I [] (fun _=>False) L:=by rw [← av]; exact ad _ _ _ _ _ (ad _ _ _ _ _ aS (hn _ _) fun _ h=>h.elim) (hn _ _) fun _ h=>h.elim
 have a0:(act ⟨n,ac,Fx,none⟩ σ).eval g= .func (.func am) #[] ao:=by rw [dr]; exact a2
 refine ⟨w.heap.size+1,[{target:= .collected w.heap.size,args:= #[]}],L,{target:= .fn (.func am) ao,args:= #[.func (.yield<|w.heap.size+1) #[] #[]]},L,am,
  #[.func (.yield<|w.heap.size+1) #[] #[]]++ao,L,?_,?_,fun _ _=>trivial,?_,fun h0=>(by cases h0),?_⟩
 · rw [← av,aa]; exact run_enterLoop_outer _ _ _ _ _
 · simp only [resolve,a0];simp [go_sem]
 · have :=aY (#[.func (.yield<|w.heap.size+1) #[] #[]]++ao) L;simp [invoke,go_sem,this]
 ·
  have al:∀ (I:List α→(Nat→Prop)→ah→Prop),uv w.heap.size I→∀ (pre:List α) (fp:Nat→Prop) (W:ah) (o ap:Obj),I pre fp W→W.heap[w.heap.size+1]? =some o→(∀ cur e z,o≠.cells cur e z)→I pre fp (W.putObj (w.heap.size+1) ap):=fun I ad pre fp W o ap h1 aj aq=>
   ad _ _ _ _ _ h1 (wa W _ ap) fun k E=>⟨ab,fun cur e z ar=>by subst E; rw [aj] at ar; exact absurd (dq ar)<|aq _ _ _⟩
  have aK:∀ (fp:Nat→Prop) (W:ah) (o ap:Obj),W.heap[w.heap.size+1]? =some o→(∀ cur e z,o≠.cells cur e z)→Gw w.heap.size fp W fp (W.putObj (w.heap.size+1) ap):=fun fp W o ap aj aq=>
   ⟨fun _ h=> .inl h,fun k cs e z _ _ E=>by
    rw [lu (fun h=>by subst h; rw [aj] at E; exact aq _ _ _<|dq E)]; exact E,by simp [World.putObj]⟩
  have aF:∀ {F:Nat→Prop} {A C:ah},Md F A C→∀ (k:Nat) (o:Obj),A.heap[k]? =some o→¬F k→C.heap[k]? =some o:=fun hm k o ay a1=>by
   rw [hm.dH k (dm.1 ay).1 a1]; exact ay
  refine callsIn_wide.2 (Calls.mono (a3 (w.heap.size+1)
   (JX I X (fun W=>W.heap[w.heap.size+1]? =some (.loop<|rc .ready none)∧W.heap[w.heap.size]? =some (.deferred<|some [])) fun r W=>W.heap[w.heap.size+1]? =some (.loop<|rc .done<|some<|vL id r)∧W.heap[w.heap.size]? =some (.deferred<|some []))
   L ⟨aT,aX,aV⟩ ⟨fun b pre fp W h=>match b,h with
    | true,h=>(aI pre fp W h.1).1
    | false,⟨r,h,_⟩=>(aJ r pre fp W h).1,fun b pre fp W h=>match b,h with
    | true,h=>(aI pre fp W h.1).2
    | false,⟨r,h,_⟩=>(aJ r pre fp W h).2,?_,?_⟩) ?_)
  · intro b pre fp A C F h hm aE;have aH:∀ k,F k→w.heap.size≤k∧∀ cur e z,A.heap[k]? =some (.cells cur e z)→¬fp k:=fun k E=>⟨by have :=(aE k E).1; omega,fun _ _ _ _=>(aE k E).2.1⟩
    have O:∀ (k:Nat) (o:Obj),A.heap[k]? =some o→(∀ cur e z,o≠.cells cur e z)→C.heap[k]? =some o:=fun k o ay a8=>aF hm k o ay fun E=>by
     obtain ⟨cs,e,z,aG⟩:=(aE k E).2.2; rw [ay] at aG; exact a8 _ _ _<|dq aG
    cases b with
    | true =>exact ⟨ad _ _ _ _ _ h.1 hm aH,O _ _ h.2.1 (fun _ _ _ h=>by cases h),O _ _ h.2.2 fun _ _ _ h=>by cases h⟩
    | false =>
      obtain ⟨r,h1,aj,aq⟩:=h;exact ⟨r,aw r _ _ _ _ _ h1 hm aH,O _ _ aj (fun _ _ _ h=>by cases h),O _ _ aq fun _ _ _ h=>by cases h⟩
  · rintro pre x rest fp W bc ⟨hi,J,E⟩;have aL:=run_yield (P:=P) (args:=ai x) J<|by rw [aa]; exact ba x
    rw [aa] at aL;refine ⟨fn,_,aA,body,aL,roundIn_of_wpIn (F:=eN) trivial ?_⟩;have bb:((ps.zip<|ai x).foldl (fun tmps (p:Tmp×ag)=>tmps.setIfInBounds p.1 p.2) (act ⟨n,ac,Fx,none⟩ σ).tmps)=(act ⟨n,[],[],some<|w.heap.size+1⟩<|(ps.toList.zip (ai x).toList).foldl (fun s p=>aU s p.1 p.2) σ).tmps:=by
     rw [← Array.foldl_toList,Array.toList_zip];exact yI ⟨n,[],[],some<|w.heap.size+1⟩ _ σ
    have h1:=ha (w.heap.size+1) x W (fun σ' W'=> ∃ aM,(Instr.beginRound<|w.heap.size+1).run P W'= .ok () aM∧
     body.wpIn (eN.inRound<|w.heap.size+1) 0 P (roundPost P (w.heap.size+1) fun e W'=> ∃ b,e= .returned (.bool b)∧∃ fp',JX I X (fun W=>W.heap[w.heap.size+1]? =some (.loop<|rc .ready none)∧W.heap[w.heap.size]? =some (.deferred<|some [])) (fun r W=>W.heap[w.heap.size+1]? =some (.loop<|rc .done<|some<|vL id r)∧W.heap[w.heap.size]? =some (.deferred<|some [])) b (pre++ [x]) fp' W'∧Gw L.heap.size fp W fp' W') (act ⟨n,[],[],some<|w.heap.size+1⟩ σ') aM) ?_
    · unfold bA at h1;have aO:({tmps:=(ps.zip<|ai x).foldl (fun tmps (p:Tmp×ag)=>tmps.setIfInBounds p.1 p.2) (act ⟨n,ac,Fx,none⟩ σ).tmps,defers:= []} :Act)=act ⟨n,[],[],some<|w.heap.size+1⟩ ((ps.toList.zip (ai x).toList).foldl (fun s p=>aU s p.1 p.2) σ):=by rw [bb]; rfl
      rw [aO];refine wpIn_mono h1 ?_;intro e a w' Z;cases e with
      | normal=>obtain ⟨σ',rfl,ae⟩:=Z; exact ae
      | panic c=>obtain ⟨σ',rfl,ae⟩:=Z; exact ae σ' fun _ _=>rfl
      | outgrown=>exact Z.elim
      | _=>obtain ⟨σ',rfl,ae⟩:=Z; exact ae
    intro b V aB aR;have hi:=ad _ _ _ _ _ hi aB fun _ h=>h.elim;have J:=aF aB _ _ J fun h=>h;have E:=aF aB _ _ E fun h=>h;have a7:w.heap.size+1 < V.heap.size:=(dm.1 J).1;refine ⟨_,run_beginRound J (by rw [aa]),?_⟩;have a6:(V.putObj (w.heap.size+1)<|.loop {rc .ready none with state:= .busy}).heap[w.heap.size+1]? =some (.loop {rc .ready none with state:= .busy}):=tT a7;have a4:(V.putObj (w.heap.size+1)<|.loop {rc .ready none with state:= .busy}).heap[w.heap.size]? =some (.deferred<|some []):=(lu ab).trans E;have a9:=aK fp V _ (.loop {rc .ready none with state:= .busy}) J fun _ _ _ h=>by cases h
    have aj:=hb (w.heap.size+1) pre x rest fp b _ bc (al I ad _ _ _ _ (.loop {rc .ready none with state:= .busy}) hi J fun _ _ _ h=>by cases h)<|aP _ _ _ _ _ aR (wa V (w.heap.size+1) _) fun k E cur e z ar=>by subst E; rw [J] at ar; cases ar
    unfold bA at aj;refine wpIn_mono aj ?_;have fin:∀ (j:Option Code) (fp':Nat→Prop) (M:ah),cg (V.putObj (w.heap.size+1)<|.loop {rc .ready none with state:= .busy}) M→Gw w.heap.size fp (V.putObj (w.heap.size+1)<|.loop {rc .ready none with state:= .busy}) fp' M→
     (Instr.endRound (w.heap.size+1) j).run P M= .ok (.bool j.isNone) (M.putObj (w.heap.size+1)<|.loop<|rc (if j.isNone then .ready else .done) j)∧
     M.heap[w.heap.size+1]? =some (.loop {rc .ready none with state:= .busy})∧
     (M.putObj (w.heap.size+1)<|.loop<|rc (if j.isNone then .ready else .done) j).heap[w.heap.size+1]? =some (.loop<|rc (if j.isNone then .ready else .done) j)∧
     (M.putObj (w.heap.size+1)<|.loop<|rc (if j.isNone then .ready else .done) j).heap[w.heap.size]? =some (.deferred<|some [])∧
     Gw L.heap.size fp W fp' (M.putObj (w.heap.size+1)<|.loop<|rc (if j.isNone then .ready else .done) j):=fun j fp' M O ak=>by
     have aC:=O _ _ a6 ⟨(fun _ _ _ h=>by cases h),fun _ _ h=>by cases h⟩;have a5:=O _ _ a4 ⟨(fun _ _ _ h=>by cases h),fun _ _ h=>by cases h⟩;have hr:=run_endRound (P:=P) j aC;refine ⟨?_,aC,tT (dm.1 aC).1,(lu ab).trans a5,((((Gw.wk aB).trans a9).trans ak).trans<|aK fp' _ _ _ aC fun _ _ _ h=>by cases h).mono ab⟩;rw [aa] at hr ⊢;exact hr
    intro e a M Z;cases e with
    | normal=>
      obtain ⟨σ',rfl,O,fp',ak,ax⟩:=Z;obtain ⟨f1,f2,f3,f4,f5⟩:=fin none fp' M O ak;exact ⟨_,_,f1,true,U,fp',⟨al I ad _ _ _ _ _ ax f2 (fun _ _ _ h=>by cases h),f3,f4⟩,f5⟩
    | ret=>
      obtain ⟨σ',rfl,O,fp',ak,ax⟩:=Z;obtain ⟨f1,f2,f3,f4,f5⟩:=fin (some .ret) fp' M O ak;exact ⟨_,_,f1,false,U,fp',⟨true,al (X true) (aw true) _ _ _ _ _ ax f2 (fun _ _ _ h=>by cases h),f3,f4⟩,f5⟩
    | exit i=>
      obtain ⟨σ',rfl,rfl,O,fp',ak,ax⟩:=Z;obtain ⟨f1,f2,f3,f4,f5⟩:=fin (some<|.exit i) fp' M O ak;exact ⟨_,_,f1,false,U,fp',⟨false,al (X false) (aw false) _ _ _ _ _ ax f2 (fun _ _ _ h=>by cases h),f3,f4⟩,f5⟩
    | panic c=>obtain ⟨σ',rfl,ae⟩:=Z; exact (ae σ' fun _ _=>rfl).elim
    | outgrown=>exact Z.elim
    | goto t=>obtain ⟨σ',rfl,ae⟩:=Z; exact ae.elim
  · rintro e bh ⟨⟨v,rfl⟩,b,pre,fp,hj,hpre,hb1⟩;cases b with
    | true =>
      obtain ⟨hi,J,E⟩:=hj;obtain rfl :=hb1 rfl;have az:=run_endLoop (P:=P) J<|by rw [aa]; simp
      rw [aa] at az;refine ⟨none,_,az,?_⟩;rw [aa] at J;exact aZ w.heap.size _ (aQ _) ⟨fp,al I ad _ _ _ _ _ hi J fun _ _ _ h=>by cases h⟩<|(lu ab).trans E
    | false =>
      obtain ⟨r,hi,J,E⟩:=hj;have az:=run_endLoop (P:=P) J<|by rw [aa]; simp
      rw [aa] at az;refine ⟨some (vL id r),_,az,?_⟩;rw [aa] at J;cases r with
      | true =>
        refine wpIn_ret ?_;exact bf w.heap.size _ pre (aQ _) hpre ⟨fp,al (X true) (aw true) _ _ _ _ _ hi J fun _ _ _ h=>by cases h⟩<|(lu ab).trans E
      | false =>
        refine wpIn_exit ?_;unfold ph;simp only [if_true];exact bd w.heap.size _ pre (aQ _) hpre ⟨fp,al (X false) (aw false) _ _ _ _ _ hi J fun _ _ _ h=>by cases h⟩<|(lu ab).trans E
section
variable {P:au} {N:Fm} {ops:Array Oper} {Q:Exit→(Nat→ag)→ah→Prop} {rest:List Oper} {σ:Nat→ag} {w:ah} {d':Option Nat} {d:Nat} {op:Op} {ty:av} {pos :String} {af:Array bT} {v:ag}
theorem L7 {l:Nat} {fo:aW} {args:Array aW} {A:Array av} {L:List ag} {R:Bool→ah→Prop} (J:ev N σ fo= .func (.yield l) #[] #[]) (E:args.toList.map (ev N σ)=L)
 (O:YieldAt eN 0 P l L.toArray w fun e W'=> ∃ b,e= .returned (.bool b)∧R b W') (k:∀ b W',R b W'→kh P N ops Q rest (aU σ d<|.bool b) W'):
 kh P N ops Q (⟨some d,.call ⟨.value fo,args,A⟩,ty,pos,af,none⟩::rest) σ w:=by
 obtain ⟨fn,tmps,a,b,I,C⟩:=O;unfold kh wpListIn;rw [if_pos (fh _ rfl _)];refine ⟨fun f _=>jW _ f,?_⟩;rw [mL,Oper.semAt_eq _ _ _ (fun c e=>by cases e),dr];have hm:args.map (ev N σ)=L.toArray:=by rw [← E,← Array.toList_map]
 have M:(execOp (ev N σ) ⟨some d,.call ⟨.value fo,args,A⟩,ty,pos,af,none⟩).run P w= .ok (.round l fn tmps a b) w:=by
  simp [execOp,resolve,J,Deferred.ofValue,invoke,hm,I]
 rw [M];simp only [Oper.uponIn];refine ⟨fun h0=>(by rw [mK] at h0; cases h0),?_⟩;have h1:RoundIn (fe N.r) (0 - 1) P l fn tmps a b w fun e W'=> ∃ b,e= .returned (.bool b)∧R b W':=by
  cases hr:N.r with
  | none=>exact C
  | some k=>exact C
 refine RoundIn.mono h1 ?_;rintro e W' ⟨c,rfl,hw⟩;simp only;rw [eD];exact k c W' hw
end
section
variable {P:au} {n:Nat} {F:List Nat} {σ:Nat→ag} {w:ah} {fn:Func} {R:ag→ah→Prop}
end
def vi (P:au) (s f:Nat):Option Nat:=
 match P.underlying s with
 | some (.struct A)=>match A[f]? with
   | some fd=>if da P fd.type=some none then some fd.offset else none
   | none=>none
 | _=>none
theorem Cb {P:au} {t:Nat} (hu:da P t=some none) (w:ah):(isAgg t).run P w= .ok false w:=by
 unfold da at hu;cases hd:P.underlying t with
 | none=>rw [hd] at hu; cases hu
 | some d=>
   rw [hd] at hu;cases d <;> first
    | (simp only [gG] at hu; obtain ⟨_,_,h⟩:=hu; cases h; done)
    | simp [isAgg,bt hd]
theorem G8 {P:au} {N:Fm} {σ:Nat→ag} {w:ah} {dst:Option Nat} {ty:av} {pos :String} {af:Array bT} {g:Option (Nat×Bool)} {x:aW} {s f n:Nat} {cs:Array ag} {v:ag} (A:vi P s f=some n) (I:ev N σ x= .agg cs) (E:cs[n]? =some v):
 (execOp (ev N σ) ⟨dst,.field s x f,ty,pos,af,g⟩).run P w= .ok (.value v) w:=by
 unfold vi at A;split at A
 · rename_i J hu;split at A
   · rename_i fd C;split at A
     · rename_i ha;cases A;simp [execOp,DS,bt hu,C,I,asAgg,part,Cb ha,E]
     · cases A
   · cases A
 · cases A
section
variable {P:au} {ops:Array Oper} {Q:Exit→Act→ah→Prop} {S:ah→Prop} {md:nP}
def Dg (P:au) (md:nP) (ops:Array Oper) (Q:Exit→Act→ah→Prop) (S:ah→Prop):Nat→Array Bool→Act→ah→Prop
 | 0,listed,a,w=>dw md ops listed= []∧Q .normal a w
 | fuel+1,listed,a,w=>
   (dw md ops listed= []→Q .normal a w)∧
   ∀ i∈dw md ops listed,wpOpIn eN 0 P ops Q i (fun A w'=>S w'∧Dg P md ops Q S fuel (listed.setIfInBounds i true) A w') a w
end
def L0 (P:au) (N:Fm) (ops:Array Oper) (Q:Exit→(Nat→ag)→ah→Prop) (S:ah→Prop) (fuel:Nat) (listed:Array Bool) (σ:Nat→ag) (w:ah):Prop :=
 Dg P .any ops (lift N Q) S fuel listed (act N σ) w
section
variable {P:au} {N:Fm} {ops:Array Oper} {Q:Exit→(Nat→ag)→ah→Prop} {σ:Nat→ag} {w:ah} {d':Option Nat} {d:Nat} {op:Op} {ty:av} {pos :String} {af:Array bT} {v:ag}
variable {S:ah→Prop} {fuel:Nat} {listed:Array Bool}
end
attribute [irreducible] L0
end Go.Hb
end
section
namespace Go.Hb
abbrev lX (A:List Nat):List Deferred:=A.map fun D=> {target:= .collected D,args:= #[]}
def mI:List Nat→ah→ah
 | [],w=>w
 | D::Ds,w=>mI Ds<|w.putObj D<|.deferred none
def fv (A:List Nat) (w:ah):Prop :=(∀ D∈A,w.heap[D]? =some (.deferred<|some []))∧A.Nodup
theorem fv.nc {A:List Nat} {w w':ah} (h:fv A w) (hn:cg w w'):fv A w':=⟨fun D C=>hn D _ (h.1 D C) ⟨(fun _ _ _ h=>by cases h),fun _ _ h=>by cases h⟩,h.2⟩
theorem fv.cons {A:List Nat} {D:Nat} {w:ah} (h:fv A w) (C:w.heap[D]? =some (.deferred<|some [])) (hn:D∉A):fv (D::A) w:=by grind [fv]
theorem fv.ne {A:List Nat} {w:ah} {D:Nat} (h:fv A w) (C:w.heap.size≤D):D∉A:=by grind [fv]
theorem fv.put {A:List Nat} {D:Nat} {w:ah} (h:fv (D::A) w):fv A (w.putObj D<|.deferred none):=
 ⟨fun k C=>by
  have I:k≠D:=fun E=>(ud.1 h.2).1<|E ▸ C;rw [lu I]; exact h.1 k (gR _ C),(ud.1 h.2).2⟩
theorem uU:∀ (A:List Nat) (w:ah),Md (fun k=>k∈A) w (mI A w)
 | [],w=>Md.refl _ w
 | D::A,w=>((wa w D<|.deferred none).mono fun k _ C=>C ▸ gS ..).trans' (uU A _) fun k _ C=>gR _ C
section
variable {P:au} {n:Nat} {Fx:List Nat} {σ:Nat→ag} {w:ah} {fn:Func} {R:ag→ah→Prop} {B:Exit→Act→ah→Prop} {N:Fm}
theorem A6 {tmps:Array ag} {v:ag} :∀ (A:List Nat) (w:ah),fv A w→(results fn tmps).run P (mI A w)= .ok v (mI A w)→R v (mI A w)→
 LeavesInM eN 0 P fn tmps (fun e w'=> ∃ v,e= .returned v∧R v w') (lX A) .returning w
 | [],w,_,hr,hR=>⟨v,hr,v,rfl,hR⟩
 | D::A,w,h,hr,hR=>⟨FrameMode.noConfusion,.inl ⟨_,_,rfl,run_takeDeferred (h.1 D<|gS ..),A6 A _ h.put hr hR⟩⟩
theorem G5 {r:ResultVar} {v:ag} (A:List Nat) (C:fv A w) (h:fn.results= #[r]) (h1:gU P ⟨n,lX A,Fx,none⟩ σ (mI A w) r v) (E:R v (mI A w)):qb ⟨n,lX A,Fx,none⟩ (Bm P fn R) .ret σ w:=
 A6 A w C (B8 h<|gA h1) E
theorem Bl {id:Nat} {c:Code} (h:eM P N c (ph id B) σ w):eM P N (.block id c) B σ w:=wpIn_block h
theorem IH {c:Code} {L:List (Nat×ag)} (h:Sl σ L) (A:eM P N c B (o5 σ L) w):eM P N c B σ w:=by rw [tB h] at A; exact A
theorem Bn {id:Nat} (h:qb N B .normal σ w):qb N (ph id B) .normal σ w:=h
theorem ID {id:Nat} (h:qb N B .normal σ w):qb N (ph id B) (.exit id) σ w:=by show (if id=id then B .normal (act N σ) w else B (.exit id) (act N σ) w); rw [if_pos rfl]; exact h
theorem IN {i:Nat} {y:Act→ah→Prop} (h:qb N B (.exit i) σ w):qb N (Exit.then y B) (.exit i) σ w:=h
def vV (n:Nat) (Fx:List Nat) (R:List Nat→(Nat→ag)→ah→Prop) (B:Exit→Act→ah→Prop):Exit→Act→ah→Prop
 | .normal,a,w=> ∃ A σ,a=act ⟨n,lX A,Fx,none⟩ σ∧R A σ w
 | e,a,w=>B e a w
variable {S:List Nat→(Nat→ag)→ah→Prop}
theorem Bp (A:List Nat) (h:S A σ w):qb ⟨n,lX A,Fx,none⟩ (vV n Fx S B) .normal σ w:=⟨A,σ,rfl,h⟩
theorem IL {i:Nat} (h:qb N B (.exit i) σ w):qb N (vV n Fx S B) (.exit i) σ w:=h
theorem IK {c:Code} (A:List Nat) (L:Nat→List Nat→(Nat→ag)→ah→Prop) (m:Nat) (h0:L m A σ w)
 (h:∀ m A σ w,L m A σ w→eM P ⟨n,lX A,Fx,none⟩ c (vV n Fx (fun O σ' w'=> ∃ k,k < m∧L k O σ' w') B) σ w):eM P ⟨n,lX A,Fx,none⟩ (.loop c) B σ w:=by
 intro b k cs al hb hr;have key:∀ m A σ w,L m A σ w→
  ∃ e M w',B e M w'∧ArrivesIn (Machine.fenced P eN) P (lone (b.atR (act ⟨n,lX A,Fx,none⟩ σ) (.code c:: .inLoop c::k)) cs w) b k cs e M w':=by
  intro m
  induction m using Nat.strongRecOn with
  | _ m ih=>
    intro A σ w ac;obtain ⟨e,J,I,E,C⟩:=h m A σ w ac b (.inLoop c::k) cs al hb hr;cases e with
    | normal=>
      obtain ⟨V,ao,rfl,j,ai,ad⟩:=E;obtain ⟨ab,Z,am,ak,ae⟩:=ih j ai V ao I ad;exact ⟨ab,Z,am,ak,.of_steps (StepsIn.trans C<|.one (fenced_calm hb hr U) stepR_inLoop) ae⟩
    | exit id=>exact ⟨.exit id,J,I,E,.pass (x:= .inLoop c) rfl (fun _ _=> .inl<|by simp) C⟩
    | goto l=>exact ⟨.goto l,J,I,E,.pass (x:= .inLoop c) rfl (fun _ _=> .inl<|by simp) C⟩
    | ret=>exact ⟨.ret,J,I,E,.pass (x:= .inLoop c) rfl (fun _ _=> .inl<|by simp) C⟩
    | panic aa=>exact ⟨.panic aa,J,I,E,.pass (x:= .inLoop c) rfl (fun _ _=> .inl<|by simp) C⟩
    | outgrown=>exact ⟨.outgrown,J,I,E,.pass (x:= .inLoop c) rfl (fun _ _=> .inl<|by simp) C⟩
 obtain ⟨e,M,w',aj,C⟩:=key _ A σ w h0;exact ⟨e,M,w',aj,.of_steps (.one (fenced_calm hb hr U) stepR_loop) C⟩
end
section
variable {P:au} {N:Fm} {σ:Nat→ag} {w:ah} {dst:Option Nat} {ty:av} {pos :String} {af:Array bT} {g:Option (Nat×Bool)} {K:(Nat→ag)→ah→Prop}
end
section
variable {P:au} {N:Fm} {σ:Nat→ag} {w:ah} {dst:Option Nat} {ty:av} {pos :String} {af:Array bT} {g:Option (Nat×Bool)} {x y:aW}
end
end Go.Hb
end
section
namespace Go.Hb
theorem JY {L:List ag} {o:Nat} {v:ag} (h:o < L.length):(L.set o v).take (o+1)=L.take o++ [v]:=by grind [List.set_eq_take_append_cons_drop,List.take_append,dB,Nat.min_eq_left,Nat.add_sub_cancel_left,ri]
theorem JW {L:List ag} {o m:Nat} {v:ag} (h:o < m):(L.set o v).drop m=L.drop m:=by
 rw [List.drop_set,if_pos h]
section
variable {P:au} {N:Fm} {σ:Nat→ag} {w:ah} {ty:av} {pos :String} {af:Array bT} {g:Option (Nat×Bool)} {x:aW} {K:(Nat→ag)→ah→Prop}
end
end Go.Hb
end
section
namespace Go.Hb
section
variable {P:au} {N:Fm} {σ:Nat→ag} {w:ah} {dst:Option Nat} {ty:av} {pos :String} {af:Array bT} {g:Option (Nat×Bool)} {x:aW}
theorem Fb {t n C b:Nat} (he:ku P t=some (n,C)) (A:ev N σ x= .pointer (some ⟨b,0,none⟩)):
 (execOp (ev N σ) ⟨dst,.slice t x none none none,ty,pos,af,g⟩).run P w= .ok (.value<|.slice (some ⟨b,0,none⟩) n n) w:=by
 unfold ku at he;cases hd:P.underlying t with
 | none=>rw [hd] at he; cases he
 | some d=>
   rw [hd] at he;cases d <;> first | (cases he; done) | skip
   rename_i m e;cases hi:P.info? e with
   | none=>simp [hi] at he
   | some j=>
     simp only [hi,fu,bM,gT] at he;obtain ⟨rfl,rfl⟩:=he;simp [execOp,nK,Instr.sureAddr,kn,A,bt hd,sizeOf,de hi,fP]
def vj (P:au) (t f:Nat):Option (Nat×Nat):=
 match P.underlying t with
 | some (.struct A)=>(A[f]?).map fun d=>(d.type,d.offset)
 | _=>none
theorem Hi {t f A off n:Nat} {cs vs:List ag} (h:vj P t f=some (A,off)) (ha:da P A=some (some n)) (I:ev N σ x= .agg cs.toArray) (E:(cs.drop off).take n=vs):
 (execOp (ev N σ) ⟨dst,.field t x f,ty,pos,af,g⟩).run P w= .ok (.value<|.agg vs.toArray) w:=by
 subst E;unfold vj at h;cases hd:P.underlying t with
 | none=>rw [hd] at h; cases h
 | some d=>
   rw [hd] at h;cases d <;> first | (cases h; done) | skip
   rename_i J;simp only [gG] at h;obtain ⟨fd,C,he⟩:=h;cases he;unfold da at ha;cases hd2:P.underlying fd.type with
   | none=>rw [hd2] at ha; cases ha
   | some d2=>
     rw [hd2] at ha;cases hi:P.info? fd.type with
     | none=>simp [Program.underlying,hi] at hd2
     | some i=>
       rw [hi] at ha;have L:cs.toArray.extract fd.offset (fd.offset+n)=((cs.drop fd.offset).take n).toArray:=by simp
       cases d2 <;> first
        | (cases ha; done)
        | (simp only [fu,bM] at ha; subst ha
           simp [execOp,DS,bt hd,C,I,asAgg,part,isAgg,bt hd2,sizeOf,de hi])
end
end Go.Hb
end
section
set_option linter.unusedSimpArgs false
namespace Go.Hb
open Classical
structure yG (P:au) (k:av) (cW:ag→Prop):Prop where
 key:nY P k cW
 stays:∀ w v,cW v→(qV v v).run P w= .ok v w
def HG (v:ag):Prop := ∃ s:List UInt8,v=str s
def AG (q:bu) (v:ag):Prop := ∃ a:Int,v= .int q a
theorem Am {d:TypeDesc} {cW:ag→Prop} (L:∀ x y,cW x→cW y→∃ A,yf d x y=some A∧(A=true↔x=y)) {x:ag} (M:cW x):∀ (es:List MapEntry) (i:Nat),(∀ e∈es,cW e.key)→
 (nJ d x es i=some none∧∀ e∈es,e.key≠x)∨∃ j e,nJ d x es i=some (some (i+j,e.val))∧es[j]? =some e∧e.key=x
 | [],i,_=> .inl ⟨rfl,fun _ h=>by simp at h⟩
 | e::es,i,h=>by
   obtain ⟨A,h1,J⟩:=L x e.key M<|h e<|by simp
   cases A with
   | true =>exact .inr ⟨0,e,by simp [nJ,h1],rfl,(J.1 rfl).symm⟩
   | false =>
     have V:e.key≠x:=fun U=>by cases J.2 U.symm
     rcases Am L M es (i+1) (fun e he=>h e<|by simp [he]) with ⟨C,E⟩ | ⟨j,e',C,E,O⟩
     · refine .inl ⟨by simp [nJ,h1,C],fun e' I=> ?_⟩;rcases ei.1 I with rfl | I
       · exact V
       · exact E e' I
     · refine .inr ⟨j+1,e',?_,E,O⟩;simp only [nJ,h1,C]; rw [show i+1 +j=i+(j+1) from by omega]
theorem AU {P:au} {k:av} {d:TypeDesc} {cW:ag→Prop} (E:P.underlying k=some d) (L:∀ x y,cW x→cW y→∃ C,yf d x y=some C∧(C=true↔x=y)) (J:∀ em w v,cW v→(km em 10000 k v).run P w= .ok () w):nY P k cW where
 check:=J
 find w x es hx hes:=by
  rcases Am L hx es 0 hes with ⟨h1,A⟩ | ⟨j,e,h1,A,I⟩
  · exact .inl ⟨by simp [nI,bt E,h1],A⟩
  · exact .inr ⟨j,e,by simp [nI,bt E,h1],A,I⟩
theorem yW (a b:ByteArray):(a==b)=decide (a=b):=by
 rw [Bool.eq_iff_iff,decide_eq_true_iff];show ((a.data==b.data)=true)↔_;rw [beq_iff_eq];exact ⟨fun h=>by cases a; cases b; cases h; rfl,fun h=>by rw [h]⟩
theorem AT {P:au} {k:av} (A:P.underlying k=some .string):yG P k HG where
 key:=AU A (by
  rintro _ _ ⟨a,rfl⟩ ⟨b,rfl⟩;refine ⟨_,U,?_⟩;rw [yW,decide_eq_true_iff];constructor
  · intro h; unfold str; rw [h]
  · intro h; unfold str at h; cases h; rfl) (by rintro em w _ ⟨a,rfl⟩; exact ze (n:=9999) A w)
 stays w v hv:=by obtain ⟨a,rfl⟩:=hv; simp [qV,DW,str,yW]
theorem FO {P:au} {k:av} {q r:bu} {em:Bool} {n:Nat} {a:Int} (A:P.underlying k=some (.int q)) (w:ah):(km em (n+1) k<|.int r a).run P w= .ok () w:=by
 simp only [km,Sem.run_bind,bt A,Result.andThen_ok,Sem.run_pure]
theorem AS {P:au} {k:av} {q r:bu} (A:P.underlying k=some (.int q)):yG P k (AG r) where
 key:=AU A (by
  rintro _ _ ⟨a,rfl⟩ ⟨b,rfl⟩;refine ⟨decide (a=b),by simp [yf]; rfl,?_⟩;rw [decide_eq_true_iff];exact ⟨fun h=>by rw [h],fun h=>by cases h; rfl⟩) (by rintro em w _ ⟨a,rfl⟩; exact FO (n:=9999) A w)
 stays w v hv:=by obtain ⟨a,rfl⟩:=hv; simp [qV,DW]
section
variable {P:au} {N:Fm} {σ:Nat→ag} {w:ah} {dst:Option Nat} {ty:av} {pos :String} {af:Array bT} {g:Option (Nat×Bool)} {x y z:aW} {K:(Nat→ag)→ah→Prop}
variable {t k e:av} {cW:ag→Prop} {b:Nat} {f:ag→Option ag} {kx v zv:ag}
end
end Go.Hb
end
section
namespace Go.Hb
theorem HI (c:UInt8):∀ l:List UInt8,DY l c=kH c l:=by
 intro l
 induction l with
 | nil=>rfl
 | cons b l ih=>
   unfold DY;rw [ih];rw [show kH c (b::l)=if (b::l).idxOf c < (b::l).length then ((b::l).idxOf c:Int) else -1 from rfl,List.idxOf_cons];by_cases h:(b==c)=true
   · rw [if_pos h,h]; rfl
   · have h':(b==c)=false :=by simpa using h
     rw [if_neg h,h'];simp only [cond_false,dP];by_cases h1:l.idxOf c < l.length
     · have A:kH c l=l.idxOf c:=if_pos h1;rw [A,if_neg (fun hb=>by have :=eq_of_beq hb; omega),if_pos ab]; rfl
     · have A:kH c l= -1:=if_neg h1;rw [A,if_pos aE,if_neg ab]
theorem JN {P:au} {f:FuncId} {fn:Func} (A:P.funcs[f]? =some fn) (C:(fn.name== "runtime.NumGoroutine")=false) (hb:fn.body.isNone=true) (hn:Extern.findNext fn=none)
 (he:Extern.find fn=some Mk) (l:List UInt8) (c:UInt8) (w:ah):(callFunc f #[str l,.int .u8 c.toNat]).run P w= .ok (.value<|.int .i64<|kH c l) w:=by
 rw [run_callFunc_extern A C hb hn he];unfold str;rw [Lib.run_indexByteString];have h1:((c.toNat:Int)).toNat.toUInt8=c:=UInt8.toNat_inj.1<|by simp
 rw [h1,HI];rfl
section
variable {P:au} {N:Fm} {σ:Nat→ag} {w:ah} {dst:Option Nat} {ty:av} {pos :String} {af:Array bT} {g:Option (Nat×Bool)}
end
end Go.Hb
end
