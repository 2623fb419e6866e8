/-
  Walks and plain laws that the law rests on, laid together. No conditions but those that each theorem names.
-/
import Derived.Test.YtiagknaekaknhaaGreatDoorMnJoinedSound1
set_option linter.unusedVariables false
open Array renaming getElem?_eq_some_iff→dj
open Bool renaming and_eq_true→aZ,and_false→tf,false_eq_true→lV
open Go renaming Edge→bQ,IntKind→bu,Operand→aW,Program→au,TypeId→av,Value→ag,World→ah
open Go.Exit renaming inBlock→o0
open Go.Extern.BytealgIndexByte renaming indexByte→Me
open Go.Fence renaming wide→eN
open Go.Instr renaming checkKey→j6,field→DD,findKey→nt,findNow→nu,keyThatStays→qH,sameBits→DH,sameNow→xX,sliceAt→nw,sliceBounds→j7
open Go.Lib renaming indexByte→DJ
open Go.Region renaming Mode→nC,ready→dv
open Go.World renaming alloc_heap_new→DQ,putObj_heap_other→kW,putObj_heap_same→tv
open List renaming append_assoc→ka,append_nil→nE,foldlM_append→D6,foldlM_cons→o8,foldlM_nil→o9,foldl_cons→ij,getD_cons_zero→tB,getD_eq_getElem?_getD→cm,getElem?_drop→ik,getElem?_eq_getElem→bD,getElem?_eq_none→je,getElem?_eq_some_iff→cI,getElem?_map→gP,getElem_take→tC,getLast?_eq_some_getLast→Ea,length_cons→dJ,length_drop→gx,length_set→il,length_take→dh,mem_append→eA,mem_append_left→pd,mem_cons→dP,mem_cons_of_mem→gQ,mem_cons_self→gR,mem_filter→pf,mem_iff_getElem→tE,mem_range'_1→yf,mem_singleton→eO,nodup_cons→tJ,not_mem_nil→tK,pairwise_iff_getElem→pj,range'→jJ,replicate→dk,takeWhile_cons→Ei,take_of_length_le→nG,take_succ_eq_append_getElem→El
open Nat renaming add_assoc→iM,eq_or_lt_of_le→Eo,le_refl→aR,le_trans→cN,lt_or_ge→dB,pow_succ→tP
open Option renaming bind_eq_bind→pk,bind_eq_some_iff→pn,map_eq_some_iff→gy,map_some→fu,pure_def→pq
open Option.some renaming inj→fv,injEq→bL
open Prod.mk renaming injEq→gS
open Go.Proofs.Tryz
open Go.RowKit

section
namespace Go.Hb
end Go.Hb
namespace Go.Hb
def nv (n:Nat):ag:= .int .i64 n
theorem eK {h:Array Obj} {a:Option Addr} {r:List Nat} {i x:Nat} (A:bd h a (r.map nv)) (hi:r[i]? =some x):ay h (bk a) (fo a+i*1)=some (.int .i64 (x:Nat)):=by
 rw [Nat.mul_one]; exact A.ay _ _<|by rw [gP,hi]; rfl
section
variable {P:au} {N:Fm} {σ:Nat→ag} {w:ah} {dst:Option Nat} {ty:av} {pos :String} {af:Array bQ} {g:Option (Nat×Bool)} {x y z:aW}
end
end Go.Hb
namespace Go.Hb
abbrev aP:Type :=Bool×List (UInt8×Int)
def dI:aP:=(false,[])
abbrev aK (a:List aP) (n:Nat):aP:=a.getD n dI
def dW (l:List (UInt8×Int)):Prop :=l.Pairwise fun x y=>x.1.toNat < y.1.toNat
instance (l:List (UInt8×Int)):Decidable (dW l):=by unfold dW; infer_instance
def gi (a:List aP) (p:aP):Bool:=decide (p.2≠[]) || p.1 || decide (a.length=1)
def vs (a:List aP):Nat→Nat×List Nat→Int→Option (Nat×List Nat)
 | 0,_,_=>none
 | f+1,(nx,mk),n=>
   if n≠nx then (if 0≤n∧n < nx∧mk.getD n.toNat 0=2 then some (nx,mk) else none)
   else if a.length≤nx then none
   else if dW (aK a nx).2∧gi a (aK a nx)=true then
    ((aK a nx).2.foldlM (fun s e=>vs a f s e.2) (nx+1,mk.set nx 1)).map fun s=>(s.1,s.2.set nx 2)
   else none
def shaped (a:List aP):Bool:=decide (0 < a.length) && decide (a.length≤1048576) && match vs a (a.length+1) (0,dk a.length 0) 0 with
 | some s=>decide (s.1=a.length)
 | none=>false
section
variable {a:List aP}
theorem xC:∀ (f:Nat) {nx A:Nat} {mk mk':List Nat} {n:Int},vs a f (nx,mk) n=some (A,mk')→nx≤A∧mk'.length=mk.length:=by
 intro f
 induction f with
 | zero=>intro nx A mk mk' n h; cases h
 | succ f ih=>
   intro nx A mk mk' n h;have C:∀ (es:List (UInt8×Int)) (nx A:Nat) (mk mk':List Nat),es.foldlM (fun s e=>vs a f s e.2) (nx,mk)=some (A,mk')→nx≤A∧mk'.length=mk.length:=by
    intro es
    induction es with
    | nil=>intro nx A mk mk' h; simp only [o9,pq,bL,gS] at h; obtain ⟨rfl,rfl⟩:=h; exact ⟨aR _,rfl⟩
    | cons e es E=>
      intro nx A mk mk' h;simp only [o8,pk,pn] at h;obtain ⟨⟨I,m1⟩,h1,h2⟩:=h;have J:=ih h1;have L:=E _ _ _ _ h2;exact ⟨ab,ab⟩
   rw [vs] at h;split at h
   · split at h
     · cases h; exact ⟨aR _,rfl⟩
     · cases h
   · split at h
     · cases h
     · split at h
       · simp only [gy] at h;obtain ⟨⟨I,m1⟩,h1,h2⟩:=h;simp only [gS] at h2;obtain ⟨rfl,rfl⟩:=h2;have :=C _ _ _ _ _ h1;simp only [il] at this ⊢;exact ⟨ab,this.2⟩
       · cases h
def IY (a:List aP) (l:List Nat) (i:Nat):Prop :=i < a.length∧dW (aK a i).2∧gi a (aK a i)=true∧∀ e∈(aK a i).2,0≤e.2∧e.2.toNat∈l
inductive Ord (a:List aP):List Nat→Prop
 | nil:Ord a []
 | snoc {l i} :Ord a l→IY a l i→i∉l→Ord a (l++ [i])
def tW (a:List aP) (i:Nat):Prop := ∃ j,j < i∧∃ e∈(aK a j).2,e.2=(i:Int)
structure pv (a:List aP) (nx:Nat) (mk:List Nat) (l:List Nat):Prop where
 ord:Ord a l
 len:mk.length=a.length
 le:nx≤a.length
 done :∀ i,mk.getD i 0=2↔i∈l
 lt:∀ i∈l,i < nx
 zero:∀ i,nx≤i→mk.getD i 0=0
theorem mB (mk:List Nat) (i j x:Nat) (h:i < mk.length):(mk.set i x).getD j 0=if i=j then x else mk.getD j 0:=by grind
theorem La:∀ (f:Nat) {nx J:Nat} {mk mk':List Nat} {n:Int} {l:List Nat},vs a f (nx,mk) n=some (J,mk')→pv a nx mk l→
 ∃ C,pv a J mk' (l++C)∧(∀ i,i < nx→mk'.getD i 0=mk.getD i 0)∧(∀ i,nx≤i→i < J→i∈C)∧0≤n∧n.toNat∈l++C∧(∀ i,nx≤i→i < J→(i:Int)=n∨tW a i):=by
 intro f
 induction f with
 | zero=>intro nx J mk mk' n l h; cases h
 | succ f ih=>
   intro nx J mk mk' n l h V;rw [vs] at h;split at h
   · rename_i hn;split at h
     · rename_i L;cases h;exact ⟨[],by rw [nE]; exact V,fun _ _=>rfl,fun i h1 A=>by omega,L.1,by rw [nE]; exact (V.done _).1 L.2.2,fun i h1 A=>by omega⟩
     · cases h
   · rename_i hn;have hn:n=nx:=Classical.not_not.1 hn;split at h
     · cases h
     · rename_i aA;split at h
       · rename_i L;simp only [gy] at h;obtain ⟨⟨aB,m1⟩,h1,A⟩:=h;simp only [gS] at A;obtain ⟨rfl,rfl⟩:=A;have Z:nx < mk.length:=by rw [V.len]; omega
         have ai:pv a (nx+1) (mk.set nx 1) l:=by
          refine ⟨V.ord,by rw [il]; exact V.len,ab,fun i=> ?_,fun i hi=>by have :=V.lt i hi; omega,fun i hi=> ?_⟩
          · rw [mB _ _ _ _ Z];by_cases e:nx=i
            · subst e; rw [if_pos rfl];exact ⟨fun h=>by omega,fun h=>by have :=V.lt _ h; omega⟩
            · rw [if_neg e]; exact V.done i
          · rw [mB _ _ _ _ Z,if_neg ab]; exact V.zero i ab
         have ar:∀ (es:List (UInt8×Int)) (k I:Nat) (m M:List Nat) (l:List Nat),(∀ e∈es,e∈(aK a nx).2)→nx+1≤k→es.foldlM (fun s e=>vs a f s e.2) (k,m)=some (I,M)→pv a k m l→
          ∃ C,pv a I M (l++C)∧(∀ i,i < k→M.getD i 0=m.getD i 0)∧(∀ i,k≤i→i < I→i∈C)∧(∀ e∈es,0≤e.2∧e.2.toNat∈l++C)∧(∀ i,k≤i→i < I→tW a i)∧k≤I:=by
          intro es
          induction es with
          | nil=>
            intro k I m M l _ _ h V;simp only [o9,pq,bL,gS] at h;obtain ⟨rfl,rfl⟩:=h;exact ⟨[],by rw [nE]; exact V,fun _ _=>rfl,fun i h1 A=>by omega,fun e he=>by simp at he,fun i h1 A=>by omega,aR _⟩
          | cons e es av=>
            intro k I m M l ag ay h V;simp only [o8,pk,pn] at h;obtain ⟨⟨ah,m1⟩,g1,g2⟩:=h;obtain ⟨aw,aj,ak,al,am,ao,ap⟩:=ih g1 V;have az:=(xC f g1).1;obtain ⟨ax,X1,O,aa,ac,ad,aq⟩:=av _ _ _ _ _ (fun e he=>ag e<|by simp [he]) ab g2 aj;rw [ka] at X1;refine ⟨aw++ax,X1,fun i hi=>(O i ab).trans (ak i hi),fun i h1 A=> ?_,fun e' ae=> ?_,fun i h1 A=> ?_,ab⟩
            · rcases dB i ah with h | h
              · exact pd _<|al i h1 h
              · exact List.mem_append_right _<|aa i h A
            · rcases dP.1 ae with rfl | ae
              · refine ⟨am,?_⟩;rw [← ka]; exact pd _ ao
              · have :=ac e' ae;rw [ka] at this; exact this
            · rcases dB i ah with h | h
              · rcases ap i h1 h with E | E
                · exact ⟨nx,ab,e,ag e (by simp),E.symm⟩
                · exact E
              · exact ad i h A
         obtain ⟨C,X1,O,aa,ac,ad,aq⟩:=ar _ _ _ _ _ _ (fun _ h=>h) (aR _) h1 ai;have mC:nx < m1.length:=by rw [X1.len]; omega
         have au:nx∉l++C:=fun h=>by
          have E:=(X1.done nx).2 h;rw [O nx ab,mB _ _ _ _ Z,if_pos rfl] at E; omega
         refine ⟨C++ [nx],?_,fun i hi=> ?_,fun i A E=> ?_,ab,?_,fun i A E=> ?_⟩
         · rw [← ka];refine ⟨.snoc X1.ord ⟨ab,L.1,L.2,ac⟩ au,by rw [il]; exact X1.len,X1.le,fun i=> ?_,fun i hi=> ?_,fun i hi=> ?_⟩
           · rw [mB _ _ _ _ mC,eA,eO];by_cases e:nx=i
             · subst e; rw [if_pos rfl]; exact ⟨fun _=> .inr rfl,fun _=>rfl⟩
             · rw [if_neg e,X1.done i]; exact ⟨.inl,fun h=>h.elim id fun h=>absurd h.symm e⟩
           · rw [eA,eO] at hi;rcases hi with hi | rfl
             · exact X1.lt i hi
             · omega
           · rw [mB _ _ _ _ mC,if_neg ab]; exact X1.zero i hi
         · rw [mB _ _ _ _ mC,if_neg ab,O i ab,mB _ _ _ _ Z,if_neg ab]
         · rw [eA,eO];rcases Eo A with U | U
           · exact .inr U.symm
           · exact .inl<|aa i ab E
         · rw [← ka,eA,eO]; right; omega
         · rcases Eo A with U | U
           · left; omega
           · exact .inr<|ad i ab E
       · cases h
structure tZ (a:List aP) (l:List Nat):Prop where
 pos :0 < a.length
 le:a.length≤1048576
 ord:Ord a l
 all:∀ i,i < a.length→i∈l
 met:∀ i,0 < i→i < a.length→tW a i
theorem J1 (h:shaped a=true):∃ l,tZ a l:=by
 unfold shaped at h;simp only [aZ,decide_eq_true_eq] at h;obtain ⟨⟨h1,J⟩,A⟩:=h;split at A
 · rename_i s L;obtain ⟨k,m⟩:=s;have A:=of_decide_eq_true A;simp only at A;subst A;have C:∀ i,(dk a.length 0).getD i 0=0:=fun i=>by
    rw [cm,List.getElem?_replicate]; split <;> rfl
   obtain ⟨l,V,_,E,_,_,I⟩:=La (l:= []) _ L ⟨.nil,by simp,ab,fun i=>by rw [C]; simp,fun i hi=>by simp at hi,fun i _=>C i⟩;refine ⟨l,h1,J,by simpa using V.ord,fun i hi=>E i ab hi,fun i h0 hi=>(I i ab hi).resolve_left ab⟩
 · cases A
theorem Ord.st {l:List Nat} (h:Ord a l):∀ i∈l,dW (aK a i).2∧gi a (aK a i)=true∧∀ e∈(aK a i).2,0≤e.2∧e.2.toNat∈l:=by
 induction h with
 | nil=>intro i hi; simp at hi
 | snoc _ A _ ih=>
   intro i hi;rcases eA.1 hi with h | h
   · obtain ⟨h1,E,C⟩:=ih i h; exact ⟨h1,E,fun e he=>⟨(C e he).1,pd _ (C e he).2⟩⟩
   · rw [eO] at h; subst h; exact ⟨A.2.1,A.2.2.1,fun e he=>⟨(A.2.2.2 e he).1,pd _ (A.2.2.2 e he).2⟩⟩
variable {l:List Nat}
theorem tZ.BH (h:tZ a l) {i:Nat} (hi:i < a.length):dW (aK a i).2:=(h.ord.st i<|h.all i hi).1
theorem xD {f nx:Nat} {mk:List Nat} {n:Int} (h:n≠nx):vs a (f+1) (nx,mk) n=if 0≤n∧n < nx∧mk.getD n.toNat 0=2 then some (nx,mk) else none:=by rw [vs,if_pos h]
theorem CY {f nx:Nat} {mk:List Nat} {n:Int} (h:n=nx) (A:a.length≤nx):vs a (f+1) (nx,mk) n=none:=by rw [vs,if_neg (fun e=>e h),if_pos A]
theorem sU {f nx:Nat} {mk:List Nat} {n:Int} (h:n=nx) (A:nx < a.length) (C:¬(dW (aK a nx).2∧gi a (aK a nx)=true)):vs a (f+1) (nx,mk) n=none:=by grind [vs]
theorem CW {f nx:Nat} {mk:List Nat} {n:Int} (h:n=nx) (A:nx < a.length) (C:dW (aK a nx).2) (E:gi a (aK a nx)=true):
 vs a (f+1) (nx,mk) n=((aK a nx).2.foldlM (fun s e=>vs a f s e.2) (nx+1,mk.set nx 1)).map fun s=>(s.1,s.2.set nx 2):=by grind [vs]
theorem Lb:∀ (f:Nat) {nx A:Nat} {mk mk':List Nat} {n:Int},vs a f (nx,mk) n=some (A,mk')→nx≤a.length→A≤a.length:=by
 intro f
 induction f with
 | zero=>intro nx A mk mk' n h; cases h
 | succ f ih=>
   intro nx A mk mk' n h hle;have C:∀ (es:List (UInt8×Int)) (nx A:Nat) (mk mk':List Nat),es.foldlM (fun s e=>vs a f s e.2) (nx,mk)=some (A,mk')→nx≤a.length→A≤a.length:=by
    intro es
    induction es with
    | nil=>intro nx A mk mk' h; simp only [o9,pq,bL,gS] at h; obtain ⟨rfl,rfl⟩:=h; exact id
    | cons e es E=>
      intro nx A mk mk' h hle;simp only [o8,pk,pn] at h;obtain ⟨⟨I,m1⟩,h1,h2⟩:=h;exact E _ _ _ _ h2<|ih h1 hle
   rw [vs] at h;split at h
   · split at h
     · cases h; exact hle
     · cases h
   · split at h
     · cases h
     · split at h
       · simp only [gy] at h;obtain ⟨⟨I,m1⟩,h1,h2⟩:=h;simp only [gS] at h2;obtain ⟨rfl,rfl⟩:=h2;exact C _ _ _ _ _ h1 ab
       · cases h
def fE (a:List aP) (f nx:Nat) (mk:List Nat) (es:List (UInt8×Int)):Option (Nat×List Nat):=es.foldlM (fun s e=>vs a f s e.2) (nx,mk)
theorem Le {f nx:Nat} {mk:List Nat} {es:List (UInt8×Int)} {e:UInt8×Int} {s:Nat×List Nat} (h:fE a f nx mk es=some s):fE a f nx mk (es++ [e])=vs a f s e.2:=by
 unfold fE at*;rw [D6,h];simp
theorem Ld {f nx:Nat} {mk:List Nat} {es es':List (UInt8×Int)} (h:fE a f nx mk es=none):fE a f nx mk (es++es')=none:=by grind [fE,D6]
theorem sW {f nx:Nat} {mk:List Nat} {es:List (UInt8×Int)} {s:Nat×List Nat} (h:fE a f nx mk es=some s) (hle:nx≤a.length):nx≤s.1∧s.2.length=mk.length∧s.1≤a.length:=by
 unfold fE at h
 induction es generalizing nx mk with
 | nil=>simp only [o9,pq,bL] at h; subst h; exact ⟨aR _,rfl,hle⟩
 | cons e es ih=>
   simp only [o8,pk,pn] at h;obtain ⟨⟨E,m1⟩,h1,h2⟩:=h;have C:=xC f h1;have A:=ih h2<|Lb f h1 hle;exact ⟨ab,ab,A.2.2⟩
theorem su {es:List (UInt8×Int)} {k:Nat} {e:UInt8×Int} (h:dW (es.take k)) (he:es[k]? =some e) (hp:∀ p,0 < k→es[k - 1]? =some p→p.1.toNat < e.1.toNat):dW (es.take<|k+1):=by
 obtain ⟨J,rfl⟩:=cI.1 he;rw [El J];unfold dW at*;refine List.pairwise_append.2 ⟨h,by simp,fun x L y C=> ?_⟩;rw [eO] at C; subst C;obtain ⟨j,I,rfl⟩:=tE.1 L;simp only [dh] at I;have h1:=hp es[k - 1] ab<|bD ab;rcases dB j (k - 1) with A | A
 · have E:=pj.1 h j (k - 1) (by rw [dh]; omega) (by rw [dh]; omega) A;rw [tC,tC] at E;rw [tC]; omega
 · have :j=k - 1:=ab;subst this;rw [tC]; exact h1
theorem Bg {es:List (UInt8×Int)} {k:Nat} {e p:UInt8×Int} (h0:0 < k) (he:es[k]? =some e) (hp:es[k - 1]? =some p) (h:e.1.toNat≤p.1.toNat):¬dW es:=fun hr=>by
 obtain ⟨A,rfl⟩:=cI.1 he;obtain ⟨C,rfl⟩:=cI.1 hp;have :=pj.1 hr (k - 1) k C A ab;omega
theorem CV {f nx:Nat} {mk:List Nat} {s:Nat×List Nat} (A:nx < a.length) (hr:dW (aK a nx).2) (C:fE a f (nx+1) (mk.set nx 1) (aK a nx).2=some s):vs a (f+1) (nx,mk) (nx:Int)=if gi a (aK a nx)=true then some (s.1,s.2.set nx 2) else none:=by
 by_cases h:gi a (aK a nx)=true
 · rw [CW rfl A hr h,if_pos h];unfold fE at C;rw [C]; rfl
 · rw [sU rfl A (fun e=>h e.2),if_neg h]
theorem sV {f nx k:Nat} {mk:List Nat} (C:nx < a.length) (h:fE a f (nx+1) (mk.set nx 1) ((aK a nx).2.take k)=none):vs a (f+1) (nx,mk) (nx:Int)=none:=by
 by_cases A:dW (aK a nx).2∧gi a (aK a nx)=true
 · rw [CW rfl C A.1 A.2];have :=Ld (es':=(aK a nx).2.drop k) h;rw [List.take_append_drop] at this;unfold fE at this;rw [this]; rfl
 · exact sU U C A
theorem CX {f nx:Nat} {mk:List Nat} (A:nx < a.length) (h:¬dW (aK a nx).2):vs a (f+1) (nx,mk) (nx:Int)=none:=sU rfl A (fun e=>h e.1)
theorem K9 {f nx:Nat} {mk:List Nat} (A:nx < a.length) (h:gi a (aK a nx)=false):vs a (f+1) (nx,mk) (nx:Int)=none:=sU rfl A (fun e=>by rw [h] at e; exact Bool.noConfusion e.2)
theorem lT {f nx k:Nat} {mk:List Nat} {es:List (UInt8×Int)} {e:UInt8×Int} {s:Nat×List Nat} (h:fE a f nx mk (es.take k)=some s) (he:es[k]? =some e):fE a f nx mk (es.take<|k+1)=vs a f s e.2:=by
 obtain ⟨A,rfl⟩:=cI.1 he;rw [El A];exact Le h
theorem AT {q:aP} (h:0 < q.2.length):gi a q=true :=by grind [gi]
theorem AS {q:aP} (h:q.1=true):gi a q=true :=by
 unfold gi; rw [h,Bool.or_true,Bool.true_or]
theorem vA {q:aP} (h:¬0 < q.2.length) (A:q.1=false):gi a q=decide (a.length=1):=by grind [gi,List.eq_nil_of_length_eq_zero]
theorem getD_set_ne (mk:List Nat) {i j:Nat} (x:Nat) (h:i≠j):(mk.set i x).getD j 0=mk.getD j 0:=by grind
theorem Lc:∀ (f:Nat) {nx A:Nat} {mk mk':List Nat} {n:Int},vs a f (nx,mk) n=some (A,mk')→(∀ i,nx≤i→mk.getD i 0=0)→∀ i,A≤i→mk'.getD i 0=0:=by
 intro f
 induction f with
 | zero=>intro nx A mk mk' n h; cases h
 | succ f ih=>
   intro nx A mk mk' n h C;have I:∀ (es:List (UInt8×Int)) (nx A:Nat) (mk mk':List Nat),es.foldlM (fun s e=>vs a f s e.2) (nx,mk)=some (A,mk')→(∀ i,nx≤i→mk.getD i 0=0)→nx≤A∧∀ i,A≤i→mk'.getD i 0=0:=by
    intro es
    induction es with
    | nil=>intro nx A mk mk' h; simp only [o9,pq,bL,gS] at h; obtain ⟨rfl,rfl⟩:=h; exact fun h=>⟨aR _,h⟩
    | cons e es J=>
      intro nx A mk mk' h C;simp only [o8,pk,pn] at h;obtain ⟨⟨L,m1⟩,h1,h2⟩:=h;have g:=J _ _ _ _ h2<|ih h1 C;exact ⟨cN (xC f h1).1 g.1,g.2⟩
   rw [vs] at h;split at h
   · split at h
     · cases h; exact C
     · cases h
   · split at h
     · cases h
     · split at h
       · simp only [gy] at h;obtain ⟨⟨L,m1⟩,h1,h2⟩:=h;simp only [gS] at h2;obtain ⟨rfl,rfl⟩:=h2;obtain ⟨M,E⟩:=I _ _ _ _ _ h1 fun i hi=>by rw [getD_set_ne _ _ ab]; exact C i ab
         exact fun i hi=>by rw [getD_set_ne _ _ ab]; exact E i hi
       · cases h
theorem Lf {f nx:Nat} {mk:List Nat} {es:List (UInt8×Int)} {s:Nat×List Nat} (h:fE a f nx mk es=some s) (A:∀ i,nx≤i→mk.getD i 0=0):∀ i,s.1≤i→s.2.getD i 0=0:=by
 unfold fE at h
 induction es generalizing nx mk with
 | nil=>simp only [o9,pq,bL] at h; subst h; exact A
 | cons e es ih=>
   simp only [o8,pk,pn] at h;obtain ⟨⟨C,m1⟩,h1,h2⟩:=h;exact ih h2<|Lc f h1 A
theorem sI (h:¬(0 < a.length∧a.length≤1048576)):shaped a=false :=by grind [shaped]
theorem Cc (h:vs a (a.length+1) (0,dk a.length 0) 0=none):shaped a=false :=by
 unfold shaped; rw [h,tf]
theorem sJ {s:Nat×List Nat} (h1:0 < a.length) (A:a.length≤1048576) (h:vs a (a.length+1) (0,dk a.length 0) 0=some s):shaped a=decide (s.1=a.length):=by grind [shaped]
end
end Go.Hb
namespace Go.Hb
structure ke (h:Array Obj) (ea:Option Addr) (es:List (UInt8×Int)):Prop where
 ok:0 < es.length→ea=some ⟨bk ea,fo ea,none⟩
 b:∀ k e,es[k]? =some e→ay h (bk ea) (fo ea+k*2 +0)=some (.int .u8 e.1.toNat)
 to:∀ k e,es[k]? =some e→ay h (bk ea) (fo ea+k*2 +1)=some (.int .i64 e.2)
theorem ke.wk {w w':ah} {A:Option Addr} {es:List (UInt8×Int)} (h:ke w.heap A es) (hm:Wk w w'):ke w'.heap A es:=⟨h.ok,fun k e he=>hm.ay (h.b k e he),fun k e he=>hm.ay<|h.to k e he⟩
theorem xu {h:Array Obj} {b o:Nat} {u v:ag} (h0:ay h b (o+0)=some u) (h1:ay h b (o+1)=some v):∀ j,j < 2→ay h b (o+j)= [u,v][j]? :=by grind
theorem ke.two {h:Array Obj} {A:Option Addr} {es:List (UInt8×Int)} (C:ke h A es) {k:Nat} {e:UInt8×Int} (he:es[k]? =some e):∀ j,j < 2→ay h (bk A) (fo A+k*2 +j)= [Value.int .u8 e.1.toNat,.int .i64 e.2][j]? :=xu (C.b k e he)<|C.to k e he
structure eT (h:Array Obj) (aa:Option Addr) (a:List aP):Prop where
 ok:0 < a.length→aa=some ⟨bk aa,fo aa,none⟩
 st:∀ i,i < a.length→∃ ea ec,ay h (bk aa) (fo aa+i*2 +0)=some (.bool (aK a i).1)∧ay h (bk aa) (fo aa+i*2 +1)=some (.slice ea (aK a i).2.length ec)∧ke h ea (aK a i).2
theorem eT.wk {w w':ah} {A:Option Addr} {a:List aP} (h:eT w.heap A a) (hm:Wk w w'):eT w'.heap A a:=
 ⟨h.ok,fun i hi=>by
  obtain ⟨C,E,h1,I,J⟩:=h.st i hi;exact ⟨C,E,hm.ay h1,hm.ay I,J.wk hm⟩⟩
theorem eT.two {h:Array Obj} {C:Option Addr} {a:List aP} (L:eT h C a) {i:Nat} (hi:i < a.length):∃ A E,(∀ j,j < 2→ay h (bk C) (fo C+i*2 +j)= [Value.bool (aK a i).1,.slice A (aK a i).2.length E][j]?)∧ke h A (aK a i).2:=by
 obtain ⟨A,E,h1,I,J⟩:=L.st i hi;exact ⟨A,E,xu h1 I,J⟩
theorem Bu {w:ah} {B e size n b:Nat} {xs:List ag} (h:w.ownsRow B e size (.slice (some ⟨b,0,none⟩) n n) n xs):az w.heap b xs:=by
 rcases h.2 with ⟨hn,_⟩ | ⟨g,cap,cur,C,_,E,_,_,I,A⟩
 · cases hn
 · simp only [Value.slice.injEq,bL,Addr.mk.injEq,and_true,true_and] at C;obtain ⟨rfl,rfl⟩:=C;rw [nG (by rw [Array.length_toList,I]; exact aR _)] at A;exact ⟨_,by rw [← A]; simpa using E⟩
theorem mT {w w':ah} {b o:Nat} {u v:ag} (hm:Wk w w') (h:∀ j,j < 2→ay w.heap b (o+j)= [u,v][j]?):∀ j,j < 2→ay w'.heap b (o+j)= [u,v][j]? :=xu (hm.ay<|h 0 ab)<|hm.ay<|h 1 ab
theorem Md.dr {F:Nat→Prop} {w w':ah} (h:Md F w.drew w'):Md F w w':=⟨h.os,h.output,h.size,h.dG⟩
def jj (n:Nat):ag:= .int .u8 n
theorem yI {h:Array Obj} {b:Nat} {f:Nat→ag} {mk:List Nat} {i:Nat} (hb:az h b (mk.map f)) (hi:i < mk.length):ay h b (0 +i*1)=some (f<|mk.getD i 0):=by
 rw [Nat.mul_one,Nat.zero_add,hb.ay,gP,cm,bD hi]; rfl
end Go.Hb
namespace Go.Hb
abbrev Nr:Type :=List UInt8×Nat
end Go.Hb
namespace Go.Hb
theorem J4 (m:Nat):(m:Int).fdiv (2 ^ min (1:Int).toNat IntKind.u64.bits)=((m / 2:Nat):Int):=by
 show (m:Int).fdiv 2=_;rw [Int.fdiv_eq_ediv_of_nonneg _ ab]; rfl
section
variable {P:au} {N:Fm} {σ:Nat→ag} {w:ah} {ty:av} {pos :String} {af:Array bQ} {g:Option (Nat×Bool)} {x y:aW} {K:(Nat→ag)→ah→Prop}
end
end Go.Hb
namespace Go.Hb
def BZ (l:List Nr) (c d:Nat):List Nr:=(l.drop c).take<|d - c
end Go.Hb
namespace Go.Hb
end Go.Hb
end
section
namespace Go.Hb
def dH:List UInt8→Nat
 | []=>0
 | b::l=>b.toNat % 128 +128 *dH l
theorem vB:∀ (l m:List UInt8),dH (l++m)=dH l+128 ^ l.length*dH m
 | [],m=>by simp [dH]
 | b::l,m=>by
   rw [List.cons_append,dH,dH,vB l m,dJ,tP,Nat.mul_add,← Nat.mul_assoc,Nat.mul_comm 128 (128 ^ l.length)]; omega
theorem rZ:∀ (l:List UInt8),dH l < 128 ^ l.length
 | []=>by simp [dH]
 | b::l=>by
   have :=rZ l;rw [dH,dJ,tP]; omega
def fR (l:List UInt8):Nat:=((l.take 10).takeWhile fun b=>decide (128≤b.toNat)).length
theorem CL {f:UInt8→Bool} :∀ {l:List UInt8} {k:Nat},(∀ j,j < k→j < l.length∧f (l.getD j 0)=true)→(l.length≤k∨f (l.getD k 0)=false)→(l.takeWhile f).length=k
 | [],k,h,_=>by
   cases k with
   | zero=>rfl
   | succ k=>have :=(h 0 ab).1; simp at this
 | b::l,0,_,A=>by
   rcases A with A | A
   · simp at A
   · simp only [tB] at A;rw [Ei,A]; rfl
 | b::l,k+1,h1,A=>by
   have h0:=(h1 0 ab).2;simp only [tB] at h0;rw [Ei,h0,if_pos rfl,dJ,CL (k:=k) (fun j C=>by have :=h1 (j+1) ab; simpa using this) (by simpa using A)]
theorem CE {l:List UInt8} {n j:Nat} (h:j < n):(l.take n).getD j 0=l.getD j 0:=by
 rw [cm,List.getElem?_take_of_lt h,cm]
theorem zB {l:List UInt8} {n j:Nat} :(l.drop n).getD j 0=l.getD (n+j) 0:=by
 rw [cm,ik,cm]
theorem jw {s:List UInt8} {a k:Nat} (J:k≤10) (h:∀ j,j < k→a+j < s.length∧128≤(s.getD (a+j) 0).toNat) (A:k=10∨s.length≤a+k∨(s.getD (a+k) 0).toNat < 128):fR (s.drop a)=k:=by
 unfold fR;refine CL (fun j E=> ?_) ?_
 · obtain ⟨h1,C⟩:=h j E;refine ⟨by rw [dh,gx]; omega,?_⟩;rw [CE ab,zB];exact decide_eq_true C
 · rcases A with A | A | A
   · exact .inl<|by rw [dh]; omega
   · exact .inl<|by rw [dh,gx]; omega
   · by_cases I:k=10
     · exact .inl<|by rw [dh]; omega
     · refine .inr ?_;rw [CE ab,zB];exact decide_eq_false ab
def a0 (s:List UInt8) (a:Nat):Except Nat (Nat×Nat):=
 if fR (s.drop a)=10 then .error 61 else if s.length≤a+fR (s.drop a) then .error 60
 else if (fR (s.drop a)=9∧1 < (s.getD (a+fR (s.drop a)) 0).toNat)∨(0 < fR (s.drop a)∧(s.getD (a+fR (s.drop a)) 0).toNat=0) then .error 61
 else .ok (dH ((s.drop a).take<|fR (s.drop a)+1),a+fR (s.drop a)+1)
section
variable {s:List UInt8} {a k n p:Nat}
theorem BS (h:fR (s.drop a)=10):a0 s a= .error 61:=by unfold a0; rw [if_pos h]
theorem sB (h:fR (s.drop a)=k) (A:k≠10) (C:s.length≤a+k):a0 s a= .error 60:=by unfold a0; rw [h,if_neg A,if_pos C]
theorem oD (h:fR (s.drop a)=k) (C:k≠10) (E:a+k < s.length) (A:(k=9∧1 < (s.getD (a+k) 0).toNat)∨(0 < k∧(s.getD (a+k) 0).toNat=0)):a0 s a= .error 61:=by
 unfold a0; rw [h,if_neg C,if_neg ab,if_pos A]
theorem sA (h:fR (s.drop a)=k) (C:k≠10) (E:a+k < s.length) (A:¬((k=9∧1 < (s.getD (a+k) 0).toNat)∨(0 < k∧(s.getD (a+k) 0).toNat=0))):a0 s a= .ok (dH ((s.drop a).take<|k+1),a+k+1):=by
 unfold a0; rw [h,if_neg C,if_neg ab,if_neg A]
theorem jb (h:a0 s a= .ok (n,p)):a < p∧p≤s.length∧n < 18446744073709551616:=by
 unfold a0 at h;split at h
 · cases h
 · split at h
   · cases h
   · split at h
     · cases h
     · rename_i h1 M O;simp only [Except.ok.injEq,gS] at h;obtain ⟨rfl,rfl⟩:=h;refine ⟨ab,ab,?_⟩;have Z:fR (s.drop a)≤10:=by
        unfold fR;exact cN (List.takeWhile_sublist _).length_le<|by rw [dh]; omega
       generalize V:fR (s.drop a)=k at*;have L:=rZ<|(s.drop a).take<|k+1;have hlen:((s.drop a).take<|k+1).length=k+1:=by rw [dh,gx]; omega
       by_cases J:k=9
       · subst J;rw [show (9:Nat)+1=10 from rfl,List.take_add_one,vB];have A:=rZ<|(s.drop a).take 9;have E:((s.drop a).take 9).length=9:=by rw [dh,gx]; omega
         rw [E] at A ⊢;have I:(s.drop a)[9]? =some (s.getD (a+9) 0):=by
          rw [ik,cm,bD ab]; rfl
         rw [I];simp only [Option.toList_some,dH];have U:(s.getD (a+9) 0).toNat≤1:=ab;have C:(128:Nat) ^ 9=9223372036854775808:=aD;rw [C] at A ⊢;omega
       · rw [hlen] at L;have :(128:Nat) ^ (k+1)≤128 ^ 9:=Nat.pow_le_pow_right aD ab;have C:(128:Nat) ^ 9=9223372036854775808:=aD;omega
end
def cn {α:Type} (f:Nat→Except Nat (α×Nat)):Nat→Nat→Except Nat (List α×Nat)
 | 0,a=> .ok ([],a)
 | k+1,a=>match cn f k a with
   | .error e=> .error e
   | .ok (l,p)=>match f p with
     | .error e=> .error e
     | .ok (x,q)=> .ok (l++ [x],q)
section
variable {α:Type} {f:Nat→Except Nat (α×Nat)} {k n a p q e:Nat} {l:List α} {x:α}
theorem lD (h:cn f k a= .ok (l,p)) (A:f p= .ok (x,q)):cn f (k+1) a= .ok (l++ [x],q):=by rw [cn,h]; simp only [A]
theorem hJ (h:cn f k a= .ok (l,p)) (A:f p= .error e) (hn:k < n):cn f n a= .error e:=by
 have h1:cn f (k+1) a= .error e:=by rw [cn,h]; simp only [A]
 obtain ⟨d,rfl⟩:∃ d,n=k+1 +d:=⟨n - (k+1),ab⟩
 clear hn
 induction d with
 | zero=>exact h1
 | succ d ih=>rw [← iM,cn,ih]
theorem iz:∀ {k:Nat} {l:List α} {p:Nat},cn f k a= .ok (l,p)→l.length=k
 | 0,l,p,h=>by cases h; rfl
 | k+1,l,p,h=>by
   rw [cn] at h;split at h
   · cases h
   · rename_i C p2 A;split at h
     · cases h
     · cases h;rw [List.length_append,iz A]; rfl
theorem mE {R:Nat→Prop} {S:α→Prop} (E:∀ p x q,R p→f p= .ok (x,q)→R q∧S x):∀ {k:Nat} {l:List α} {p:Nat},R a→cn f k a= .ok (l,p)→R p∧∀ x∈l,S x
 | 0,l,p,ha,h=>by cases h; exact ⟨ha,fun x C=>by simp at C⟩
 | k+1,l,p,ha,h=>by
   rw [cn] at h;split at h
   · cases h
   · rename_i U p2 I;obtain ⟨J,L⟩:=mE E ha I;split at h
     · cases h
     · rename_i x q C;cases h;obtain ⟨M,O⟩:=E _ _ _ J C;refine ⟨M,fun y A=> ?_⟩;rcases eA.1 A with A | A
       · exact L y A
       · rw [eO.1 A]; exact O
end
def cR (s:List UInt8) (a:Nat):Except Nat (List UInt8×Nat):=match a0 s a with
 | .error e=> .error e
 | .ok (n,p)=>if 255 < n then .error 62 else if s.length < p+n then .error 60 else .ok ((s.drop p).take n,p+n)
def gn (s:List UInt8) (a:Nat):Except Nat ((List UInt8×List UInt8)×Nat):=match cR s a with
 | .error e=> .error e
 | .ok (f,p)=>match cR s p with
   | .error e=> .error e
   | .ok (t,q)=> .ok ((f,t),q)
def dZ (s:List UInt8) (n a:Nat):Except Nat ((UInt8×Int)×Nat):=if s.length≤a then .error 60 else match a0 s (a+1) with
 | .error e=> .error e
 | .ok (t,p)=>if n≤t then .error 190 else .ok ((s.getD a 0,(t:Int)),p)
def fl (s:List UInt8) (n a:Nat):Except Nat (aP×Nat):=match a0 s a with
 | .error e=> .error e
 | .ok (v,p)=>if 256 < v / 2 then .error 190 else match cn (dZ s n) (v / 2) p with
   | .error e=> .error e
   | .ok (es,q)=> .ok ((decide (v % 2=1),es),q)
def cH (s:List UInt8) (a:Nat):Except Nat (List aP×Nat):=match a0 s a with
 | .error e=> .error e
 | .ok (n,p)=>if n=0∨1048576 < n then .error 190 else match cn (fl s n) n p with
   | .error e=> .error e
   | .ok (l,q)=>if shaped l=true then .ok (l,q) else .error 190
def gJ (r:List UInt8×List UInt8):Bool:=decide (r.1≠[]) && (fM r.1 && decide (r.1.length≤32)) && (fM r.2 && decide (r.2.length≤32))
def ef (n:Nat) (t:List UInt8) (rs:List (List UInt8×List UInt8)):Bool:=decide (1≤n∧n≤64∧rs.length≤256) && (decide (t= []) || decide (letE t=(t,0))) && rs.all gJ
structure dm where
 least:Nat
 tr:List UInt8
 cZ:List (List UInt8×List UInt8)
 ar:List (List aP)
def eI:List UInt8:= [72,66,75,49]
def fO (s:List UInt8) (n:Nat) (t:List UInt8) (rs:List (List UInt8×List UInt8)) (a:Nat):Except Nat dm:=
 if ef n t rs=true then match cn (cH s) 4 a with
  | .error e=> .error e
  | .ok (l,p)=>if p=s.length then .ok ⟨n,t,rs,l⟩ else .error 202
 else .error 201
def bH (s:List UInt8):Except Nat dm:=
 if s.take 4=eI then match a0 s 4 with
  | .error e=> .error e
  | .ok (n,p1)=>match cR s p1 with
    | .error e=> .error e
    | .ok (t,p2)=>match a0 s p2 with
      | .error e=> .error e
      | .ok (m,p3)=>if 256 < m then .error 201 else match cn (gn s) m p3 with
        | .error e=> .error e
        | .ok (rs,p4)=>fO s (if n≤64 then n else 0) t rs p4
 else .error 200
section
variable {s:List UInt8} {a n p:Nat}
theorem n3 {f:List UInt8} (h:cR s a= .ok (f,p)):a < p∧p≤s.length∧f.length≤255:=by
 unfold cR at h;split at h
 · cases h
 · rename_i n q A;obtain ⟨h1,C,_⟩:=jb A;split at h
   · cases h
   · split at h
     · cases h
     · cases h;exact ⟨ab,ab,by rw [dh]; omega⟩
theorem Jv {r:List UInt8×List UInt8} (h:gn s a= .ok (r,p)):a < p∧p≤s.length∧r.1.length≤255∧r.2.length≤255:=by
 unfold gn at h;split at h
 · cases h
 · rename_i f q I;obtain ⟨h1,L,A⟩:=n3 I;split at h
   · cases h
   · rename_i t O J;obtain ⟨M,C,E⟩:=n3 J;cases h;exact ⟨ab,C,A,E⟩
theorem GM {e:UInt8×Int} (h:dZ s n a= .ok (e,p)):a < p∧p≤s.length∧0≤e.2∧e.2 < n:=by
 unfold dZ at h;split at h
 · cases h
 · split at h
   · cases h
   · rename_i t q C;obtain ⟨h1,A,_⟩:=jb C;split at h
     · cases h
     · cases h;exact ⟨ab,A,by show (0:Int)≤(t:Int); omega,by show (t:Int) < n; omega⟩
theorem qx {x:aP} (h:fl s n a= .ok (x,p)):a < p∧p≤s.length∧x.2.length≤256∧∀ e∈x.2,0≤e.2∧e.2 < n:=by
 unfold fl at h;split at h
 · cases h
 · rename_i v q L;obtain ⟨h1,I,_⟩:=jb L;split at h
   · cases h
   · split at h
     · cases h
     · rename_i es Z A;have V:=iz A;obtain ⟨⟨U,J⟩,h5⟩:=mE (R:=fun p=>q≤p∧p≤s.length) (S:=fun e:UInt8×Int=>0≤e.2∧e.2 < n) (fun p x q' hr M=>by
        obtain ⟨O,C,E⟩:=GM M;exact ⟨⟨ab,C⟩,E⟩) ⟨aR _,I⟩ A
       cases h;exact ⟨ab,J,by show es.length≤256; omega,h5⟩
theorem BY {l:List aP} (h:cH s a= .ok (l,p)):a < p∧p≤s.length∧shaped l=true∧l.length≤1048576∧∀ x∈l,x.2.length≤256∧∀ e∈x.2,0≤e.2∧e.2 < l.length:=by
 unfold cH at h;split at h
 · cases h
 · rename_i n q M;obtain ⟨h1,I,_⟩:=jb M;split at h
   · cases h
   · split at h
     · cases h
     · rename_i aa ac A;have L:=iz A;obtain ⟨⟨Z,J⟩,h5⟩:=mE (R:=fun p=>q≤p∧p≤s.length) (S:=fun x:aP=>x.2.length≤256∧∀ e∈x.2,0≤e.2∧e.2 < n) (fun p x q' hr U=>by
        obtain ⟨V,C,E⟩:=qx U;exact ⟨⟨ab,C⟩,E⟩) ⟨aR _,I⟩ A
       split at h
       · cases h;rename_i O;exact ⟨ab,J,O,ab,by rw [L]; exact h5⟩
       · cases h
structure dm.Is (s:List UInt8) (b:dm):Prop where
 least:1≤b.least∧b.least≤64
 IW:b.cZ.length≤256
 cZ:∀ r∈b.cZ,r.1≠[]∧r.1.length≤32∧r.2.length≤32
 tr:b.tr.length≤255
 p7:b.ar.length=4
 ar:∀ l∈b.ar,shaped l=true∧l.length≤1048576∧∀ x∈l,x.2.length≤256∧∀ e∈x.2,0≤e.2∧e.2 < l.length
theorem rC {b:dm} (h:bH s= .ok b):b.Is s:=by
 unfold bH at h;split at h
 · split at h
   · cases h
   · rename_i n p1 h1;split at h
     · cases h
     · rename_i t p2 L;split at h
       · cases h
       · rename_i m p3 O;split at h
         · cases h
         · split at h
           · cases h
           · rename_i rs p4 U;generalize (if n≤64 then n else 0)=n0 at h;unfold fO at h;split at h
             · rename_i A;split at h
               · cases h
               · rename_i l p5 C;split at h
                 · cases h;unfold ef at A;simp only [aZ,decide_eq_true_eq,List.all_eq_true] at A;obtain ⟨⟨⟨E,I,J⟩,_⟩,g4⟩:=A;refine ⟨⟨E,I⟩,J,fun r hr=> ?_,(n3 L).2.2,iz C,(mE (R:=fun _=>True) (fun p x q _ M=>⟨trivial,(BY M).2.2⟩) trivial C).2⟩;have :=g4 r hr;unfold gJ at this;simp only [aZ,decide_eq_true_eq] at this;exact ⟨this.1.1,this.1.2.2,this.2.2⟩
                 · cases h
             · cases h
 · cases h
end
end Go.Hb
end
section
namespace Go.Hb
def dY {α:Type} (n:Nat) (base:Nat→α) (stp:Nat→(Nat→α)→α):Nat→Nat→α
 | 0,i=>base i
 | j+1,i=>if i=n - (j+1) then stp i (dY n base stp j) else dY n base stp j i
section
variable {α:Type} {n:Nat} {base:Nat→α} {stp:Nat→(Nat→α)→α}
theorem zA:∀ {j i:Nat},j≤n→i < n - j→dY n base stp j i=base i
 | 0,i,_,_=>rfl
 | j+1,i,hj,hi=>by
   rw [dY,if_neg ab];exact zA ab ab
theorem uI:∀ {j i:Nat},n≤i→j≤n→dY n base stp j i=base i
 | 0,i,_,_=>rfl
 | j+1,i,hi,hj=>by
   rw [dY,if_neg ab];exact uI hi ab
theorem uJ {j i:Nat} (hi:n - j≤i):∀ {d:Nat},j+d≤n→dY n base stp (j+d) i=dY n base stp j i
 | 0,_=>rfl
 | d+1,h=>by
   rw [← iM,dY,if_neg ab];exact uJ hi ab
theorem zz (loc:∀ i T A,(∀ k,i < k→k≤n→T k=A k)→stp i T=stp i A) {i:Nat} (hi:i < n):dY n base stp n i=stp i (dY n base stp n):=by
 have h1:dY n base stp n i=dY n base stp (n - i) i:=by
  have :=uJ (n:=n) (base:=base) (stp:=stp) (j:=n - i) (i:=i) ab (d:=i) ab;rw [show n - i+i=n by omega] at this;exact this
 rw [h1];obtain ⟨j,C⟩:∃ j,n - i=j+1:=⟨n - i - 1,ab⟩
 rw [C,dY,if_pos ab];refine loc i _ _ fun k E I=> ?_;have :=uJ (n:=n) (base:=base) (stp:=stp) (j:=j) (i:=k) ab (d:=n - j) ab;rw [show j+(n - j)=n by omega] at this;exact this.symm
end
theorem u7 {α β:Type} (p:β→Bool) (f:α→β→α):∀ (l:List β) (a:α),(l.filter p).foldl f a=l.foldl (fun a b=>if p b=true then f a b else a) a
 | [],_=>rfl
 | b::l,a=>by
   rw [List.filter_cons,ij];cases h:p b
   · simp only [lV,if_false]; exact u7 p f l a
   · simp only [if_true,ij]; exact u7 p f l _
theorem u6 {α β:Type} {f g:α→β→α} :∀ {l:List β} {a:α},(∀ x∈l,∀ a,f a x=g a x)→l.foldl f a=l.foldl g a
 | [],_,_=>rfl
 | b::l,a,h=>by
   rw [ij,ij,h b gR];exact u6 fun x A=>h x<|gQ _ A
theorem foldl_rel {α β A:Type} {f:α→A→α} {g:β→A→β} (R:α→β→Prop):∀ {l:List A} {a:α} {b:β},R a b→(∀ x∈l,∀ a b,R a b→R (f a x) (g b x))→R (l.foldl f a) (l.foldl g b)
 | [],_,_,h,_=>h
 | x::l,a,b,h,hs=>by
   rw [ij,ij];exact foldl_rel R (hs x gR _ _ h) fun y C=>hs y<|gQ _ C
def eJ:Nat:=1099511627776
section
variable (pc:Nat→Nat→Bool) (n:Nat)
def jE (i:Nat):List Nat:=(jJ (i+1)<|n - i).filter<|pc i
def bI (i k:Nat):Bool:=pc i k && !(decide (i=0) && decide (k=n))
def dA (i:Nat) (T:Nat→Nat×Nat) (m:Nat×Nat) (k:Nat):Nat×Nat:=
 if (k < n∧(T k).1=0)∨(i=0∧k=n) then m else (if m.1=0∨(T k).1 +1≤m.1 then (T k).1 +1 else m.1,min (m.2+(T k).2) (eJ+1))
def jv (i:Nat) (T:Nat→Nat×Nat):Nat×Nat:=(jE pc n i).foldl (dA n i T) (0,0)
def lE (i:Nat):Nat×Nat:=(0,if i=n then 1 else 0)
def jC:Nat→Nat×Nat:=dY n (lE n) (jv pc n) n
def rH (i:Nat) (T:Nat→Nat):Nat:=(jJ (i+1)<|n - i).foldl (fun m k=>if bI pc n i k=true then m+T k else m) 0
def eB:Nat→Nat:=dY n (fun i=>if i=n then 1 else 0) (rH pc n) n
end
section
variable {pc:Nat→Nat→Bool} {n:Nat}
theorem n8 {i k:Nat} :k∈jE pc n i↔i < k∧k≤n∧pc i k=true :=by
 unfold jE;rw [pf,yf];constructor
 · rintro ⟨⟨h1,C⟩,A⟩; exact ⟨ab,ab,A⟩
 · rintro ⟨h1,C,A⟩; exact ⟨⟨ab,ab⟩,A⟩
theorem rW {i:Nat} (hi:i < n):jC pc n i=jv pc n i (jC pc n):=zz (stp:=jv pc n) (fun i T E h=>u6 fun k C m=>by
 obtain ⟨h1,A,_⟩:=n8.1 C;unfold dA; rw [h k h1 A]) hi
theorem GI {i:Nat} (hi:i < n):eB pc n i=rH pc n i (eB pc n):=zz (stp:=rH pc n) (fun i T C h=>u6 fun k A m=>by
 rw [yf] at A;rw [h k ab ab]) hi
theorem n7:jC pc n n=(0,1):=by unfold jC; rw [uI (aR _) (aR _)]; simp [lE]
theorem zC:eB pc n n=1:=by unfold eB; rw [uI (aR _) (aR _)]; simp
theorem down (P:Nat→Prop) (he:P n) (E:∀ i,i < n→(∀ k,i < k→k≤n→P k)→P i):∀ i,i≤n→P i:=fun i hi=>by
 have :∀ d i,i≤n→n - i≤d→P i:=fun d=>by
  induction d with
  | zero=>intro i h1 A; rw [show i=n by omega]; exact he
  | succ d ih=>
    intro i h1 A;by_cases h:i=n
    · rw [h]; exact he
    · exact E i ab fun k I C=>ih k C ab
 exact this (n - i) i hi<|aR _
theorem Lg:∀ i,i≤n→(jC pc n i).2=min (eB pc n i) (eJ+1)∧(i < n→((jC pc n i).1=0↔eB pc n i=0)):=by
 refine down _ ⟨by rw [n7,zC]; rfl,fun h=>by omega⟩ fun i hi ih=> ?_;rw [rW hi,GI hi];unfold jv rH jE;rw [u7];have :=foldl_rel (f:=fun a b=>if pc i b=true then dA n i (jC pc n) a b else a) (g:=fun m k=>if bI pc n i k=true then m+eB pc n k else m) (fun (a:Nat×Nat) (b:Nat)=>a.2=min b (eJ+1)∧(a.1=0↔b=0)) (l:=jJ (i+1)<|n - i) (a:=(0,0)) (b:=0) ⟨by simp,by simp⟩ (fun k M a b C=>by
  rw [yf] at M;obtain ⟨h1,I⟩:=ih k ab ab;have J:k=n→eB pc n k=1∧(jC pc n k).1=0:=fun e=>by rw [e,zC,n7]; exact ⟨rfl,rfl⟩
  unfold dA bI;cases hp:pc i k
  · simp only [lV,if_false,Bool.false_and]; exact C
  · by_cases E:i=0∧k=n
    · obtain ⟨rfl,rfl⟩:=E;simp only [if_true,and_self,or_true,decide_true,Bool.and_true,Bool.not_true,tf,lV,if_false]; exact C
    · have L:(true && !(decide (i=0) && decide (k=n)))=true :=by
       simp only [Bool.true_and,Bool.not_eq_true',Bool.and_eq_false_iff,decide_eq_false_iff_not];by_cases h:i=0
       · exact .inr fun e=>E ⟨h,e⟩
       · exact .inl h
      rw [L];simp only [if_true];by_cases A:k < n∧(jC pc n k).1=0
      · rw [if_pos (.inl A)];have :=(I A.1).1 A.2;rw [this]; exact C
      · rw [if_neg (by intro h; rcases h with h | h; exact A h; exact E h)];have U:eB pc n k≠0:=fun e=>by
         by_cases O:k=n
         · have :=(J O).1; omega
         · exact A ⟨ab,(I ab).2 e⟩
        refine ⟨?_,?_⟩
        · show min (a.2+(jC pc n k).2) _=_;rw [C.1,h1]; omega
        · show (if a.1=0∨(jC pc n k).1 +1≤a.1 then (jC pc n k).1 +1 else a.1)=0↔b+eB pc n k=0;split
          · omega
          · omega)
 exact ⟨this.1,fun _=>this.2⟩
def cE (pc:Nat→Nat→Bool) (n i k:Nat):Bool:=decide ((0 < i∨k < n)∧(k=n∨0 < (jC pc n k).1)∧(jC pc n k).1 +1=(jC pc n i).1)
def b9 (pc:Nat→Nat→Bool) (n i:Nat):Nat:=(((jE pc n i).filter<|cE pc n i).getLast?).getD n
theorem Hc {i:Nat} (hi:i < n):(jC pc n i).1≠0→∃ k∈jE pc n i,cE pc n i k=true :=by
 rw [rW hi];unfold jv;have I:∀ k∈jE pc n i,k≤n:=fun k A=>(n8.1 A).2.1;have :∀ (l:List Nat) (m:Nat×Nat),(∀ k∈l,k∈jE pc n i)→(l.foldl (dA n i<|jC pc n) m).1≠0→(l.foldl (dA n i<|jC pc n) m).1=m.1∨∃ k∈l,((0 < i∨k < n)∧(k=n∨0 < (jC pc n k).1)∧(jC pc n k).1 +1=(l.foldl (dA n i<|jC pc n) m).1):=fun l=>by
  induction l with
  | nil=>intro m _ _; exact .inl rfl
  | cons k l ih=>
    intro m hm C;rw [ij] at C ⊢;rcases ih _ (fun q E=>hm q<|gQ _ E) C with h | ⟨q,E,h⟩
    · rw [h];unfold dA;have :=I k<|hm k gR;split
      · exact .inl U
      · rename_i h1;show (if m.1=0∨(jC pc n k).1 +1≤m.1 then (jC pc n k).1 +1 else m.1)=m.1∨_;split
        · refine .inr ⟨k,gR,ab,ab,?_⟩;rfl
        · exact .inl U
    · exact .inr ⟨q,gQ _ E,h⟩
 intro C;rcases this _ (0,0) (fun k A=>A) C with h | ⟨k,A,h⟩
 · exact absurd h C
 · refine ⟨k,A,?_⟩;unfold cE;rw [rW hi];exact decide_eq_true h
theorem vX {i:Nat} (hi:i < n) (E:(jC pc n i).1≠0):b9 pc n i∈jE pc n i∧cE pc n i (b9 pc n i)=true :=by
 obtain ⟨k,I,C⟩:=Hc hi E;have A:(jE pc n i).filter (cE pc n i)≠[]:=fun e=>by
  have :=pf.2 ⟨I,C⟩;rw [e] at this; cases this
 unfold b9;rw [Ea A];exact pf.1<|List.getLast_mem A
theorem IX {i k:Nat} (E:k∈jE pc n i) (A:cE pc n i k=true):k≤b9 pc n i:=by
 have hm:=pf.2 ⟨E,A⟩;have I:(jE pc n i).filter (cE pc n i)≠[]:=fun e=>by rw [e] at hm; cases hm
 have J:((jE pc n i).filter<|cE pc n i).Pairwise (· < ·):=((List.pairwise_lt_range' (s:=i+1) (n:=n - i)).filter _).filter _;unfold b9;rw [Ea I,List.getLast_eq_getElem];obtain ⟨j,C,rfl⟩:=tE.1 hm;simp only [Option.getD_some];by_cases h:j=((jE pc n i).filter<|cE pc n i).length - 1
 · subst h; exact aR _
 · exact Nat.le_of_lt<|pj.1 J _ _ C ab ab
def eV (pc:Nat→Nat→Bool) (n i:Nat):Prop :=i=n∨(i < n∧(jC pc n i).1≠0)
theorem eV.next {i:Nat} (hi:i < n) (h:eV pc n i):i < b9 pc n i∧b9 pc n i≤n∧pc i (b9 pc n i)=true∧(0 < i∨b9 pc n i < n)∧(jC pc n<|b9 pc n i).1 +1=(jC pc n i).1∧eV pc n (b9 pc n i):=by
 have M:(jC pc n i).1≠0:=by
  rcases h with h | h
  · omega
  · exact h.2
 obtain ⟨h1,A⟩:=vX hi M;obtain ⟨C,E,I⟩:=n8.1 h1;unfold cE at A;obtain ⟨J,O,L⟩:=of_decide_eq_true A;refine ⟨C,E,I,J,L,?_⟩;unfold eV;omega
def iR (pc:Nat→Nat→Bool) (n:Nat):Nat→Nat→List (Nat×Nat)
 | 0,_=> []
 | f+1,i=>if i < n then (i,b9 pc n i)::iR pc n f (b9 pc n i) else []
theorem uy:∀ (f A i:Nat),eV pc n i→n - i≤f→n - i≤A→iR pc n f i=iR pc n A i
 | 0,0,_,_,_,_=>rfl
 | 0,A+1,i,_,h1,_=>by unfold iR; rw [if_neg ab]
 | f+1,0,i,_,_,h2=>by
   show iR pc n (f+1) i= []
   unfold iR; rw [if_neg ab]
 | f+1,A+1,i,ho,h1,h2=>by
   rw [iR,iR];split
   · rename_i hi;obtain ⟨E,I,_,_,_,C⟩:=ho.next hi
     rw [uy f A _ C ab ab]
   · rfl
theorem F4 {i:Nat} (f:Nat) (h:¬i < n):iR pc n f i= []:=by
 cases f
 · rfl
 · unfold iR; rw [if_neg h]
def ga (pc:Nat→Nat→Bool) (n i:Nat):List (Nat×Nat):=iR pc n (n - i) i
theorem uz:ga pc n n= []:=F4 _ ab
theorem ru {i:Nat} (hi:i < n) (h:eV pc n i):ga pc n i=(i,b9 pc n i)::ga pc n (b9 pc n i):=by
 obtain ⟨C,E,_,_,_,A⟩:=h.next hi
 unfold ga;rw [uy (n - i) (n - i - 1 +1) i h ab ab,iR,if_pos hi,uy (n - i - 1) (n - b9 pc n i) _ A ab ab]
theorem uA (P:Nat→List (Nat×Nat)→Prop) (he:P n []) (U:∀ i,i < n→eV pc n i→i < b9 pc n i→b9 pc n i≤n→pc i (b9 pc n i)=true→(0 < i∨b9 pc n i < n)→(jC pc n<|b9 pc n i).1 +1=(jC pc n i).1→P (b9 pc n i) (ga pc n<|b9 pc n i)→P i ((i,b9 pc n i)::ga pc n (b9 pc n i))) {i:Nat} (h:eV pc n i):P i (ga pc n i):=by
 have :∀ d i,n - i≤d→eV pc n i→P i (ga pc n i):=fun d=>by
  induction d with
  | zero=>
    intro i O A;have :i=n:=by unfold eV at A; omega
    rw [this,uz]; exact he
  | succ d ih=>
    intro i O A;by_cases hi:i < n
    · obtain ⟨C,E,I,J,L,M⟩:=A.next hi
      rw [ru hi A];exact U i hi A C E I J L<|ih _ ab M
    · have :i=n:=by unfold eV at A; omega
      rw [this,uz]; exact he
 exact this (n - i) i (aR _) h
theorem uB {i:Nat} (h:eV pc n i):(ga pc n i).length=(jC pc n i).1:=by
 refine uA (fun i l=>l.length=(jC pc n i).1) (by rw [n7]; rfl) (fun i hi L C E I J A ih=> ?_) h;rw [dJ,ih,A]
theorem Ga {i:Nat} (h:eV pc n i):∀ p∈ga pc n i,p.1 < p.2∧p.2≤n∧pc p.1 p.2=true∧(0 < p.1∨p.2 < n):=by
 refine uA (fun i l=> ∀ p∈l,p.1 < p.2∧p.2≤n∧pc p.1 p.2=true∧(0 < p.1∨p.2 < n)) (fun p hp=>by cases hp) (fun i hi L A C E I J ih=> ?_) h;intro p hp;rcases dP.1 hp with rfl | hp
 · exact ⟨A,C,E,I⟩
 · exact ih p hp
theorem Gb {i:Nat} (h:eV pc n i) (hi:i < n):ga pc n i≠[]:=by
 rw [ru hi h]; exact List.cons_ne_nil _ _
theorem z5 {i k:Nat} (hi:i < k) (E:k≤n) (hp:pc i k=true) (h0:0 < i∨k < n) (J:k=n∨(jC pc n k).1≠0):(jC pc n i).1≠0∧(jC pc n i).1≤(jC pc n k).1 +1:=by
 have C:i < n:=ab;rw [rW C];unfold jv;have hm:k∈jE pc n i:=n8.2 ⟨hi,E,hp⟩;have I:∀ (l:List Nat) (m:Nat×Nat),m.1≠0→(l.foldl (dA n i<|jC pc n) m).1≠0∧(l.foldl (dA n i<|jC pc n) m).1≤m.1:=fun l=>by
  induction l with
  | nil=>intro m hm; exact ⟨hm,aR _⟩
  | cons q l ih=>
    intro m hm;rw [ij];have h1:(dA n i (jC pc n) m q).1≠0∧(dA n i (jC pc n) m q).1≤m.1:=by
     unfold dA;split
     · exact ⟨hm,aR _⟩
     · show (if m.1=0∨(jC pc n q).1 +1≤m.1 then (jC pc n q).1 +1 else m.1)≠0∧(if m.1=0∨(jC pc n q).1 +1≤m.1 then (jC pc n q).1 +1 else m.1)≤m.1;split <;> omega
    have A:=ih _ h1.1;exact ⟨A.1,cN A.2 h1.2⟩
 have :∀ (l:List Nat) (m:Nat×Nat),k∈l→(l.foldl (dA n i<|jC pc n) m).1≠0∧(l.foldl (dA n i<|jC pc n) m).1≤(jC pc n k).1 +1:=fun l=>by
  induction l with
  | nil=>intro m h; cases h
  | cons q l ih=>
    intro m h;rw [ij];rcases dP.1 h with rfl | h
    · have h1:(dA n i (jC pc n) m k).1≠0∧(dA n i (jC pc n) m k).1≤(jC pc n k).1 +1:=by
       unfold dA;rw [if_neg ab];show (if m.1=0∨(jC pc n k).1 +1≤m.1 then (jC pc n k).1 +1 else m.1)≠0∧(if m.1=0∨(jC pc n k).1 +1≤m.1 then (jC pc n k).1 +1 else m.1)≤(jC pc n k).1 +1;split <;> omega
      have A:=I l _ h1.1;exact ⟨A.1,cN A.2 h1.2⟩
    · exact ih _ h
 exact this _ _ hm
end
section
variable {pc:Nat→Nat→Bool} {n i j:Nat} {T:Nat→Nat×Nat}
theorem HT (hT:∀ k,(T k).1≤j) {m:Nat×Nat} (hm:m.1≤j+1∧m.2≤eJ+1) (k:Nat):(dA n i T m k).1≤j+1∧(dA n i T m k).2≤eJ+1:=by
 have :=hT k;unfold dA;split
 · exact hm
 · refine ⟨?_,Nat.min_le_right _ _⟩;show (if m.1=0∨(T k).1 +1≤m.1 then (T k).1 +1 else m.1)≤j+1;split <;> omega
theorem vv (hT:∀ k,(T k).1≤j):∀ (l:List Nat) (m:Nat×Nat),m.1≤j+1∧m.2≤eJ+1→(l.foldl (dA n i T) m).1≤j+1∧(l.foldl (dA n i T) m).2≤eJ+1
 | [],_,hm=>hm
 | k::l,_,hm=>vv hT l _<|HT hT hm k
theorem uK:∀ (j k:Nat),(dY n (lE n) (jv pc n) j k).1≤j∧(dY n (lE n) (jv pc n) j k).2≤eJ+1
 | 0,k=>by
   unfold dY lE;refine ⟨aR _,?_⟩;show (if k=n then 1 else 0)≤eJ+1;split <;> simp [eJ]
 | j+1,k=>by
   have ih:=uK j;rw [dY];split
   · exact vv (fun k=>(ih k).1) _ _ ⟨by simp,by simp⟩
   · have :=ih k; omega
theorem GC (A:j≤n) (hi:i < n - j):dY n (lE n) (jv pc n) j i=(0,0):=by
 rw [zA A hi];unfold lE;rw [if_neg ab]
end
def cB (n:Nat) (g:Nat→Nat):List Nat:=(List.range<|n+1).map g
theorem wy (n:Nat) (g:Nat→Nat):(cB n g).length=n+1:=by simp [cB]
theorem jB {n k:Nat} (g:Nat→Nat) (A:k≤n):(cB n g)[k]? =some (g k):=by
 unfold cB;rw [gP,List.getElem?_range ab]; rfl
theorem wx {n:Nat} {g h:Nat→Nat} (e:∀ k,k≤n→g k=h k):cB n g=cB n h:=by
 unfold cB;exact List.map_congr_left fun k A=>e k<|by rw [List.mem_range] at A; omega
theorem sx {n i:Nat} (g:Nat→Nat) (a:Nat):(cB n g).set i a=cB n fun k=>if k=i then a else g k:=by
 apply List.ext_getElem?;intro k;by_cases A:k≤n
 · rw [jB _ A,List.getElem?_set,jB _ A,wy];by_cases h:i=k
   · subst h; rw [if_pos rfl,if_pos ab,if_pos rfl]
   · rw [if_neg h,if_neg (fun e=>h e.symm)]
 · have h1:=wy n fun k=>if k=i then a else g k
   have C:=wy n g;rw [je (by rw [il]; omega),je ab]
theorem Ju (n:Nat):dk (n+1) 0=cB n fun _=>0:=by
 unfold cB;rw [List.map_const',List.length_range]
end Go.Hb
end
section
namespace Go.Hb
section
variable {P:au} {N:Fm} {σ:Nat→ag} {w:ah} {dst:Option Nat} {ty:av} {pos :String} {af:Array bQ} {g:Option (Nat×Bool)} {x y:aW}
theorem uQ (d:Nat) {t e:av} {a:Option Addr} {n c:Nat} (hu:P.underlying t=some (.slice e)):(Op.equalIn (d+1) t (.slice a n c)<|.slice none 0 0).run P w= .ok a.isNone w:=by
 cases a <;> simp [Op.equalIn,bt hu]
theorem GV {t e:av} {a:Option Addr} {n c:Nat} (hu:P.underlying t=some (.slice e)):(Op.equal t (.slice a n c)<|.slice none 0 0).run P w= .ok a.isNone w:=uQ 9999 hu
theorem uR {t E e:av} {a:Option Addr} {n c:Nat} (hu:P.underlying t=some (.slice e)) (A:ev N σ x= .slice a n c) (C:ev N σ y= .slice none 0 0):
 (execOp (ev N σ) ⟨dst,.binOp .eql t x y E,ty,pos,af,g⟩).run P w= .ok (.value<|.bool a.isNone) w:=by
 have h:(binOp .eql t (.slice a n c)<|.slice none 0 0).run P w= .ok (.bool a.isNone) w:=by
  simp only [binOp]; simp [GV hu]
 simp [execOp,A,C,eqGuard,h]
end
section
variable {P:au} {N:Fm} {σ:Nat→ag} {w:ah} {dst:Option Nat} {ty:av} {pos :String} {af:Array bQ} {g:Option (Nat×Bool)} {x y z u:aW} {K:(Nat→ag)→ah→Prop}
theorem J5 {t n len cap:Nat} {a:Option Addr} {k I J:bu} {i j m:Nat} (he:cV P t=some n) (A:ev N σ x= .slice a len cap) (C:ev N σ y= .int k (i:Nat)) (E:ev N σ z= .int I (j:Nat)) (hu:ev N σ u= .int J (m:Nat)) (h:i≤j∧j≤m∧m≤cap):
 (execOp (ev N σ) ⟨dst,.slice t x (some y) (some z) (some u),ty,pos,af,g⟩).run P w= .ok (.value<|.slice (eh a m i n) (j - i)<|m - i) w:=by
 have h1:(0:Int)≤(i:Int):=ab;have L:(0:Int)≤(j:Int):=ab;have M:(0:Int)≤(m:Int):=ab;unfold cV at he;cases hd:P.underlying t with
 | none=>rw [hd] at he; cases he
 | some d=>
   rw [hd] at he;cases d <;> first | (cases he; done) | skip
   rename_i e;cases hi':P.info? e with
   | none=>simp [hi'] at he
   | some q=>
     simp only [hi',fu,bL] at he;subst he;simp only [execOp,nw,Instr.slice,A,C,E,hu,fu,j7,Instr.sliceBound,asIntOf];simp [bt hd,dg hi',sizeOf,h.1,h.2.1,h.2.2,eh]
end
end Go.Hb
end
section
namespace Go.Hb
section
variable {P:au} {N:Fm} {σ:Nat→ag} {w:ah} {ops:Array Oper} {Q:Exit→(Nat→ag)→ah→Prop} {S:ah→Prop} {fuel:Nat} {listed:Array Bool}
theorem kL (a:Array Bool) (i j:Nat):(a.setIfInBounds i true).setIfInBounds j true =(a.setIfInBounds j true).setIfInBounds i true :=by
 apply Array.ext
 · simp
 · intro k h1 A
   grind
theorem CR {i s:Nat} {a:ag} :aV σ i a s=if s=i then a else σ s:=by
 unfold aV;by_cases h:s=i
 · subst h; simp
 · rw [if_neg h];cases hb:Nat.beq s i
   · rfl
   · exact absurd (Nat.eq_of_beq_eq_true hb) h
theorem kO {i j:Nat} (h:i≠j) (a b:ag):aV (aV σ i a) j b=aV (aV σ j b) i a:=by
 funext s;simp only [CR];by_cases h1:s=j
 · subst h1;rw [if_pos rfl,if_neg (Ne.symm h),if_pos rfl]
 · rw [if_neg h1,if_neg h1]
theorem j2 {rs:List Nat} (hr:(dv .any ops listed==rs)=true) (I:rs≠[]) (h:∀ i∈rs,∃ o,ops[i]? =some o∧o.guard=none∧bW P N o σ w (fun σ w=>S w∧cj P N ops Q S fuel (listed.setIfInBounds i true) σ w)):cj P N ops Q S (fuel+1) listed σ w:=by
 unfold cj;refine wpAnyH_all (rs:=rs) (by simpa using hr) I ?_;intro q J;obtain ⟨o,h1,C,E⟩:=h q J;unfold wpOp;simp only [h1];rw [if_pos (ff _ C _)];exact .inl<|oT E fun _ _ A=>by unfold cj at A; exact A
def qZ (P:au) (N:Fm) (F:List Nat) (σ:Nat→ag) (o:Oper) (d:Nat) (V:Nat→ag) (R:Nat→ah→Prop):Prop :=
 ∀ (σ':Nat→ag) (w':ah) (K:(Nat→ag)→ah→Prop),(∀ s,s∉F→σ' s=σ s)→(∀ b A,b=w'.heap.size→Nw w' A→R b A→K (aV σ' d<|V b) A)→bW P N o σ' w' K
theorem vW {F:List Nat} {d t e bytes n:Nat} {ty:av} {pos :String} {af:Array bQ} {x y:aW} {V U:bu} {zv:ag} (J:dO P t e 1 bytes=true) (O:zeroOf P e=some (some [zv])) (h1:zv.oneCell'=true)
 (L:∀ σ':Nat→ag,(∀ s,s∉F→σ' s=σ s)→ev N σ' x= .int V n) (M:∀ σ':Nat→ag,(∀ s,s∉F→σ' s=σ s)→ev N σ' y= .int U n) (hb:bytes*n≤281474976710656) (C:n≤maxLen):
 qZ P N F σ ⟨some d,.makeSlice t x y,ty,pos,af,none⟩ d (fun b=> .slice (some ⟨b,0,none⟩) n n) (fun b w'=> ∀ B,B≤b→w'.ownsRow B e 1 (.slice (some ⟨b,0,none⟩) n n) n (dk n zv)):=
 fun σ' _ _ A k=>gk J O h1 (L σ' A) (M σ' A) hb C fun b Z E hn I=>k b Z E hn I
theorem IG (i j k:Nat) {aj ak al:Oper} {d1 d2 d3:Nat} {Z aa ai:Nat→ag} {R1 ay az:Nat→ah→Prop} (am:aj.guard=none) (ao:ak.guard=none) (ap:al.guard=none) (hi:ops[i]? =some aj) (aq:ops[j]? =some ak) (ar:ops[k]? =some al)
 (r0:((dv .any ops listed)== [i,j,k])=true) (aN:((dv .any ops<|listed.setIfInBounds i true)== [j,k])=true) (aO:((dv .any ops<|listed.setIfInBounds j true)== [i,k])=true) (aP:((dv .any ops<|listed.setIfInBounds k true)== [i,j])=true)
 (aI:gG ops ((listed.setIfInBounds i true).setIfInBounds j true) k=true) (aJ:gG ops ((listed.setIfInBounds i true).setIfInBounds k true) j=true) (aK:gG ops ((listed.setIfInBounds j true).setIfInBounds k true) i=true)
 (aF:d1≠d2) (aG:d1≠d3) (aH:d2≠d3)
 (s1:qZ P N [d1,d2,d3] σ aj d1 Z R1) (s2:qZ P N [d1,d2,d3] σ ak d2 aa ay) (au:qZ P N [d1,d2,d3] σ al d3 ai az)
 (m1:∀ b w w',R1 b w→Wk w w'→R1 b w') (aD:∀ b w w',ay b w→Wk w w'→ay b w') (aE:∀ b w w',az b w→Wk w w'→az b w')
 (U:∀ w',Wk w w'→S w')
 (c:∀ (L M O:Nat) (w':ah),w.heap.size≤L→w.heap.size≤M→w.heap.size≤O→L≠M→L≠O→M≠O→w.heap.size < w'.heap.size→Wk w w'→R1 L w'→ay M w'→az O w'→cj P N ops Q S fuel (((listed.setIfInBounds i true).setIfInBounds j true).setIfInBounds k true) (aV (aV (aV σ d1<|Z L) d2<|aa M) d3<|ai O) w'):cj P N ops Q S (fuel+3) listed σ w:=by
 have off :∀ {s:Nat} {σ':Nat→ag} {d:Nat} {v:ag},d∈[d1,d2,d3]→s∉[d1,d2,d3]→aV σ' d v s=σ' s:=fun {s σ' d v} aQ I=>by
  rw [CR,if_neg (fun e=>I<|by rw [e]; exact aQ)]
 refine j2 r0 (by simp) ?_;intro q A;simp only [dP,tK,or_false] at A;rcases A with A | A | A <;> rw [A]
 · refine ⟨aj,hi,am,s1 _ _ _ (fun _ _=>rfl) fun L aL aA J ac=>⟨U _ J.md,?_⟩⟩;have aM:=J.size;refine j2 aN (by simp) ?_;intro q A;simp only [dP,tK,or_false] at A;rcases A with A | A <;> rw [A]
   · refine ⟨ak,aq,ao,s2 _ _ _ (fun s I=>off (by simp) I) fun M av aB C ad=>⟨U _ (J.md.trans C.md),?_⟩⟩;have aw:=C.size;refine j2 aI (by simp) ?_;intro q A;have A:=eO.1 A;rw [A];refine ⟨al,ar,ap,au _ _ _ (fun s I=>by rw [off (by simp) I,off (by simp) I]) fun O V aC E ae=>⟨U _ ((J.md.trans C.md).trans E.md),?_⟩⟩;have ax:=E.size;have :=c L M O V ab ab ab ab ab ab ab ((J.md.trans C.md).trans E.md) (m1 _ _ _ ac<|C.md.trans E.md) (aD _ _ _ ad E.md) ae;exact this
   · refine ⟨al,ar,ap,au _ _ _ (fun s I=>off (by simp) I) fun O av aC C ae=>⟨U _ (J.md.trans C.md),?_⟩⟩;have aw:=C.size;refine j2 aJ (by simp) ?_;intro q A;have A:=eO.1 A;rw [A];refine ⟨ak,aq,ao,s2 _ _ _ (fun s I=>by rw [off (by simp) I,off (by simp) I]) fun M V aB E ad=>⟨U _ ((J.md.trans C.md).trans E.md),?_⟩⟩;have ax:=E.size;have :=c L M O V ab ab ab ab ab ab ab ((J.md.trans C.md).trans E.md) (m1 _ _ _ ac<|C.md.trans E.md) ad<|aE _ _ _ ae E.md;rw [kL (listed.setIfInBounds i true) j k,kO (σ:=aV σ d1<|Z L) aH (aa M) (ai O)] at this;exact this
 · refine ⟨ak,aq,ao,s2 _ _ _ (fun _ _=>rfl) fun M aL aB J ad=>⟨U _ J.md,?_⟩⟩;have aM:=J.size;refine j2 aO (by simp) ?_;intro q A;simp only [dP,tK,or_false] at A;rcases A with A | A <;> rw [A]
   · refine ⟨aj,hi,am,s1 _ _ _ (fun s I=>off (by simp) I) fun L av aA C ac=>⟨U _ (J.md.trans C.md),?_⟩⟩;have aw:=C.size;rw [kL listed j i];refine j2 aI (by simp) ?_;intro q A;have A:=eO.1 A;rw [A];refine ⟨al,ar,ap,au _ _ _ (fun s I=>by rw [off (by simp) I,off (by simp) I]) fun O V aC E ae=>⟨U _ ((J.md.trans C.md).trans E.md),?_⟩⟩;have ax:=E.size;have :=c L M O V ab ab ab ab ab ab ab ((J.md.trans C.md).trans E.md) (m1 _ _ _ ac E.md) (aD _ _ _ ad<|C.md.trans E.md) ae;rw [kO (σ:=σ) aF (Z L) (aa M)] at this;exact this
   · refine ⟨al,ar,ap,au _ _ _ (fun s I=>off (by simp) I) fun O av aC C ae=>⟨U _ (J.md.trans C.md),?_⟩⟩;have aw:=C.size;refine j2 aK (by simp) ?_;intro q A;have A:=eO.1 A;rw [A];refine ⟨aj,hi,am,s1 _ _ _ (fun s I=>by rw [off (by simp) I,off (by simp) I]) fun L V aA E ac=>⟨U _ ((J.md.trans C.md).trans E.md),?_⟩⟩;have ax:=E.size;have :=c L M O V ab ab ab ab ab ab ab ((J.md.trans C.md).trans E.md) ac (aD _ _ _ ad<|C.md.trans E.md)<|aE _ _ _ ae E.md;rw [kL listed i j,kL (listed.setIfInBounds j true) i k,kO (σ:=σ) aF (Z L) (aa M),kO (σ:=aV σ d2<|aa M) aG (Z L) (ai O)] at this;exact this
 · refine ⟨al,ar,ap,au _ _ _ (fun _ _=>rfl) fun O aL aC J ae=>⟨U _ J.md,?_⟩⟩;have aM:=J.size;refine j2 aP (by simp) ?_;intro q A;simp only [dP,tK,or_false] at A;rcases A with A | A <;> rw [A]
   · refine ⟨aj,hi,am,s1 _ _ _ (fun s I=>off (by simp) I) fun L av aA C ac=>⟨U _ (J.md.trans C.md),?_⟩⟩;have aw:=C.size;rw [kL listed k i];refine j2 aJ (by simp) ?_;intro q A;have A:=eO.1 A;rw [A];refine ⟨ak,aq,ao,s2 _ _ _ (fun s I=>by rw [off (by simp) I,off (by simp) I]) fun M V aB E ad=>⟨U _ ((J.md.trans C.md).trans E.md),?_⟩⟩;have ax:=E.size;have :=c L M O V ab ab ab ab ab ab ab ((J.md.trans C.md).trans E.md) (m1 _ _ _ ac E.md) ad<|aE _ _ _ ae<|C.md.trans E.md;rw [kL (listed.setIfInBounds i true) j k,kO (σ:=aV σ d1<|Z L) aH (aa M) (ai O),kO (σ:=σ) aG (Z L) (ai O)] at this;exact this
   · refine ⟨ak,aq,ao,s2 _ _ _ (fun s I=>off (by simp) I) fun M av aB C ad=>⟨U _ (J.md.trans C.md),?_⟩⟩;have aw:=C.size;rw [kL listed k j];refine j2 aK (by simp) ?_;intro q A;have A:=eO.1 A;rw [A];refine ⟨aj,hi,am,s1 _ _ _ (fun s I=>by rw [off (by simp) I,off (by simp) I]) fun L V aA E ac=>⟨U _ ((J.md.trans C.md).trans E.md),?_⟩⟩;have ax:=E.size;have :=c L M O V ab ab ab ab ab ab ab ((J.md.trans C.md).trans E.md) ac (aD _ _ _ ad E.md)<|aE _ _ _ ae<|C.md.trans E.md;rw [kL listed i j,kL (listed.setIfInBounds j true) i k,kO (σ:=σ) aF (Z L) (aa M),kO (σ:=aV σ d2<|aa M) aG (Z L) (ai O),kO (σ:=σ) aH (aa M) (ai O)] at this;exact this
end
end Go.Hb
end
section
namespace Go.Hb
structure Gw (B:Nat) (fp:Nat→Prop) (w:ah) (fp':Nat→Prop) (w':ah):Prop where
 sub:∀ k,fp' k→fp k∨w.heap.size≤k
 dG:∀ (k:Nat) (cs:Array ag) (e:Nat) (z:Nat×Nat),B≤k→¬fp k→w.heap[k]? =some (.cells cs e z)→w'.heap[k]? =some (.cells cs e z)
 size:w.heap.size≤w'.heap.size
section
variable {B B':Nat} {fp fp' fp'':Nat→Prop} {w w' w'':ah}
theorem Gw.trans (h:Gw B fp w fp' w') (h':Gw B fp' w' fp'' w''):Gw B fp w fp'' w'':=
 ⟨fun k A=>(h'.sub k A).elim (h.sub k) (fun C=> .inr<|cN h.size C),
  fun k cs e z E hn A=>h'.dG k cs e z E (fun C=>(h.sub k C).elim hn fun I=>by have :=(dj.1 A).1; omega) (h.dG k cs e z E hn A),cN h.size h'.size⟩
theorem Gw.mono (h:Gw B fp w fp' w') (A:B≤B'):Gw B' fp w fp' w':=⟨h.sub,fun k cs e z C=>h.dG k cs e z (cN A C),h.size⟩
theorem Gw.md {G:Nat→Prop} (hm:Md G w w') (C:∀ k,G k→fp k∨k < B) (E:∀ k,fp' k→fp k∨w.heap.size≤k):Gw B fp w fp' w':=
 ⟨E,fun k cs e z J hn A=>by rw [hm.dG k (dj.1 A).1 (fun h=>(C k h).elim hn fun I=>by omega)]; exact A,hm.size⟩
theorem Gw.wk (hm:Wk w w'):Gw B fp w fp w':=Gw.md hm (fun _ h=>h.elim) fun _ h=> .inl h
end
def ua {α:Type} (B:Nat) (A:List α→(Nat→Prop)→ah→Prop):Prop := ∀ pre fp W W' (F:Nat→Prop),A pre fp W→Md F W W'→(∀ k,F k→B≤k∧∀ cur e z,W.heap[k]? =some (.cells cur e z)→¬fp k)→A pre fp W'
section
variable {F fp:Nat→Prop} {W W':ah} {B:Nat}
theorem CA {b e:Nat} {cs:Array ag} {z:Nat×Nat} (h:W.heap[b]? =some (.cells cs e z)) (hm:Md F W W') (hb:b < B) (A:∀ k,F k→B≤k∧∀ cur e z,W.heap[k]? =some (.cells cur e z)→¬fp k):W'.heap[b]? =some (.cells cs e z):=by
 rw [hm.dG b (dj.1 h).1 (fun C=>by have :=(A b C).1; omega)]; exact h
theorem KL {w:ah} (h:Wk w W) (hm:Md F W W') (E:w.heap.size≤B) (A:∀ k,F k→B≤k∧∀ cur e z,W.heap[k]? =some (.cells cur e z)→¬fp k):Wk w W':=Md.trans' h hm fun k I C=>by have :=(A k C).1; omega
end
def EI {α:Type} (B:Nat) (A:Bool→List α→(Nat→Prop)→ah→Prop):Prop := ∀ b pre fp W W' (F:Nat→Prop),A b pre fp W→Md F W W'→(∀ k,F k→B≤k∧¬fp k∧∃ cs e z,W.heap[k]? =some (.cells cs e z))→A b pre fp W'
structure Yc {α:Type} (P:au) (l B:Nat) (encs:α→Array ag) (xs:List α) (Cap:ah→Prop) (J:Bool→List α→(Nat→Prop)→ah→Prop):Prop where
 cap:∀ b pre fp W,J b pre fp W→Cap W
 lt:∀ b pre fp W,J b pre fp W→∀ k,fp k→k < W.heap.size
 st:EI B J
 yl:∀ pre x rest fp W1,xs=pre++x::rest→J true pre fp W1→YieldAt eN 0 P l (encs x) W1 fun e W'=> ∃ b,e= .returned (.bool b)∧∃ fp',J b (pre++ [x]) fp' W'∧Gw B fp W1 fp' W'
def yo {α:Type} (P:au) (I:Nat) (J:Array ag) (E:α→Array ag) (xs:List α) (C:ah→Prop):Prop :=
 ∀ (l:Nat) (A:Bool→List α→(Nat→Prop)→ah→Prop) (W:ah),A true [] (fun _=>False) W→Yc P l W.heap.size E xs C A→
   Calls P I (#[.func (.yield l) #[] #[]]++J) W fun e W'=>(∃ v,e= .returned v)∧∃ b pre fp,A b pre fp W'∧pre <+:xs∧(b=true→pre=xs)
def Jo (id B:Nat) (fp:Nat→Prop) (W:ah) (R:(Nat→Prop)→ah→Prop) (X:Bool→(Nat→Prop)→ah→Prop):Exit→(Nat→ag)→ah→Prop
 | .normal,_,w=>bX W w∧∃ fp',Gw B fp W fp' w∧R fp' w
 | .exit i,_,w=>i=id∧bX W w∧∃ fp',Gw B fp W fp' w∧X false fp' w
 | .ret,_,w=>bX W w∧∃ fp',Gw B fp W fp' w∧X true fp' w
 | _,_,_=>False
def vw (id:Nat):Bool→Code
 | true => .ret
 | false => .exit id
def JX {α:Type} (A:List α→(Nat→Prop)→ah→Prop) (X:Bool→List α→(Nat→Prop)→ah→Prop) (S:ah→Prop) (T:Bool→ah→Prop):Bool→List α→(Nat→Prop)→ah→Prop
 | true,pre,fp,W=>A pre fp W∧S W
 | false,pre,fp,W=> ∃ r,X r pre fp W∧T r W
theorem Js {α:Type} {P:au} {id n:Nat} {ac:List Deferred} {g:aW} {ps:Array Tmp} {aA body:Code} {Fx:List Nat} {σ:Nat→ag} {w:ah} {B:Exit→Act→ah→Prop} {am:Nat} {ao:Array ag}
 (ai:α→Array ag) (xs:List α) (aD:ah→Prop) (I:List α→(Nat→Prop)→ah→Prop) (X:Bool→List α→(Nat→Prop)→ah→Prop) (a2:ev ⟨n,ac,Fx,none⟩ σ g= .func (.func am) #[] ao) (aY:fK P am) (ba:∀ x,(ai x).size=ps.size)
 (a3:yo P am ao ai xs aD) (aS:I [] (fun _=>False) w) (aI:∀ pre fp W,I pre fp W→aD W∧∀ k,fp k→k < W.heap.size) (aJ:∀ r pre fp W,X r pre fp W→aD W∧∀ k,fp k→k < W.heap.size) (ad:ua w.heap.size I) (aw:∀ r,ua w.heap.size (X r)) (A:α→Nat→ah→Prop) (aP:∀ x b W W' (F:Nat→Prop),A x b W→Md F W W'→(∀ k,F k→∀ cur e z,W.heap[k]?≠some (.cells cur e z))→A x b W') (aN:α→Nat→Nat→ag)
 (ha:∀ (l:Nat) (x:α) (W:ah) (K:(Nat→ag)→ah→Prop),(∀ b W',Wk W W'→A x b W'→K (aN x b) W')→bo P ⟨n,[],[],some l⟩ aA (gK K fun _ _ _=>False) ((ps.toList.zip (ai x).toList).foldl (fun s p=>aV s p.1 p.2) σ) W)
 (hb:∀ (l:Nat) (pre:List α) (x:α) (rest:List α) (fp:Nat→Prop) (b:Nat) (W:ah),xs=pre++x::rest→I pre fp W→A x b W→bo P ⟨n,[],[],some l⟩ body (Jo id w.heap.size fp W (I<|pre++ [x]) fun r=>X r<|pre++ [x]) (aN x b) W)
 (aZ:∀ (D:Nat) (W:ah),w.heap.size≤D→(∃ fp,I xs fp W)→W.heap[D]? =some (.deferred<|some [])→qb ⟨n,{target:= .collected D,args:= #[]} ::ac,Fx,none⟩ B .normal σ W)
 (bd:∀ (D:Nat) (W:ah) (pre:List α),w.heap.size≤D→pre <+:xs→(∃ fp,X false pre fp W)→W.heap[D]? =some (.deferred<|some [])→qb ⟨n,{target:= .collected D,args:= #[]} ::ac,Fx,none⟩ B .normal σ W)
 (bf:∀ (D:Nat) (W:ah) (pre:List α),w.heap.size≤D→pre <+:xs→(∃ fp,X true pre fp W)→W.heap[D]? =some (.deferred<|some [])→qb ⟨n,{target:= .collected D,args:= #[]} ::ac,Fx,none⟩ B .ret σ W):
 eM P ⟨n,ac,Fx,none⟩ (.block id<|.rangeFunc g ps aA body) B σ w:=by
 refine wpIn_block<|wpIn_rangeFunc ?_;intro fn _;obtain ⟨rc,aa⟩:∃ rc:LoopState→Option Code→Loop,rc=fun st bg=> {state:=st,pending:=bg,fn,tmps:=(act ⟨n,ac,Fx,none⟩ σ).tmps,params:=ps,assign:=aA,body,defers:=w.heap.size} :=⟨_,rfl⟩
 obtain ⟨L,av⟩:∃ L,(w.alloc<|.deferred<|some []).alloc (.loop<|rc .ready none)=L:=⟨_,rfl⟩
 have aX:L.heap[w.heap.size+1]? =some (.loop<|rc .ready none):=by
  rw [← av]; have :=DQ (w.alloc<|.deferred<|some []) (.loop<|rc .ready none); rwa [World.size_alloc] at this
 have aU:L.heap[w.heap.size]? =some (.deferred<|some []):=by
  rw [← av]; exact (Below.heap_alloc _ _ _<|by simp).trans<|DQ w _
 have bi:L.heap.size=w.heap.size+2:=by rw [← av]; simp
 have hn:∀ (W:ah) (o:Obj),Wk W (W.alloc o):=fun W o=>(Bh W o).md;have aT:I [] (fun _=>False) L:=by rw [← av]; exact ad _ _ _ _ _ (ad _ _ _ _ _ aS (hn _ _) fun _ h=>h.elim) (hn _ _) fun _ h=>h.elim
 have a0:(act ⟨n,ac,Fx,none⟩ σ).eval g= .func (.func am) #[] ao:=by rw [dn]; exact a2
 refine ⟨w.heap.size+1,[{target:= .collected w.heap.size,args:= #[]}],L,{target:= .fn (.func am) ao,args:= #[.func (.yield<|w.heap.size+1) #[] #[]]},L,am,
  #[.func (.yield<|w.heap.size+1) #[] #[]]++ao,L,?_,?_,fun _ _=>trivial,?_,fun h0=>(by cases h0),?_⟩
 · rw [← av,aa]; exact run_enterLoop_outer _ _ _ _ _
 · simp only [resolve,a0];simp [go_sem]
 · have :=aY (#[.func (.yield<|w.heap.size+1) #[] #[]]++ao) L;simp [invoke,go_sem,this]
 ·
  have al:∀ (I:List α→(Nat→Prop)→ah→Prop),ua w.heap.size I→∀ (pre:List α) (fp:Nat→Prop) (W:ah) (o ap:Obj),I pre fp W→W.heap[w.heap.size+1]? =some o→(∀ cur e z,o≠.cells cur e z)→I pre fp (W.putObj (w.heap.size+1) ap):=fun I ad pre fp W o ap h1 aj aq=>
   ad _ _ _ _ _ h1 (vK W _ ap) fun k E=>⟨ab,fun cur e z ar=>by subst E; rw [aj] at ar; exact absurd (fv ar)<|aq _ _ _⟩
  have aK:∀ (fp:Nat→Prop) (W:ah) (o ap:Obj),W.heap[w.heap.size+1]? =some o→(∀ cur e z,o≠.cells cur e z)→Gw w.heap.size fp W fp (W.putObj (w.heap.size+1) ap):=fun fp W o ap aj aq=>
   ⟨fun _ h=> .inl h,fun k cs e z _ _ E=>by
    rw [kW (fun h=>by subst h; rw [aj] at E; exact aq _ _ _<|fv E)]; exact E,by simp [World.putObj]⟩
  have aF:∀ {F:Nat→Prop} {A C:ah},Md F A C→∀ (k:Nat) (o:Obj),A.heap[k]? =some o→¬F k→C.heap[k]? =some o:=fun hm k o ay a1=>by
   rw [hm.dG k (dj.1 ay).1 a1]; exact ay
  refine callsIn_wide.2 (Calls.mono (a3 (w.heap.size+1)
   (JX I X (fun W=>W.heap[w.heap.size+1]? =some (.loop<|rc .ready none)∧W.heap[w.heap.size]? =some (.deferred<|some [])) fun r W=>W.heap[w.heap.size+1]? =some (.loop<|rc .done<|some<|vw id r)∧W.heap[w.heap.size]? =some (.deferred<|some []))
   L ⟨aT,aX,aU⟩ ⟨fun b pre fp W h=>match b,h with
    | true,h=>(aI pre fp W h.1).1
    | false,⟨r,h,_⟩=>(aJ r pre fp W h).1,fun b pre fp W h=>match b,h with
    | true,h=>(aI pre fp W h.1).2
    | false,⟨r,h,_⟩=>(aJ r pre fp W h).2,?_,?_⟩) ?_)
  · intro b pre fp A C F h hm aE;have aH:∀ k,F k→w.heap.size≤k∧∀ cur e z,A.heap[k]? =some (.cells cur e z)→¬fp k:=fun k E=>⟨by have :=(aE k E).1; omega,fun _ _ _ _=>(aE k E).2.1⟩
    have O:∀ (k:Nat) (o:Obj),A.heap[k]? =some o→(∀ cur e z,o≠.cells cur e z)→C.heap[k]? =some o:=fun k o ay a8=>aF hm k o ay fun E=>by
     obtain ⟨cs,e,z,aG⟩:=(aE k E).2.2; rw [ay] at aG; exact a8 _ _ _<|fv aG
    cases b with
    | true =>exact ⟨ad _ _ _ _ _ h.1 hm aH,O _ _ h.2.1 (fun _ _ _ h=>by cases h),O _ _ h.2.2 fun _ _ _ h=>by cases h⟩
    | false =>
      obtain ⟨r,h1,aj,aq⟩:=h;exact ⟨r,aw r _ _ _ _ _ h1 hm aH,O _ _ aj (fun _ _ _ h=>by cases h),O _ _ aq fun _ _ _ h=>by cases h⟩
  · rintro pre x rest fp W bc ⟨hi,J,E⟩;have aL:=run_yield (P:=P) (args:=ai x) J<|by rw [aa]; exact ba x
    rw [aa] at aL;refine ⟨fn,_,aA,body,aL,roundIn_of_wpIn (F:=eN) trivial ?_⟩;have bb:((ps.zip<|ai x).foldl (fun tmps (p:Tmp×ag)=>tmps.setIfInBounds p.1 p.2) (act ⟨n,ac,Fx,none⟩ σ).tmps)=(act ⟨n,[],[],some<|w.heap.size+1⟩<|(ps.toList.zip (ai x).toList).foldl (fun s p=>aV s p.1 p.2) σ).tmps:=by
     rw [← Array.foldl_toList,Array.toList_zip];exact ys ⟨n,[],[],some<|w.heap.size+1⟩ _ σ
    have h1:=ha (w.heap.size+1) x W (fun σ' W'=> ∃ aM,(Instr.beginRound<|w.heap.size+1).run P W'= .ok () aM∧
     body.wpIn (eN.inRound<|w.heap.size+1) 0 P (roundPost P (w.heap.size+1) fun e W'=> ∃ b,e= .returned (.bool b)∧∃ fp',JX I X (fun W=>W.heap[w.heap.size+1]? =some (.loop<|rc .ready none)∧W.heap[w.heap.size]? =some (.deferred<|some [])) (fun r W=>W.heap[w.heap.size+1]? =some (.loop<|rc .done<|some<|vw id r)∧W.heap[w.heap.size]? =some (.deferred<|some [])) b (pre++ [x]) fp' W'∧Gw L.heap.size fp W fp' W') (act ⟨n,[],[],some<|w.heap.size+1⟩ σ') aM) ?_
    · unfold bo at h1;have aO:({tmps:=(ps.zip<|ai x).foldl (fun tmps (p:Tmp×ag)=>tmps.setIfInBounds p.1 p.2) (act ⟨n,ac,Fx,none⟩ σ).tmps,defers:= []} :Act)=act ⟨n,[],[],some<|w.heap.size+1⟩ ((ps.toList.zip (ai x).toList).foldl (fun s p=>aV s p.1 p.2) σ):=by rw [bb]; rfl
      rw [aO];refine wpIn_mono h1 ?_;intro e a w' Z;cases e with
      | normal=>obtain ⟨σ',rfl,ae⟩:=Z; exact ae
      | panic c=>obtain ⟨σ',rfl,ae⟩:=Z; exact ae σ' fun _ _=>rfl
      | outgrown=>exact Z.elim
      | _=>obtain ⟨σ',rfl,ae⟩:=Z; exact ae
    intro b V aB aQ;have hi:=ad _ _ _ _ _ hi aB fun _ h=>h.elim;have J:=aF aB _ _ J fun h=>h;have E:=aF aB _ _ E fun h=>h;have a7:w.heap.size+1 < V.heap.size:=(dj.1 J).1;refine ⟨_,run_beginRound J (by rw [aa]),?_⟩;have a6:(V.putObj (w.heap.size+1)<|.loop {rc .ready none with state:= .busy}).heap[w.heap.size+1]? =some (.loop {rc .ready none with state:= .busy}):=tv a7;have a4:(V.putObj (w.heap.size+1)<|.loop {rc .ready none with state:= .busy}).heap[w.heap.size]? =some (.deferred<|some []):=(kW ab).trans E;have a9:=aK fp V _ (.loop {rc .ready none with state:= .busy}) J fun _ _ _ h=>by cases h
    have aj:=hb (w.heap.size+1) pre x rest fp b _ bc (al I ad _ _ _ _ (.loop {rc .ready none with state:= .busy}) hi J fun _ _ _ h=>by cases h)<|aP _ _ _ _ _ aQ (vK V (w.heap.size+1) _) fun k E cur e z ar=>by subst E; rw [J] at ar; cases ar
    unfold bo at aj;refine wpIn_mono aj ?_;have fin:∀ (j:Option Code) (fp':Nat→Prop) (M:ah),bX (V.putObj (w.heap.size+1)<|.loop {rc .ready none with state:= .busy}) M→Gw w.heap.size fp (V.putObj (w.heap.size+1)<|.loop {rc .ready none with state:= .busy}) fp' M→
     (Instr.endRound (w.heap.size+1) j).run P M= .ok (.bool j.isNone) (M.putObj (w.heap.size+1)<|.loop<|rc (if j.isNone then .ready else .done) j)∧
     M.heap[w.heap.size+1]? =some (.loop {rc .ready none with state:= .busy})∧
     (M.putObj (w.heap.size+1)<|.loop<|rc (if j.isNone then .ready else .done) j).heap[w.heap.size+1]? =some (.loop<|rc (if j.isNone then .ready else .done) j)∧
     (M.putObj (w.heap.size+1)<|.loop<|rc (if j.isNone then .ready else .done) j).heap[w.heap.size]? =some (.deferred<|some [])∧
     Gw L.heap.size fp W fp' (M.putObj (w.heap.size+1)<|.loop<|rc (if j.isNone then .ready else .done) j):=fun j fp' M O ak=>by
     have aC:=O _ _ a6 ⟨(fun _ _ _ h=>by cases h),fun _ _ h=>by cases h⟩;have a5:=O _ _ a4 ⟨(fun _ _ _ h=>by cases h),fun _ _ h=>by cases h⟩;have hr:=run_endRound (P:=P) j aC;refine ⟨?_,aC,tv (dj.1 aC).1,(kW ab).trans a5,((((Gw.wk aB).trans a9).trans ak).trans<|aK fp' _ _ _ aC fun _ _ _ h=>by cases h).mono ab⟩;rw [aa] at hr ⊢;exact hr
    intro e a M Z;cases e with
    | normal=>
      obtain ⟨σ',rfl,O,fp',ak,ax⟩:=Z;obtain ⟨f1,f2,f3,f4,f5⟩:=fin none fp' M O ak;exact ⟨_,_,f1,true,U,fp',⟨al I ad _ _ _ _ _ ax f2 (fun _ _ _ h=>by cases h),f3,f4⟩,f5⟩
    | ret=>
      obtain ⟨σ',rfl,O,fp',ak,ax⟩:=Z;obtain ⟨f1,f2,f3,f4,f5⟩:=fin (some .ret) fp' M O ak;exact ⟨_,_,f1,false,U,fp',⟨true,al (X true) (aw true) _ _ _ _ _ ax f2 (fun _ _ _ h=>by cases h),f3,f4⟩,f5⟩
    | exit i=>
      obtain ⟨σ',rfl,rfl,O,fp',ak,ax⟩:=Z;obtain ⟨f1,f2,f3,f4,f5⟩:=fin (some<|.exit i) fp' M O ak;exact ⟨_,_,f1,false,U,fp',⟨false,al (X false) (aw false) _ _ _ _ _ ax f2 (fun _ _ _ h=>by cases h),f3,f4⟩,f5⟩
    | panic c=>obtain ⟨σ',rfl,ae⟩:=Z; exact (ae σ' fun _ _=>rfl).elim
    | outgrown=>exact Z.elim
    | goto t=>obtain ⟨σ',rfl,ae⟩:=Z; exact ae.elim
  · rintro e bh ⟨⟨v,rfl⟩,b,pre,fp,hj,hpre,hb1⟩;cases b with
    | true =>
      obtain ⟨hi,J,E⟩:=hj;obtain rfl :=hb1 rfl;have az:=run_endLoop (P:=P) J<|by rw [aa]; simp
      rw [aa] at az;refine ⟨none,_,az,?_⟩;rw [aa] at J;exact aZ w.heap.size _ (aR _) ⟨fp,al I ad _ _ _ _ _ hi J fun _ _ _ h=>by cases h⟩<|(kW ab).trans E
    | false =>
      obtain ⟨r,hi,J,E⟩:=hj;have az:=run_endLoop (P:=P) J<|by rw [aa]; simp
      rw [aa] at az;refine ⟨some (vw id r),_,az,?_⟩;rw [aa] at J;cases r with
      | true =>
        refine wpIn_ret ?_;exact bf w.heap.size _ pre (aR _) hpre ⟨fp,al (X true) (aw true) _ _ _ _ _ hi J fun _ _ _ h=>by cases h⟩<|(kW ab).trans E
      | false =>
        refine wpIn_exit ?_;unfold o0;simp only [if_true];exact bd w.heap.size _ pre (aR _) hpre ⟨fp,al (X false) (aw false) _ _ _ _ _ hi J fun _ _ _ h=>by cases h⟩<|(kW ab).trans E
section
variable {P:au} {N:Fm} {ops:Array Oper} {Q:Exit→(Nat→ag)→ah→Prop} {rest:List Oper} {σ:Nat→ag} {w:ah} {d':Option Nat} {d:Nat} {op:Op} {ty:av} {pos :String} {af:Array bQ} {v:ag}
theorem L1 {l:Nat} {fo:aW} {args:Array aW} {A:Array av} {L:List ag} {R:Bool→ah→Prop} (J:ev N σ fo= .func (.yield l) #[] #[]) (E:args.toList.map (ev N σ)=L)
 (O:YieldAt eN 0 P l L.toArray w fun e W'=> ∃ b,e= .returned (.bool b)∧R b W') (k:∀ b W',R b W'→j3 P N ops Q rest (aV σ d<|.bool b) W'):
 j3 P N ops Q (⟨some d,.call ⟨.value fo,args,A⟩,ty,pos,af,none⟩::rest) σ w:=by
 obtain ⟨fn,tmps,a,b,I,C⟩:=O;unfold j3 wpListIn;rw [if_pos (ff _ rfl _)];refine ⟨fun f _=>jO _ f,?_⟩;rw [mw,Oper.semAt_eq _ _ _ (fun c e=>by cases e),dn];have hm:args.map (ev N σ)=L.toArray:=by rw [← E,← Array.toList_map]
 have M:(execOp (ev N σ) ⟨some d,.call ⟨.value fo,args,A⟩,ty,pos,af,none⟩).run P w= .ok (.round l fn tmps a b) w:=by
  simp [execOp,resolve,J,Deferred.ofValue,invoke,hm,I]
 rw [M];simp only [Oper.uponIn];refine ⟨fun h0=>(by rw [mu] at h0; cases h0),?_⟩;have h1:RoundIn (fe N.r) (0 - 1) P l fn tmps a b w fun e W'=> ∃ b,e= .returned (.bool b)∧R b W':=by
  cases hr:N.r with
  | none=>exact C
  | some k=>exact C
 refine RoundIn.mono h1 ?_;rintro e W' ⟨c,rfl,hw⟩;simp only;rw [eE];exact k c W' hw
end
section
variable {P:au} {n:Nat} {F:List Nat} {σ:Nat→ag} {w:ah} {fn:Func} {R:ag→ah→Prop}
end
def uX (P:au) (s f:Nat):Option Nat:=
 match P.underlying s with
 | some (.struct A)=>match A[f]? with
   | some fd=>if db P fd.type=some none then some fd.offset else none
   | none=>none
 | _=>none
theorem BT {P:au} {t:Nat} (hu:db P t=some none) (w:ah):(isAgg t).run P w= .ok false w:=by
 unfold db at hu;cases hd:P.underlying t with
 | none=>rw [hd] at hu; cases hu
 | some d=>
   rw [hd] at hu;cases d <;> first
    | (simp only [gy] at hu; obtain ⟨_,_,h⟩:=hu; cases h; done)
    | simp [isAgg,bt hd]
theorem G8 {P:au} {N:Fm} {σ:Nat→ag} {w:ah} {dst:Option Nat} {ty:av} {pos :String} {af:Array bQ} {g:Option (Nat×Bool)} {x:aW} {s f n:Nat} {cs:Array ag} {v:ag} (A:uX P s f=some n) (I:ev N σ x= .agg cs) (E:cs[n]? =some v):
 (execOp (ev N σ) ⟨dst,.field s x f,ty,pos,af,g⟩).run P w= .ok (.value v) w:=by
 unfold uX at A;split at A
 · rename_i J hu;split at A
   · rename_i fd C;split at A
     · rename_i ha;cases A;simp [execOp,DD,bt hu,C,I,asAgg,part,BT ha,E]
     · cases A
   · cases A
 · cases A
section
variable {P:au} {ops:Array Oper} {Q:Exit→Act→ah→Prop} {S:ah→Prop} {md:nC}
def C1 (P:au) (md:nC) (ops:Array Oper) (Q:Exit→Act→ah→Prop) (S:ah→Prop):Nat→Array Bool→Act→ah→Prop
 | 0,listed,a,w=>dv md ops listed= []∧Q .normal a w
 | fuel+1,listed,a,w=>
   (dv md ops listed= []→Q .normal a w)∧
   ∀ i∈dv md ops listed,wpOpIn eN 0 P ops Q i (fun A w'=>S w'∧C1 P md ops Q S fuel (listed.setIfInBounds i true) A w') a w
end
def LV (P:au) (N:Fm) (ops:Array Oper) (Q:Exit→(Nat→ag)→ah→Prop) (S:ah→Prop) (fuel:Nat) (listed:Array Bool) (σ:Nat→ag) (w:ah):Prop :=
 C1 P .any ops (lift N Q) S fuel listed (act N σ) w
section
variable {P:au} {N:Fm} {ops:Array Oper} {Q:Exit→(Nat→ag)→ah→Prop} {σ:Nat→ag} {w:ah} {d':Option Nat} {d:Nat} {op:Op} {ty:av} {pos :String} {af:Array bQ} {v:ag}
variable {S:ah→Prop} {fuel:Nat} {listed:Array Bool}
end
attribute [irreducible] LV
end Go.Hb
end
section
namespace Go.Hb
abbrev lJ (A:List Nat):List Deferred:=A.map fun D=> {target:= .collected D,args:= #[]}
def mo:List Nat→ah→ah
 | [],w=>w
 | D::Ds,w=>mo Ds<|w.putObj D<|.deferred none
def fw (A:List Nat) (w:ah):Prop :=(∀ D∈A,w.heap[D]? =some (.deferred<|some []))∧A.Nodup
theorem fw.nc {A:List Nat} {w w':ah} (h:fw A w) (hn:bX w w'):fw A w':=⟨fun D C=>hn D _ (h.1 D C) ⟨(fun _ _ _ h=>by cases h),fun _ _ h=>by cases h⟩,h.2⟩
theorem fw.cons {A:List Nat} {D:Nat} {w:ah} (h:fw A w) (C:w.heap[D]? =some (.deferred<|some [])) (hn:D∉A):fw (D::A) w:=by grind [fw]
theorem fw.ne {A:List Nat} {w:ah} {D:Nat} (h:fw A w) (C:w.heap.size≤D):D∉A:=by grind [fw]
theorem fw.put {A:List Nat} {D:Nat} {w:ah} (h:fw (D::A) w):fw A (w.putObj D<|.deferred none):=
 ⟨fun k C=>by
  have I:k≠D:=fun E=>(tJ.1 h.2).1<|E ▸ C;rw [kW I]; exact h.1 k (gQ _ C),(tJ.1 h.2).2⟩
theorem uH:∀ (A:List Nat) (w:ah),Md (fun k=>k∈A) w (mo A w)
 | [],w=>Md.refl _ w
 | D::A,w=>((vK w D<|.deferred none).mono fun k _ C=>C ▸ gR ..).trans' (uH A _) fun k _ C=>gQ _ C
section
variable {P:au} {n:Nat} {Fx:List Nat} {σ:Nat→ag} {w:ah} {fn:Func} {R:ag→ah→Prop} {B:Exit→Act→ah→Prop} {N:Fm}
theorem AU {tmps:Array ag} {v:ag} :∀ (A:List Nat) (w:ah),fw A w→(results fn tmps).run P (mo A w)= .ok v (mo A w)→R v (mo A w)→
 LeavesInM eN 0 P fn tmps (fun e w'=> ∃ v,e= .returned v∧R v w') (lJ A) .returning w
 | [],w,_,hr,hR=>⟨v,hr,v,rfl,hR⟩
 | D::A,w,h,hr,hR=>⟨FrameMode.noConfusion,.inl ⟨_,_,rfl,run_takeDeferred (h.1 D<|gR ..),AU A _ h.put hr hR⟩⟩
theorem G5 {r:ResultVar} {v:ag} (A:List Nat) (C:fw A w) (h:fn.results= #[r]) (h1:gT P ⟨n,lJ A,Fx,none⟩ σ (mo A w) r v) (E:R v (mo A w)):qb ⟨n,lJ A,Fx,none⟩ (Bm P fn R) .ret σ w:=
 AU A w C (BQ h<|gp h1) E
theorem A9 {id:Nat} {c:Code} (h:eM P N c (o0 id B) σ w):eM P N (.block id c) B σ w:=wpIn_block h
theorem IF {c:Code} {L:List (Nat×ag)} (h:Sl σ L) (A:eM P N c B (oS σ L) w):eM P N c B σ w:=by rw [sS h] at A; exact A
theorem Ba {id:Nat} (h:qb N B .normal σ w):qb N (o0 id B) .normal σ w:=h
theorem IA {id:Nat} (h:qb N B .normal σ w):qb N (o0 id B) (.exit id) σ w:=by show (if id=id then B .normal (act N σ) w else B (.exit id) (act N σ) w); rw [if_pos rfl]; exact h
theorem IL {i:Nat} {y:Act→ah→Prop} (h:qb N B (.exit i) σ w):qb N (Exit.then y B) (.exit i) σ w:=h
def vF (n:Nat) (Fx:List Nat) (R:List Nat→(Nat→ag)→ah→Prop) (B:Exit→Act→ah→Prop):Exit→Act→ah→Prop
 | .normal,a,w=> ∃ A σ,a=act ⟨n,lJ A,Fx,none⟩ σ∧R A σ w
 | e,a,w=>B e a w
variable {S:List Nat→(Nat→ag)→ah→Prop}
theorem Bb (A:List Nat) (h:S A σ w):qb ⟨n,lJ A,Fx,none⟩ (vF n Fx S B) .normal σ w:=⟨A,σ,rfl,h⟩
theorem IJ {i:Nat} (h:qb N B (.exit i) σ w):qb N (vF n Fx S B) (.exit i) σ w:=h
theorem II {c:Code} (A:List Nat) (L:Nat→List Nat→(Nat→ag)→ah→Prop) (m:Nat) (h0:L m A σ w)
 (h:∀ m A σ w,L m A σ w→eM P ⟨n,lJ A,Fx,none⟩ c (vF n Fx (fun O σ' w'=> ∃ k,k < m∧L k O σ' w') B) σ w):eM P ⟨n,lJ A,Fx,none⟩ (.loop c) B σ w:=by
 intro b k cs al hb hr;have key:∀ m A σ w,L m A σ w→
  ∃ e M w',B e M w'∧ArrivesIn (Machine.fenced P eN) P (lone (b.atR (act ⟨n,lJ A,Fx,none⟩ σ) (.code c:: .inLoop c::k)) cs w) b k cs e M w':=by
  intro m
  induction m using Nat.strongRecOn with
  | _ m ih=>
    intro A σ w ac;obtain ⟨e,J,I,E,C⟩:=h m A σ w ac b (.inLoop c::k) cs al hb hr;cases e with
    | normal=>
      obtain ⟨V,ao,rfl,j,ai,ad⟩:=E;obtain ⟨ab,Z,am,ak,ae⟩:=ih j ai V ao I ad;exact ⟨ab,Z,am,ak,.of_steps (StepsIn.trans C<|.one (fenced_calm hb hr U) stepR_inLoop) ae⟩
    | exit id=>exact ⟨.exit id,J,I,E,.pass (x:= .inLoop c) rfl (fun _ _=> .inl<|by simp) C⟩
    | goto l=>exact ⟨.goto l,J,I,E,.pass (x:= .inLoop c) rfl (fun _ _=> .inl<|by simp) C⟩
    | ret=>exact ⟨.ret,J,I,E,.pass (x:= .inLoop c) rfl (fun _ _=> .inl<|by simp) C⟩
    | panic aa=>exact ⟨.panic aa,J,I,E,.pass (x:= .inLoop c) rfl (fun _ _=> .inl<|by simp) C⟩
    | outgrown=>exact ⟨.outgrown,J,I,E,.pass (x:= .inLoop c) rfl (fun _ _=> .inl<|by simp) C⟩
 obtain ⟨e,M,w',aj,C⟩:=key _ A σ w h0;exact ⟨e,M,w',aj,.of_steps (.one (fenced_calm hb hr U) stepR_loop) C⟩
end
section
variable {P:au} {N:Fm} {σ:Nat→ag} {w:ah} {dst:Option Nat} {ty:av} {pos :String} {af:Array bQ} {g:Option (Nat×Bool)} {K:(Nat→ag)→ah→Prop}
end
section
variable {P:au} {N:Fm} {σ:Nat→ag} {w:ah} {dst:Option Nat} {ty:av} {pos :String} {af:Array bQ} {g:Option (Nat×Bool)} {x y:aW}
end
end Go.Hb
end
section
namespace Go.Hb
theorem JT {L:List ag} {o:Nat} {v:ag} (h:o < L.length):(L.set o v).take (o+1)=L.take o++ [v]:=by grind [List.set_eq_take_append_cons_drop,List.take_append,dh,Nat.min_eq_left,Nat.add_sub_cancel_left,nG]
theorem JS {L:List ag} {o m:Nat} {v:ag} (h:o < m):(L.set o v).drop m=L.drop m:=by
 rw [List.drop_set,if_pos h]
section
variable {P:au} {N:Fm} {σ:Nat→ag} {w:ah} {ty:av} {pos :String} {af:Array bQ} {g:Option (Nat×Bool)} {x:aW} {K:(Nat→ag)→ah→Prop}
end
end Go.Hb
end
section
namespace Go.Hb
section
variable {P:au} {N:Fm} {σ:Nat→ag} {w:ah} {dst:Option Nat} {ty:av} {pos :String} {af:Array bQ} {g:Option (Nat×Bool)} {x:aW}
theorem E4 {t n C b:Nat} (he:kg P t=some (n,C)) (A:ev N σ x= .pointer (some ⟨b,0,none⟩)):
 (execOp (ev N σ) ⟨dst,.slice t x none none none,ty,pos,af,g⟩).run P w= .ok (.value<|.slice (some ⟨b,0,none⟩) n n) w:=by
 unfold kg at he;cases hd:P.underlying t with
 | none=>rw [hd] at he; cases he
 | some d=>
   rw [hd] at he;cases d <;> first | (cases he; done) | skip
   rename_i m e;cases hi:P.info? e with
   | none=>simp [hi] at he
   | some j=>
     simp only [hi,fu,bL,gS] at he;obtain ⟨rfl,rfl⟩:=he;simp [execOp,nw,Instr.sureAddr,j7,A,bt hd,sizeOf,dg hi,fL]
def uY (P:au) (t f:Nat):Option (Nat×Nat):=
 match P.underlying t with
 | some (.struct A)=>(A[f]?).map fun d=>(d.type,d.offset)
 | _=>none
theorem Hh {t f A off n:Nat} {cs vs:List ag} (h:uY P t f=some (A,off)) (ha:db P A=some (some n)) (I:ev N σ x= .agg cs.toArray) (E:(cs.drop off).take n=vs):
 (execOp (ev N σ) ⟨dst,.field t x f,ty,pos,af,g⟩).run P w= .ok (.value<|.agg vs.toArray) w:=by
 subst E;unfold uY at h;cases hd:P.underlying t with
 | none=>rw [hd] at h; cases h
 | some d=>
   rw [hd] at h;cases d <;> first | (cases h; done) | skip
   rename_i J;simp only [gy] at h;obtain ⟨fd,C,he⟩:=h;cases he;unfold db at ha;cases hd2:P.underlying fd.type with
   | none=>rw [hd2] at ha; cases ha
   | some d2=>
     rw [hd2] at ha;cases hi:P.info? fd.type with
     | none=>simp [Program.underlying,hi] at hd2
     | some i=>
       rw [hi] at ha;have L:cs.toArray.extract fd.offset (fd.offset+n)=((cs.drop fd.offset).take n).toArray:=by simp
       cases d2 <;> first
        | (cases ha; done)
        | (simp only [fu,bL] at ha; subst ha
           simp [execOp,DD,bt hd,C,I,asAgg,part,isAgg,bt hd2,sizeOf,dg hi])
end
end Go.Hb
end
section
set_option linter.unusedSimpArgs false
namespace Go.Hb
open Classical
structure yp (P:au) (k:av) (cX:ag→Prop):Prop where
 key:nL P k cX
 stays:∀ w v,cX v→(qH v v).run P w= .ok v w
def HI (v:ag):Prop := ∃ s:List UInt8,v=str s
def Au (q:bu) (v:ag):Prop := ∃ a:Int,v= .int q a
theorem Aa {d:TypeDesc} {cX:ag→Prop} (L:∀ x y,cX x→cX y→∃ A,xX d x y=some A∧(A=true↔x=y)) {x:ag} (M:cX x):∀ (es:List MapEntry) (i:Nat),(∀ e∈es,cX e.key)→
 (nu d x es i=some none∧∀ e∈es,e.key≠x)∨∃ j e,nu d x es i=some (some (i+j,e.val))∧es[j]? =some e∧e.key=x
 | [],i,_=> .inl ⟨rfl,fun _ h=>by simp at h⟩
 | e::es,i,h=>by
   obtain ⟨A,h1,J⟩:=L x e.key M<|h e<|by simp
   cases A with
   | true =>exact .inr ⟨0,e,by simp [nu,h1],rfl,(J.1 rfl).symm⟩
   | false =>
     have V:e.key≠x:=fun U=>by cases J.2 U.symm
     rcases Aa L M es (i+1) (fun e he=>h e<|by simp [he]) with ⟨C,E⟩ | ⟨j,e',C,E,O⟩
     · refine .inl ⟨by simp [nu,h1,C],fun e' I=> ?_⟩;rcases dP.1 I with rfl | I
       · exact V
       · exact E e' I
     · refine .inr ⟨j+1,e',?_,E,O⟩;simp only [nu,h1,C]; rw [show i+1 +j=i+(j+1) from by omega]
theorem AH {P:au} {k:av} {d:TypeDesc} {cX:ag→Prop} (E:P.underlying k=some d) (L:∀ x y,cX x→cX y→∃ C,xX d x y=some C∧(C=true↔x=y)) (J:∀ em w v,cX v→(j6 em 10000 k v).run P w= .ok () w):nL P k cX where
 check:=J
 find w x es hx hes:=by
  rcases Aa L hx es 0 hes with ⟨h1,A⟩ | ⟨j,e,h1,A,I⟩
  · exact .inl ⟨by simp [nt,bt E,h1],A⟩
  · exact .inr ⟨j,e,by simp [nt,bt E,h1],A,I⟩
theorem yH (a b:ByteArray):(a==b)=decide (a=b):=by
 rw [Bool.eq_iff_iff,decide_eq_true_iff];show ((a.data==b.data)=true)↔_;rw [beq_iff_eq];exact ⟨fun h=>by cases a; cases b; cases h; rfl,fun h=>by rw [h]⟩
theorem AG {P:au} {k:av} (A:P.underlying k=some .string):yp P k HI where
 key:=AH A (by
  rintro _ _ ⟨a,rfl⟩ ⟨b,rfl⟩;refine ⟨_,U,?_⟩;rw [yH,decide_eq_true_iff];constructor
  · intro h; unfold str; rw [h]
  · intro h; unfold str at h; cases h; rfl) (by rintro em w _ ⟨a,rfl⟩; exact yS (n:=9999) A w)
 stays w v hv:=by obtain ⟨a,rfl⟩:=hv; simp [qH,DH,str,yH]
theorem FI {P:au} {k:av} {q r:bu} {em:Bool} {n:Nat} {a:Int} (A:P.underlying k=some (.int q)) (w:ah):(j6 em (n+1) k<|.int r a).run P w= .ok () w:=by
 simp only [j6,Sem.run_bind,bt A,Result.andThen_ok,Sem.run_pure]
theorem AF {P:au} {k:av} {q r:bu} (A:P.underlying k=some (.int q)):yp P k (Au r) where
 key:=AH A (by
  rintro _ _ ⟨a,rfl⟩ ⟨b,rfl⟩;refine ⟨decide (a=b),by simp [xX]; rfl,?_⟩;rw [decide_eq_true_iff];exact ⟨fun h=>by rw [h],fun h=>by cases h; rfl⟩) (by rintro em w _ ⟨a,rfl⟩; exact FI (n:=9999) A w)
 stays w v hv:=by obtain ⟨a,rfl⟩:=hv; simp [qH,DH]
section
variable {P:au} {N:Fm} {σ:Nat→ag} {w:ah} {dst:Option Nat} {ty:av} {pos :String} {af:Array bQ} {g:Option (Nat×Bool)} {x y z:aW} {K:(Nat→ag)→ah→Prop}
variable {t k e:av} {cX:ag→Prop} {b:Nat} {f:ag→Option ag} {kx v zv:ag}
end
end Go.Hb
end
section
namespace Go.Hb
theorem HK (c:UInt8):∀ l:List UInt8,DJ l c=ky c l:=by
 intro l
 induction l with
 | nil=>rfl
 | cons b l ih=>
   unfold DJ;rw [ih];rw [show ky c (b::l)=if (b::l).idxOf c < (b::l).length then ((b::l).idxOf c:Int) else -1 from rfl,List.idxOf_cons];by_cases h:(b==c)=true
   · rw [if_pos h,h]; rfl
   · have h':(b==c)=false :=by simpa using h
     rw [if_neg h,h'];simp only [cond_false,dJ];by_cases h1:l.idxOf c < l.length
     · have A:ky c l=l.idxOf c:=if_pos h1;rw [A,if_neg (fun hb=>by have :=eq_of_beq hb; omega),if_pos ab]; rfl
     · have A:ky c l= -1:=if_neg h1;rw [A,if_pos aD,if_neg ab]
theorem JH {P:au} {f:FuncId} {fn:Func} (A:P.funcs[f]? =some fn) (C:(fn.name== "runtime.NumGoroutine")=false) (hb:fn.body.isNone=true) (hn:Extern.findNext fn=none)
 (he:Extern.find fn=some Me) (l:List UInt8) (c:UInt8) (w:ah):(callFunc f #[str l,.int .u8 c.toNat]).run P w= .ok (.value<|.int .i64<|ky c l) w:=by
 rw [run_callFunc_extern A C hb hn he];unfold str;rw [Lib.run_indexByteString];have h1:((c.toNat:Int)).toNat.toUInt8=c:=UInt8.toNat_inj.1<|by simp
 rw [h1,HK];rfl
section
variable {P:au} {N:Fm} {σ:Nat→ag} {w:ah} {dst:Option Nat} {ty:av} {pos :String} {af:Array bQ} {g:Option (Nat×Bool)}
end
end Go.Hb
end
