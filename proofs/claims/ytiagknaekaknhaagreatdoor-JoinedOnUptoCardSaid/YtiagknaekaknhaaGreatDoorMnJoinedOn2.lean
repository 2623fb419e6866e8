/-
  Walks and plain laws that the law rests on, laid together. No conditions but those that each theorem names.
-/
import Derived.Test.YtiagknaekaknhaaGreatDoorMnJoinedOn1
set_option linter.unusedVariables false
open Array renaming getElem?_eq_some_iff→dq
open Bool renaming and_eq_false_iff→EG,and_eq_true→a0,and_false→um,false_and→EH,false_eq_true→lJ,not_eq_true'→jB,true_and→nX
open Go renaming Edge→bQ,IntKind→bA,Operand→aW,Program→ar,TypeId→av,Value→ag,World→ah
open Go.Exit renaming inBlock→pP
open Go.Extern.BytealgIndexByte renaming indexByte→NT
open Go.Fence renaming wide→e7
open Go.Instr renaming checkKey→kF,field→EV,findKey→nZ,findNow→n3,keyThatStays→rF,sameBits→E0,sameNow→yX,sliceAt→n4,sliceBounds→kG
open Go.Lib renaming indexByte→E2
open Go.Region renaming Mode→n9,ready→dx
open Go.Value.slice renaming injEq→pT
open Go.World renaming alloc_heap_new→E9,putObj_heap_other→lM,putObj_heap_same→uy
open List.Nodup renaming length_le_of_subset→Ff
open List renaming append_assoc→gJ,append_nil→jD,flatMap_cons→pV,foldlM_append→Fp,foldlM_cons→pW,foldlM_nil→pX,foldl_cons→jc,getD_cons_zero→uD,getD_eq_getElem?_getD→bY,getElem?_drop→iF,getElem?_eq_getElem→bC,getElem?_eq_none→jG,getElem?_eq_some_iff→cD,getElem?_map→gu,getElem_take→uE,getLast?_eq_some_getLast→Fu,idxOf_append→uF,idxOf_lt_length_of_mem→zd,length_cons→dC,length_drop→iG,length_set→iH,length_take→cO,map_congr_left→kJ,map_cons→dG,mem_append→dH,mem_append_left→pZ,mem_cons→ef,mem_cons_of_mem→ic,mem_cons_self→ie,mem_filter→mI,mem_iff_getElem→uH,mem_range→gL,mem_range'_1→zg,mem_singleton→eh,nodup_cons→uL,not_mem_nil→uM,pairwise_iff_getElem→oh,range→fX,range'→eL,replicate→dr,sum_cons→kL,takeWhile_cons→FD,take_of_length_le→jI,take_succ_eq_append_getElem→uP
open Nat renaming add_assoc→iI,eq_or_lt_of_le→FI,le_refl→aQ,le_trans→cn,lt_or_ge→dD,pow_succ→uR,strongRecOn→FO,zero_add→cz
open Option renaming bind_eq_bind→qe,bind_eq_some_iff→qf,map_eq_some_iff→gM,map_some→fG,pure_def→qh
open Option.some renaming inj→fH,injEq→bK
open Prod.mk renaming injEq→ig
open Go.Proofs.Tryz
open Go.RowKit

section
namespace Go.Hb
end Go.Hb
namespace Go.Hb
def nv (n:Nat):ag:= .int .i64 n
theorem eX {h:Array Obj} {a:Option Addr} {r:List Nat} {i x:Nat} (A:a9 h a (r.map nv)) (hi:r[i]? =some x):ax h (bk a) (fo a+i*1)=some (.int .i64 (x:Nat)):=by
 rw [Nat.mul_one]; exact A.ax _ _<|by rw [gu,hi]; rfl
section
variable {P:ar} {N:Fm} {σ:Nat→ag} {w:ah} {dst:Option Nat} {ty:av} {pos :String} {af:Array bQ} {g:Option (Nat×Bool)} {x y z:aW}
end
end Go.Hb
namespace Go.Hb
abbrev aJ:Type :=Bool×List (UInt8×Int)
def dI:aJ:=(false,[])
abbrev aA (a:List aJ) (n:Nat):aJ:=a.getD n dI
def dP (l:List (UInt8×Int)):Prop :=l.Pairwise fun x y=>x.1.toNat < y.1.toNat
instance (l:List (UInt8×Int)):Decidable (dP l):=by unfold dP; infer_instance
def gz (a:List aJ) (p:aJ):Bool:=decide (p.2≠[]) || p.1 || decide (a.length=1)
def vs (a:List aJ):Nat→Nat×List Nat→Int→Option (Nat×List Nat)
 | 0,_,_=>none
 | f+1,(nx,mk),n=>
   if n≠nx then (if 0≤n∧n < nx∧mk.getD n.toNat 0=2 then some (nx,mk) else none)
   else if a.length≤nx then none
   else if dP (aA a nx).2∧gz a (aA a nx)=true then
    ((aA a nx).2.foldlM (fun s e=>vs a f s e.2) (nx+1,mk.set nx 1)).map fun s=>(s.1,s.2.set nx 2)
   else none
def shaped (a:List aJ):Bool:=decide (0 < a.length) && decide (a.length≤1048576) && match vs a (a.length+1) (0,dr a.length 0) 0 with
 | some s=>decide (s.1=a.length)
 | none=>false
section
variable {a:List aJ}
theorem yC:∀ (f:Nat) {nx A:Nat} {mk mk':List Nat} {n:Int},vs a f (nx,mk) n=some (A,mk')→nx≤A∧mk'.length=mk.length:=by
 intro f
 induction f with
 | zero=>intro nx A mk mk' n h; cases h
 | succ f ih=>
   intro nx A mk mk' n h;have C:∀ (es:List (UInt8×Int)) (nx A:Nat) (mk mk':List Nat),es.foldlM (fun s e=>vs a f s e.2) (nx,mk)=some (A,mk')→nx≤A∧mk'.length=mk.length:=by
    intro es
    induction es with
    | nil=>intro nx A mk mk' h; simp only [pX,qh,bK,ig] at h; obtain ⟨rfl,rfl⟩:=h; exact ⟨aQ _,rfl⟩
    | cons e es E=>
      intro nx A mk mk' h;simp only [pW,qe,qf] at h;obtain ⟨⟨I,m1⟩,h1,h2⟩:=h;have J:=ih h1;have L:=E _ _ _ _ h2;exact ⟨ab,ab⟩
   rw [vs] at h;split at h
   · split at h
     · cases h; exact ⟨aQ _,rfl⟩
     · cases h
   · split at h
     · cases h
     · split at h
       · simp only [gM] at h;obtain ⟨⟨I,m1⟩,h1,h2⟩:=h;simp only [ig] at h2;obtain ⟨rfl,rfl⟩:=h2;have :=C _ _ _ _ _ h1;simp only [iH] at this ⊢;exact ⟨ab,this.2⟩
       · cases h
def Kq (a:List aJ) (l:List Nat) (i:Nat):Prop :=i < a.length∧dP (aA a i).2∧gz a (aA a i)=true∧∀ e∈(aA a i).2,0≤e.2∧e.2.toNat∈l
inductive Ord (a:List aJ):List Nat→Prop
 | nil:Ord a []
 | snoc {l i} :Ord a l→Kq a l i→i∉l→Ord a (l++ [i])
def uX (a:List aJ) (i:Nat):Prop := ∃ j,j < i∧∃ e∈(aA a j).2,e.2=(i:Int)
structure qi (a:List aJ) (nx:Nat) (mk:List Nat) (l:List Nat):Prop where
 ord:Ord a l
 len:mk.length=a.length
 le:nx≤a.length
 done :∀ i,mk.getD i 0=2↔i∈l
 lt:∀ i∈l,i < nx
 zero:∀ i,nx≤i→mk.getD i 0=0
theorem m9 (mk:List Nat) (i j x:Nat) (h:i < mk.length):(mk.set i x).getD j 0=if i=j then x else mk.getD j 0:=by grind
theorem MP:∀ (f:Nat) {nx J:Nat} {mk mk':List Nat} {n:Int} {l:List Nat},vs a f (nx,mk) n=some (J,mk')→qi a nx mk l→
 ∃ C,qi a J mk' (l++C)∧(∀ i,i < nx→mk'.getD i 0=mk.getD i 0)∧(∀ i,nx≤i→i < J→i∈C)∧0≤n∧n.toNat∈l++C∧(∀ i,nx≤i→i < J→(i:Int)=n∨uX a i):=by
 intro f
 induction f with
 | zero=>intro nx J mk mk' n l h; cases h
 | succ f ih=>
   intro nx J mk mk' n l h V;rw [vs] at h;split at h
   · rename_i hn;split at h
     · rename_i L;cases h;exact ⟨[],by rw [jD]; exact V,fun _ _=>rfl,fun i h1 A=>by omega,L.1,by rw [jD]; exact (V.done _).1 L.2.2,fun i h1 A=>by omega⟩
     · cases h
   · rename_i hn;have hn:n=nx:=Classical.not_not.1 hn;split at h
     · cases h
     · rename_i aC;split at h
       · rename_i L;simp only [gM] at h;obtain ⟨⟨aD,m1⟩,h1,A⟩:=h;simp only [ig] at A;obtain ⟨rfl,rfl⟩:=A;have Z:nx < mk.length:=by rw [V.len]; omega
         have aj:qi a (nx+1) (mk.set nx 1) l:=by
          refine ⟨V.ord,by rw [iH]; exact V.len,ab,fun i=> ?_,fun i hi=>by have :=V.lt i hi; omega,fun i hi=> ?_⟩
          · rw [m9 _ _ _ _ Z];by_cases e:nx=i
            · subst e; rw [if_pos rfl];exact ⟨fun h=>by omega,fun h=>by have :=V.lt _ h; omega⟩
            · rw [if_neg e]; exact V.done i
          · rw [m9 _ _ _ _ Z,if_neg ab]; exact V.zero i ab
         have au:∀ (es:List (UInt8×Int)) (k I:Nat) (m M:List Nat) (l:List Nat),(∀ e∈es,e∈(aA a nx).2)→nx+1≤k→es.foldlM (fun s e=>vs a f s e.2) (k,m)=some (I,M)→qi a k m l→
          ∃ C,qi a I M (l++C)∧(∀ i,i < k→M.getD i 0=m.getD i 0)∧(∀ i,k≤i→i < I→i∈C)∧(∀ e∈es,0≤e.2∧e.2.toNat∈l++C)∧(∀ i,k≤i→i < I→uX a i)∧k≤I:=by
          intro es
          induction es with
          | nil=>
            intro k I m M l _ _ h V;simp only [pX,qh,bK,ig] at h;obtain ⟨rfl,rfl⟩:=h;exact ⟨[],by rw [jD]; exact V,fun _ _=>rfl,fun i h1 A=>by omega,fun e he=>by simp at he,fun i h1 A=>by omega,aQ _⟩
          | cons e es aw=>
            intro k I m M l ah az h V;simp only [pW,qe,qf] at h;obtain ⟨⟨ai,m1⟩,g1,g2⟩:=h;obtain ⟨ax,ak,al,am,ao,ap,aq⟩:=ih g1 V;have aB:=(yC f g1).1;obtain ⟨ay,X1,O,ac,ad,ae,ar⟩:=aw _ _ _ _ _ (fun e he=>ah e<|by simp [he]) ab g2 ak;rw [gJ] at X1;refine ⟨ax++ay,X1,fun i hi=>(O i ab).trans (al i hi),fun i h1 A=> ?_,fun e' ag=> ?_,fun i h1 A=> ?_,ab⟩
            · rcases dD i ai with h | h
              · exact pZ _<|am i h1 h
              · exact List.mem_append_right _<|ac i h A
            · rcases ef.1 ag with rfl | ag
              · refine ⟨ao,?_⟩;rw [← gJ]; exact pZ _ ap
              · have :=ad e' ag;rw [gJ] at this; exact this
            · rcases dD i ai with h | h
              · rcases aq i h1 h with E | E
                · exact ⟨nx,ab,e,ah e (by simp),E.symm⟩
                · exact E
              · exact ae i h A
         obtain ⟨C,X1,O,ac,ad,ae,ar⟩:=au _ _ _ _ _ _ (fun _ h=>h) (aQ _) h1 aj;have na:nx < m1.length:=by rw [X1.len]; omega
         have av:nx∉l++C:=fun h=>by
          have E:=(X1.done nx).2 h;rw [O nx ab,m9 _ _ _ _ Z,if_pos rfl] at E; omega
         refine ⟨C++ [nx],?_,fun i hi=> ?_,fun i A E=> ?_,ab,?_,fun i A E=> ?_⟩
         · rw [← gJ];refine ⟨.snoc X1.ord ⟨ab,L.1,L.2,ad⟩ av,by rw [iH]; exact X1.len,X1.le,fun i=> ?_,fun i hi=> ?_,fun i hi=> ?_⟩
           · rw [m9 _ _ _ _ na,dH,eh];by_cases e:nx=i
             · subst e; rw [if_pos rfl]; exact ⟨fun _=> .inr rfl,fun _=>rfl⟩
             · rw [if_neg e,X1.done i]; exact ⟨.inl,fun h=>h.elim id fun h=>absurd h.symm e⟩
           · rw [dH,eh] at hi;rcases hi with hi | rfl
             · exact X1.lt i hi
             · omega
           · rw [m9 _ _ _ _ na,if_neg ab]; exact X1.zero i hi
         · rw [m9 _ _ _ _ na,if_neg ab,O i ab,m9 _ _ _ _ Z,if_neg ab]
         · rw [dH,eh];rcases FI A with U | U
           · exact .inr U.symm
           · exact .inl<|ac i ab E
         · rw [← gJ,dH,eh]; right; omega
         · rcases FI A with U | U
           · left; omega
           · exact .inr<|ae i ab E
       · cases h
structure fK (a:List aJ) (l:List Nat):Prop where
 pos :0 < a.length
 le:a.length≤1048576
 ord:Ord a l
 all:∀ i,i < a.length→i∈l
 met:∀ i,0 < i→i < a.length→uX a i
theorem tP (h:shaped a=true):∃ l,fK a l:=by
 unfold shaped at h;simp only [a0,decide_eq_true_eq] at h;obtain ⟨⟨h1,J⟩,A⟩:=h;split at A
 · rename_i s L;obtain ⟨k,m⟩:=s;have A:=of_decide_eq_true A;simp only at A;subst A;have C:∀ i,(dr a.length 0).getD i 0=0:=fun i=>by
    rw [bY,List.getElem?_replicate]; split <;> rfl
   obtain ⟨l,V,_,E,_,_,I⟩:=MP (l:= []) _ L ⟨.nil,by simp,ab,fun i=>by rw [C]; simp,fun i hi=>by simp at hi,fun i _=>C i⟩;refine ⟨l,h1,J,by simpa using V.ord,fun i hi=>E i ab hi,fun i h0 hi=>(I i ab hi).resolve_left ab⟩
 · cases A
def lg (a:List aJ):Nat→Nat→List (List UInt8)
 | 0,_=> []
 | f+1,n=>(if (aA a n).1=true then [[]] else [])++(aA a n).2.flatMap fun e=>(lg a f e.2.toNat).map (e.1:: ·)
def eZ (a:List aJ) (n:Nat):List (List UInt8):=lg a a.length n
theorem Bf {α β:Type} {l:List α} {f g:α→List β} (h:∀ x∈l,f x=g x):l.flatMap f=l.flatMap g:=by
 induction l with
 | nil=>rfl
 | cons x l ih=>rw [pV,pV,h x (by simp),ih fun y A=>h y (by simp [A])]
theorem Ord.lt {l:List Nat} (h:Ord a l):∀ i∈l,i < a.length:=by
 induction h with
 | nil=>intro i hi; simp at hi
 | snoc _ A _ ih=>intro i hi; rcases dH.1 hi with h | h; exact ih i h; rw [eh] at h; subst h; exact A.1
theorem Ord.st {l:List Nat} (h:Ord a l):∀ i∈l,dP (aA a i).2∧gz a (aA a i)=true∧∀ e∈(aA a i).2,0≤e.2∧e.2.toNat∈l:=by
 induction h with
 | nil=>intro i hi; simp at hi
 | snoc _ A _ ih=>
   intro i hi;rcases dH.1 hi with h | h
   · obtain ⟨h1,E,C⟩:=ih i h; exact ⟨h1,E,fun e he=>⟨(C e he).1,pZ _ (C e he).2⟩⟩
   · rw [eh] at h; subst h; exact ⟨A.2.1,A.2.2.1,fun e he=>⟨(A.2.2.2 e he).1,pZ _ (A.2.2.2 e he).2⟩⟩
theorem Ord.vD {l:List Nat} (h:Ord a l):∀ i∈l,∀ e∈(aA a i).2,l.idxOf e.2.toNat < l.idxOf i:=by
 induction h with
 | nil=>intro i hi; simp at hi
 | @snoc l i0 _ E _ ih=>
   intro i hi e he;by_cases h:i∈l
   · have h1:=ih i h e he;have A:e.2.toNat∈l:=List.idxOf_lt_length_iff.1<|Nat.lt_trans h1<|zd h;rw [uF,uF,if_pos A,if_pos h]; exact h1
   · rcases dH.1 hi with C | C
     · exact absurd C h
     · rw [eh] at C; subst C;have A:=(E.2.2.2 e he).2;rw [uF,uF,if_pos A,if_neg h];have :=zd A;omega
theorem JG {l:List Nat} (h:Ord a l):∀ (r i f A:Nat),i∈l→l.idxOf i≤r→r < f→r < A→lg a f i=lg a A i:=by
 intro r
 induction r with
 | zero=>
   intro i f A hi hr I J;obtain ⟨g,rfl⟩:∃ g,f=g+1:=⟨f - 1,ab⟩
   obtain ⟨C,rfl⟩:∃ C,A=C+1:=⟨A - 1,ab⟩
   rw [lg,lg];congr 1;refine Bf fun e he=> ?_;have :=h.vD i hi e he; omega
 | succ r ih=>
   intro i f A hi hr I J;obtain ⟨g,rfl⟩:∃ g,f=g+1:=⟨f - 1,ab⟩
   obtain ⟨C,rfl⟩:∃ C,A=C+1:=⟨A - 1,ab⟩
   rw [lg,lg];congr 1;refine Bf fun e he=> ?_;have h1:=h.vD i hi e he;have E:=((h.st i hi).2.2 e he).2;rw [ih _ g C E ab ab ab]
theorem Ord.nd {l:List Nat} (h:Ord a l):l.Nodup:=by
 induction h with
 | nil=>exact List.nodup_nil
 | snoc _ _ hn ih=>exact List.nodup_append.2 ⟨ih,by simp,fun x C y A e=>by rw [eh] at A; subst A; subst e; exact hn C⟩
theorem Ord.length {l:List Nat} (h:Ord a l):l.length≤a.length:=by
 have :=Ff h.nd (l₂:=fX a.length) fun i hi=>gL.2<|h.lt i hi;simpa using this
variable {l:List Nat}
theorem fK.rk (h:fK a l) {i:Nat} (hi:i < a.length):l.idxOf i < a.length:=Nat.lt_of_lt_of_le (zd<|h.all i hi) h.ord.length
theorem fK.oI (h:fK a l) {i:Nat} (hi:i < a.length) {e:UInt8×Int} (he:e∈(aA a i).2):0≤e.2∧e.2.toNat < a.length∧l.idxOf e.2.toNat < l.idxOf i:=
 ⟨((h.ord.st i<|h.all i hi).2.2 e he).1,h.ord.lt _ ((h.ord.st i<|h.all i hi).2.2 e he).2,h.ord.vD i (h.all i hi) e he⟩
theorem fK.tC (h:fK a l) {i:Nat} (hi:i < a.length):dP (aA a i).2:=(h.ord.st i<|h.all i hi).1
theorem dP.len {es:List (UInt8×Int)} (h:dP es):es.length≤256:=by
 have h1:(es.map fun e=>e.1.toNat).Pairwise (· < ·):=List.pairwise_map.2 h;have A:(es.map fun e=>e.1.toNat).Nodup:=h1.imp fun h=>Nat.ne_of_lt h;have :=Ff A (l₂:=fX 256) fun i hi=>by
  obtain ⟨e,_,rfl⟩:=List.mem_map.1 hi;exact gL.2 e.1.toNat_lt
 simpa using this
theorem fK.eZ (h:fK a l) {i:Nat} (hi:i < a.length):eZ a i=(if (aA a i).1=true then [[]] else [])++(aA a i).2.flatMap fun e=>(eZ a e.2.toNat).map (e.1:: ·):=by
 have hr:=h.rk hi;unfold Hb.eZ;rw [JG h.ord (l.idxOf i) i a.length (a.length+1) (h.all i hi) (aQ _) hr ab,lg]
theorem yD {f nx:Nat} {mk:List Nat} {n:Int} (h:n≠nx):vs a (f+1) (nx,mk) n=if 0≤n∧n < nx∧mk.getD n.toNat 0=2 then some (nx,mk) else none:=by rw [vs,if_pos h]
theorem Eb {f nx:Nat} {mk:List Nat} {n:Int} (h:n=nx) (A:a.length≤nx):vs a (f+1) (nx,mk) n=none:=by rw [vs,if_neg (fun e=>e h),if_pos A]
theorem uc {f nx:Nat} {mk:List Nat} {n:Int} (h:n=nx) (A:nx < a.length) (C:¬(dP (aA a nx).2∧gz a (aA a nx)=true)):vs a (f+1) (nx,mk) n=none:=by grind [vs]
theorem D9 {f nx:Nat} {mk:List Nat} {n:Int} (h:n=nx) (A:nx < a.length) (C:dP (aA a nx).2) (E:gz a (aA a nx)=true):
 vs a (f+1) (nx,mk) n=((aA a nx).2.foldlM (fun s e=>vs a f s e.2) (nx+1,mk.set nx 1)).map fun s=>(s.1,s.2.set nx 2):=by grind [vs]
theorem MQ:∀ (f:Nat) {nx A:Nat} {mk mk':List Nat} {n:Int},vs a f (nx,mk) n=some (A,mk')→nx≤a.length→A≤a.length:=by
 intro f
 induction f with
 | zero=>intro nx A mk mk' n h; cases h
 | succ f ih=>
   intro nx A mk mk' n h hle;have C:∀ (es:List (UInt8×Int)) (nx A:Nat) (mk mk':List Nat),es.foldlM (fun s e=>vs a f s e.2) (nx,mk)=some (A,mk')→nx≤a.length→A≤a.length:=by
    intro es
    induction es with
    | nil=>intro nx A mk mk' h; simp only [pX,qh,bK,ig] at h; obtain ⟨rfl,rfl⟩:=h; exact id
    | cons e es E=>
      intro nx A mk mk' h hle;simp only [pW,qe,qf] at h;obtain ⟨⟨I,m1⟩,h1,h2⟩:=h;exact E _ _ _ _ h2<|ih h1 hle
   rw [vs] at h;split at h
   · split at h
     · cases h; exact hle
     · cases h
   · split at h
     · cases h
     · split at h
       · simp only [gM] at h;obtain ⟨⟨I,m1⟩,h1,h2⟩:=h;simp only [ig] at h2;obtain ⟨rfl,rfl⟩:=h2;exact C _ _ _ _ _ h1 ab
       · cases h
def fT (a:List aJ) (f nx:Nat) (mk:List Nat) (es:List (UInt8×Int)):Option (Nat×List Nat):=es.foldlM (fun s e=>vs a f s e.2) (nx,mk)
theorem MT {f nx:Nat} {mk:List Nat} {es:List (UInt8×Int)} {e:UInt8×Int} {s:Nat×List Nat} (h:fT a f nx mk es=some s):fT a f nx mk (es++ [e])=vs a f s e.2:=by
 unfold fT at*;rw [Fp,h];simp
theorem MS {f nx:Nat} {mk:List Nat} {es es':List (UInt8×Int)} (h:fT a f nx mk es=none):fT a f nx mk (es++es')=none:=by grind [fT,Fp]
theorem ue {f nx:Nat} {mk:List Nat} {es:List (UInt8×Int)} {s:Nat×List Nat} (h:fT a f nx mk es=some s) (hle:nx≤a.length):nx≤s.1∧s.2.length=mk.length∧s.1≤a.length:=by
 unfold fT at h
 induction es generalizing nx mk with
 | nil=>simp only [pX,qh,bK] at h; subst h; exact ⟨aQ _,rfl,hle⟩
 | cons e es ih=>
   simp only [pW,qe,qf] at h;obtain ⟨⟨E,m1⟩,h1,h2⟩:=h;have C:=yC f h1;have A:=ih h2<|MQ f h1 hle;exact ⟨ab,ab,A.2.2⟩
theorem tD {es:List (UInt8×Int)} {k:Nat} {e:UInt8×Int} (h:dP (es.take k)) (he:es[k]? =some e) (hp:∀ p,0 < k→es[k - 1]? =some p→p.1.toNat < e.1.toNat):dP (es.take<|k+1):=by
 obtain ⟨J,rfl⟩:=cD.1 he;rw [uP J];unfold dP at*;refine List.pairwise_append.2 ⟨h,by simp,fun x L y C=> ?_⟩;rw [eh] at C; subst C;obtain ⟨j,I,rfl⟩:=uH.1 L;simp only [cO] at I;have h1:=hp es[k - 1] ab<|bC ab;rcases dD j (k - 1) with A | A
 · have E:=oh.1 h j (k - 1) (by rw [cO]; omega) (by rw [cO]; omega) A;rw [uE,uE] at E;rw [uE]; omega
 · have :j=k - 1:=ab;subst this;rw [uE]; exact h1
theorem Cn {es:List (UInt8×Int)} {k:Nat} {e p:UInt8×Int} (h0:0 < k) (he:es[k]? =some e) (hp:es[k - 1]? =some p) (h:e.1.toNat≤p.1.toNat):¬dP es:=fun hr=>by
 obtain ⟨A,rfl⟩:=cD.1 he;obtain ⟨C,rfl⟩:=cD.1 hp;have :=oh.1 hr (k - 1) k C A ab;omega
theorem D8 {f nx:Nat} {mk:List Nat} {s:Nat×List Nat} (A:nx < a.length) (hr:dP (aA a nx).2) (C:fT a f (nx+1) (mk.set nx 1) (aA a nx).2=some s):vs a (f+1) (nx,mk) (nx:Int)=if gz a (aA a nx)=true then some (s.1,s.2.set nx 2) else none:=by
 by_cases h:gz a (aA a nx)=true
 · rw [D9 rfl A hr h,if_pos h];unfold fT at C;rw [C]; rfl
 · rw [uc rfl A (fun e=>h e.2),if_neg h]
theorem ud {f nx k:Nat} {mk:List Nat} (C:nx < a.length) (h:fT a f (nx+1) (mk.set nx 1) ((aA a nx).2.take k)=none):vs a (f+1) (nx,mk) (nx:Int)=none:=by
 by_cases A:dP (aA a nx).2∧gz a (aA a nx)=true
 · rw [D9 rfl C A.1 A.2];have :=MS (es':=(aA a nx).2.drop k) h;rw [List.take_append_drop] at this;unfold fT at this;rw [this]; rfl
 · exact uc U C A
theorem Ea {f nx:Nat} {mk:List Nat} (A:nx < a.length) (h:¬dP (aA a nx).2):vs a (f+1) (nx,mk) (nx:Int)=none:=uc rfl A (fun e=>h e.1)
theorem MO {f nx:Nat} {mk:List Nat} (A:nx < a.length) (h:gz a (aA a nx)=false):vs a (f+1) (nx,mk) (nx:Int)=none:=uc rfl A (fun e=>by rw [h] at e; exact Bool.noConfusion e.2)
theorem mD {f nx k:Nat} {mk:List Nat} {es:List (UInt8×Int)} {e:UInt8×Int} {s:Nat×List Nat} (h:fT a f nx mk (es.take k)=some s) (he:es[k]? =some e):fT a f nx mk (es.take<|k+1)=vs a f s e.2:=by
 obtain ⟨A,rfl⟩:=cD.1 he;rw [uP A];exact MT h
theorem BU {q:aJ} (h:0 < q.2.length):gz a q=true :=by grind [gz]
theorem BT {q:aJ} (h:q.1=true):gz a q=true :=by
 unfold gz; rw [h,Bool.or_true,Bool.true_or]
theorem xa {q:aJ} (h:¬0 < q.2.length) (A:q.1=false):gz a q=decide (a.length=1):=by grind [gz,List.eq_nil_of_length_eq_zero]
theorem getD_set_ne (mk:List Nat) {i j:Nat} (x:Nat) (h:i≠j):(mk.set i x).getD j 0=mk.getD j 0:=by grind
theorem MR:∀ (f:Nat) {nx A:Nat} {mk mk':List Nat} {n:Int},vs a f (nx,mk) n=some (A,mk')→(∀ i,nx≤i→mk.getD i 0=0)→∀ i,A≤i→mk'.getD i 0=0:=by
 intro f
 induction f with
 | zero=>intro nx A mk mk' n h; cases h
 | succ f ih=>
   intro nx A mk mk' n h C;have I:∀ (es:List (UInt8×Int)) (nx A:Nat) (mk mk':List Nat),es.foldlM (fun s e=>vs a f s e.2) (nx,mk)=some (A,mk')→(∀ i,nx≤i→mk.getD i 0=0)→nx≤A∧∀ i,A≤i→mk'.getD i 0=0:=by
    intro es
    induction es with
    | nil=>intro nx A mk mk' h; simp only [pX,qh,bK,ig] at h; obtain ⟨rfl,rfl⟩:=h; exact fun h=>⟨aQ _,h⟩
    | cons e es J=>
      intro nx A mk mk' h C;simp only [pW,qe,qf] at h;obtain ⟨⟨L,m1⟩,h1,h2⟩:=h;have g:=J _ _ _ _ h2<|ih h1 C;exact ⟨cn (yC f h1).1 g.1,g.2⟩
   rw [vs] at h;split at h
   · split at h
     · cases h; exact C
     · cases h
   · split at h
     · cases h
     · split at h
       · simp only [gM] at h;obtain ⟨⟨L,m1⟩,h1,h2⟩:=h;simp only [ig] at h2;obtain ⟨rfl,rfl⟩:=h2;obtain ⟨M,E⟩:=I _ _ _ _ _ h1 fun i hi=>by rw [getD_set_ne _ _ ab]; exact C i ab
         exact fun i hi=>by rw [getD_set_ne _ _ ab]; exact E i hi
       · cases h
theorem MU {f nx:Nat} {mk:List Nat} {es:List (UInt8×Int)} {s:Nat×List Nat} (h:fT a f nx mk es=some s) (A:∀ i,nx≤i→mk.getD i 0=0):∀ i,s.1≤i→s.2.getD i 0=0:=by
 unfold fT at h
 induction es generalizing nx mk with
 | nil=>simp only [pX,qh,bK] at h; subst h; exact A
 | cons e es ih=>
   simp only [pW,qe,qf] at h;obtain ⟨⟨C,m1⟩,h1,h2⟩:=h;exact ih h2<|MR f h1 A
theorem tO (h:¬(0 < a.length∧a.length≤1048576)):shaped a=false :=by grind [shaped]
theorem Dn (h:vs a (a.length+1) (0,dr a.length 0) 0=none):shaped a=false :=by
 unfold shaped; rw [h,um]
theorem tQ {s:Nat×List Nat} (h1:0 < a.length) (A:a.length≤1048576) (h:vs a (a.length+1) (0,dr a.length 0) 0=some s):shaped a=decide (s.1=a.length):=by grind [shaped]
def vq (a:List aJ) (i:Nat):Nat:=min (eZ a i).length 1099511627777
end
end Go.Hb
namespace Go.Hb
structure kN (h:Array Obj) (ea:Option Addr) (es:List (UInt8×Int)):Prop where
 ok:0 < es.length→ea=some ⟨bk ea,fo ea,none⟩
 b:∀ k e,es[k]? =some e→ax h (bk ea) (fo ea+k*2 +0)=some (.int .u8 e.1.toNat)
 to:∀ k e,es[k]? =some e→ax h (bk ea) (fo ea+k*2 +1)=some (.int .i64 e.2)
theorem kN.wk {w w':ah} {A:Option Addr} {es:List (UInt8×Int)} (h:kN w.heap A es) (hm:Wk w w'):kN w'.heap A es:=⟨h.ok,fun k e he=>hm.ax (h.b k e he),fun k e he=>hm.ax<|h.to k e he⟩
theorem yw {h:Array Obj} {b o:Nat} {u v:ag} (h0:ax h b (o+0)=some u) (h1:ax h b (o+1)=some v):∀ j,j < 2→ax h b (o+j)= [u,v][j]? :=by grind
theorem kN.two {h:Array Obj} {A:Option Addr} {es:List (UInt8×Int)} (C:kN h A es) {k:Nat} {e:UInt8×Int} (he:es[k]? =some e):∀ j,j < 2→ax h (bk A) (fo A+k*2 +j)= [Value.int .u8 e.1.toNat,.int .i64 e.2][j]? :=yw (C.b k e he)<|C.to k e he
structure ej (h:Array Obj) (aa:Option Addr) (a:List aJ):Prop where
 ok:0 < a.length→aa=some ⟨bk aa,fo aa,none⟩
 st:∀ i,i < a.length→∃ ea ec,ax h (bk aa) (fo aa+i*2 +0)=some (.bool (aA a i).1)∧ax h (bk aa) (fo aa+i*2 +1)=some (.slice ea (aA a i).2.length ec)∧kN h ea (aA a i).2
theorem ej.wk {w w':ah} {aa:Option Addr} {a:List aJ} (h:ej w.heap aa a) (hm:Wk w w'):ej w'.heap aa a:=
 ⟨h.ok,fun i hi=>by
  obtain ⟨A,C,h1,E,I⟩:=h.st i hi;exact ⟨A,C,hm.ax h1,hm.ax E,I.wk hm⟩⟩
theorem ej.two {h:Array Obj} {aa:Option Addr} {a:List aJ} (J:ej h aa a) {i:Nat} (hi:i < a.length):∃ A C,(∀ j,j < 2→ax h (bk aa) (fo aa+i*2 +j)= [Value.bool (aA a i).1,.slice A (aA a i).2.length C][j]?)∧kN h A (aA a i).2:=by
 obtain ⟨A,C,h1,E,I⟩:=J.st i hi;exact ⟨A,C,yw h1 E,I⟩
theorem CC {w:ah} {B e size n b:Nat} {xs:List ag} (h:w.ownsRow B e size (.slice (some ⟨b,0,none⟩) n n) n xs):az w.heap b xs:=by
 rcases h.2 with ⟨hn,_⟩ | ⟨g,cap,cur,C,_,E,_,_,I,A⟩
 · cases hn
 · simp only [pT,bK,Addr.mk.injEq,and_true,true_and] at C;obtain ⟨rfl,rfl⟩:=C;rw [jI (by rw [Array.length_toList,I]; exact aQ _)] at A;exact ⟨_,by rw [← A]; simpa using E⟩
theorem mz {w w':ah} {b o:Nat} {u v:ag} (hm:Wk w w') (h:∀ j,j < 2→ax w.heap b (o+j)= [u,v][j]?):∀ j,j < 2→ax w'.heap b (o+j)= [u,v][j]? :=yw (hm.ax<|h 0 ab)<|hm.ax<|h 1 ab
theorem Md.dg {F:Nat→Prop} {w w':ah} (h:Md F w.drew w'):Md F w w':=⟨h.os,h.output,h.size,h.dM⟩
def jP (n:Nat):ag:= .int .u8 n
theorem zN {h:Array Obj} {b:Nat} {f:Nat→ag} {mk:List Nat} {i:Nat} (hb:az h b (mk.map f)) (hi:i < mk.length):ax h b (0 +i*1)=some (f<|mk.getD i 0):=by
 rw [Nat.mul_one,cz,hb.ax,gu,bY,bC hi]; rfl
end Go.Hb
namespace Go.Hb
abbrev Nr:Type :=List UInt8×Nat
theorem KF {w:ah} {B t size n cap k:Nat} {ad:Option Addr} {xs:List ag} (h:w.ownsRow B t size (.slice ad n cap) n xs) (L:k≤n) (h0:0 < n):w.ownsRow B t size (.slice ad k cap) k (xs.take<|k*size):=by
 have Z:k*size≤n*size:=Nat.mul_le_mul_right _ L;obtain ⟨M,h | ⟨g,O,cur,h1,A,C,V,E,I,J⟩⟩:=h
 · have :=h.1;simp only [pT] at this; omega
 · simp only [pT,true_and] at h1;obtain ⟨rfl,rfl⟩:=h1;exact ⟨by rw [cO,M]; omega,.inr ⟨g,cap,cur,U,A,C,ab,E,I,by rw [← J,List.take_take,show min (k*size) (n*size)=k*size from by omega]⟩⟩
end Go.Hb
namespace Go.Hb
theorem LI (m:Nat):(m:Int).fdiv (2 ^ min (1:Int).toNat IntKind.u64.bits)=((m / 2:Nat):Int):=by
 show (m:Int).fdiv 2=_;rw [Int.fdiv_eq_ediv_of_nonneg _ ab]; rfl
section
variable {P:ar} {N:Fm} {σ:Nat→ag} {w:ah} {ty:av} {pos :String} {af:Array bQ} {g:Option (Nat×Bool)} {x y:aW} {K:(Nat→ag)→ah→Prop}
end
end Go.Hb
namespace Go.Hb
def Da (l:List Nr) (c d:Nat):List Nr:=(l.drop c).take<|d - c
end Go.Hb
namespace Go.Hb
end Go.Hb
end
section
namespace Go.Hb
def dN:List UInt8→Nat
 | []=>0
 | b::l=>b.toNat % 128 +128 *dN l
theorem xc:∀ (l m:List UInt8),dN (l++m)=dN l+128 ^ l.length*dN m
 | [],m=>by simp [dN]
 | b::l,m=>by
   rw [List.cons_append,dN,dN,xc l m,dC,uR,Nat.mul_add,← Nat.mul_assoc,Nat.mul_comm 128 (128 ^ l.length)]; omega
theorem sY:∀ (l:List UInt8),dN l < 128 ^ l.length
 | []=>by simp [dN]
 | b::l=>by
   have :=sY l;rw [dN,dC,uR]; omega
def gk (l:List UInt8):Nat:=((l.take 10).takeWhile fun b=>decide (128≤b.toNat)).length
theorem DV {f:UInt8→Bool} :∀ {l:List UInt8} {k:Nat},(∀ j,j < k→j < l.length∧f (l.getD j 0)=true)→(l.length≤k∨f (l.getD k 0)=false)→(l.takeWhile f).length=k
 | [],k,h,_=>by
   cases k with
   | zero=>rfl
   | succ k=>have :=(h 0 ab).1; simp at this
 | b::l,0,_,A=>by
   rcases A with A | A
   · simp at A
   · simp only [uD] at A;rw [FD,A]; rfl
 | b::l,k+1,h1,A=>by
   have h0:=(h1 0 ab).2;simp only [uD] at h0;rw [FD,h0,if_pos rfl,dC,DV (k:=k) (fun j C=>by have :=h1 (j+1) ab; simpa using this) (by simpa using A)]
theorem DO {l:List UInt8} {n j:Nat} (h:j < n):(l.take n).getD j 0=l.getD j 0:=by
 rw [bY,List.getElem?_take_of_lt h,bY]
theorem AE {l:List UInt8} {n j:Nat} :(l.drop n).getD j 0=l.getD (n+j) 0:=by
 rw [bY,iF,bY]
theorem j5 {s:List UInt8} {a k:Nat} (J:k≤10) (h:∀ j,j < k→a+j < s.length∧128≤(s.getD (a+j) 0).toNat) (A:k=10∨s.length≤a+k∨(s.getD (a+k) 0).toNat < 128):gk (s.drop a)=k:=by
 unfold gk;refine DV (fun j E=> ?_) ?_
 · obtain ⟨h1,C⟩:=h j E;refine ⟨by rw [cO,iG]; omega,?_⟩;rw [DO ab,AE];exact decide_eq_true C
 · rcases A with A | A | A
   · exact .inl<|by rw [cO]; omega
   · exact .inl<|by rw [cO,iG]; omega
   · by_cases I:k=10
     · exact .inl<|by rw [cO]; omega
     · refine .inr ?_;rw [DO ab,AE];exact decide_eq_false ab
def bc (s:List UInt8) (a:Nat):Except Nat (Nat×Nat):=
 if gk (s.drop a)=10 then .error 61 else if s.length≤a+gk (s.drop a) then .error 60
 else if (gk (s.drop a)=9∧1 < (s.getD (a+gk (s.drop a)) 0).toNat)∨(0 < gk (s.drop a)∧(s.getD (a+gk (s.drop a)) 0).toNat=0) then .error 61
 else .ok (dN ((s.drop a).take<|gk (s.drop a)+1),a+gk (s.drop a)+1)
section
variable {s:List UInt8} {a k n p:Nat}
theorem C2 (h:gk (s.drop a)=10):bc s a= .error 61:=by unfold bc; rw [if_pos h]
theorem tI (h:gk (s.drop a)=k) (A:k≠10) (C:s.length≤a+k):bc s a= .error 60:=by unfold bc; rw [h,if_neg A,if_pos C]
theorem pj (h:gk (s.drop a)=k) (C:k≠10) (E:a+k < s.length) (A:(k=9∧1 < (s.getD (a+k) 0).toNat)∨(0 < k∧(s.getD (a+k) 0).toNat=0)):bc s a= .error 61:=by
 unfold bc; rw [h,if_neg C,if_neg ab,if_pos A]
theorem tH (h:gk (s.drop a)=k) (C:k≠10) (E:a+k < s.length) (A:¬((k=9∧1 < (s.getD (a+k) 0).toNat)∨(0 < k∧(s.getD (a+k) 0).toNat=0))):bc s a= .ok (dN ((s.drop a).take<|k+1),a+k+1):=by
 unfold bc; rw [h,if_neg C,if_neg ab,if_neg A]
theorem jz (h:bc s a= .ok (n,p)):a < p∧p≤s.length∧n < 18446744073709551616:=by
 unfold bc at h;split at h
 · cases h
 · split at h
   · cases h
   · split at h
     · cases h
     · rename_i h1 M O;simp only [Except.ok.injEq,ig] at h;obtain ⟨rfl,rfl⟩:=h;refine ⟨ab,ab,?_⟩;have Z:gk (s.drop a)≤10:=by
        unfold gk;exact cn (List.takeWhile_sublist _).length_le<|by rw [cO]; omega
       generalize V:gk (s.drop a)=k at*;have L:=sY<|(s.drop a).take<|k+1;have hlen:((s.drop a).take<|k+1).length=k+1:=by rw [cO,iG]; omega
       by_cases J:k=9
       · subst J;rw [show (9:Nat)+1=10 from rfl,List.take_add_one,xc];have A:=sY<|(s.drop a).take 9;have E:((s.drop a).take 9).length=9:=by rw [cO,iG]; omega
         rw [E] at A ⊢;have I:(s.drop a)[9]? =some (s.getD (a+9) 0):=by
          rw [iF,bY,bC ab]; rfl
         rw [I];simp only [Option.toList_some,dN];have U:(s.getD (a+9) 0).toNat≤1:=ab;have C:(128:Nat) ^ 9=9223372036854775808:=aF;rw [C] at A ⊢;omega
       · rw [hlen] at L;have :(128:Nat) ^ (k+1)≤128 ^ 9:=Nat.pow_le_pow_right aF ab;have C:(128:Nat) ^ 9=9223372036854775808:=aF;omega
end
def cq {α:Type} (f:Nat→Except Nat (α×Nat)):Nat→Nat→Except Nat (List α×Nat)
 | 0,a=> .ok ([],a)
 | k+1,a=>match cq f k a with
   | .error e=> .error e
   | .ok (l,p)=>match f p with
     | .error e=> .error e
     | .ok (x,q)=> .ok (l++ [x],q)
section
variable {α:Type} {f:Nat→Except Nat (α×Nat)} {k n a p q e:Nat} {l:List α} {x:α}
theorem ma (h:cq f k a= .ok (l,p)) (A:f p= .ok (x,q)):cq f (k+1) a= .ok (l++ [x],q):=by rw [cq,h]; simp only [A]
theorem iy (h:cq f k a= .ok (l,p)) (A:f p= .error e) (hn:k < n):cq f n a= .error e:=by
 have h1:cq f (k+1) a= .error e:=by rw [cq,h]; simp only [A]
 obtain ⟨d,rfl⟩:∃ d,n=k+1 +d:=⟨n - (k+1),ab⟩
 clear hn
 induction d with
 | zero=>exact h1
 | succ d ih=>rw [← iI,cq,ih]
theorem iQ:∀ {k:Nat} {l:List α} {p:Nat},cq f k a= .ok (l,p)→l.length=k
 | 0,l,p,h=>by cases h; rfl
 | k+1,l,p,h=>by
   rw [cq] at h;split at h
   · cases h
   · rename_i C p2 A;split at h
     · cases h
     · cases h;rw [List.length_append,iQ A]; rfl
theorem nf {R:Nat→Prop} {S:α→Prop} (E:∀ p x q,R p→f p= .ok (x,q)→R q∧S x):∀ {k:Nat} {l:List α} {p:Nat},R a→cq f k a= .ok (l,p)→R p∧∀ x∈l,S x
 | 0,l,p,ha,h=>by cases h; exact ⟨ha,fun x C=>by simp at C⟩
 | k+1,l,p,ha,h=>by
   rw [cq] at h;split at h
   · cases h
   · rename_i U p2 I;obtain ⟨J,L⟩:=nf E ha I;split at h
     · cases h
     · rename_i x q C;cases h;obtain ⟨M,O⟩:=E _ _ _ J C;refine ⟨M,fun y A=> ?_⟩;rcases dH.1 A with A | A
       · exact L y A
       · rw [eh.1 A]; exact O
end
def cR (s:List UInt8) (a:Nat):Except Nat (List UInt8×Nat):=match bc s a with
 | .error e=> .error e
 | .ok (n,p)=>if 255 < n then .error 62 else if s.length < p+n then .error 60 else .ok ((s.drop p).take n,p+n)
def gD (s:List UInt8) (a:Nat):Except Nat ((List UInt8×List UInt8)×Nat):=match cR s a with
 | .error e=> .error e
 | .ok (f,p)=>match cR s p with
   | .error e=> .error e
   | .ok (t,q)=> .ok ((f,t),q)
def eo (s:List UInt8) (n a:Nat):Except Nat ((UInt8×Int)×Nat):=if s.length≤a then .error 60 else match bc s (a+1) with
 | .error e=> .error e
 | .ok (t,p)=>if n≤t then .error 190 else .ok ((s.getD a 0,(t:Int)),p)
def fE (s:List UInt8) (n a:Nat):Except Nat (aJ×Nat):=match bc s a with
 | .error e=> .error e
 | .ok (v,p)=>if 256 < v / 2 then .error 190 else match cq (eo s n) (v / 2) p with
   | .error e=> .error e
   | .ok (es,q)=> .ok ((decide (v % 2=1),es),q)
def cK (s:List UInt8) (a:Nat):Except Nat (List aJ×Nat):=match bc s a with
 | .error e=> .error e
 | .ok (n,p)=>if n=0∨1048576 < n then .error 190 else match cq (fE s n) n p with
   | .error e=> .error e
   | .ok (l,q)=>if shaped l=true then .ok (l,q) else .error 190
def gX (r:List UInt8×List UInt8):Bool:=decide (r.1≠[]) && (gh r.1 && decide (r.1.length≤32)) && (gh r.2 && decide (r.2.length≤32))
def ew (n:Nat) (t:List UInt8) (rs:List (List UInt8×List UInt8)):Bool:=decide (1≤n∧n≤64∧rs.length≤256) && (decide (t= []) || decide (letE t=(t,0))) && rs.all gX
structure dm where
 least:Nat
 tr:List UInt8
 db:List (List UInt8×List UInt8)
 au:List (List aJ)
def eW:List UInt8:= [72,66,75,49]
def gi (s:List UInt8) (n:Nat) (t:List UInt8) (rs:List (List UInt8×List UInt8)) (a:Nat):Except Nat dm:=
 if ew n t rs=true then match cq (cK s) 4 a with
  | .error e=> .error e
  | .ok (l,p)=>if p=s.length then .ok ⟨n,t,rs,l⟩ else .error 202
 else .error 201
def bI (s:List UInt8):Except Nat dm:=
 if s.take 4=eW then match bc s 4 with
  | .error e=> .error e
  | .ok (n,p1)=>match cR s p1 with
    | .error e=> .error e
    | .ok (t,p2)=>match bc s p2 with
      | .error e=> .error e
      | .ok (m,p3)=>if 256 < m then .error 201 else match cq (gD s) m p3 with
        | .error e=> .error e
        | .ok (rs,p4)=>gi s (if n≤64 then n else 0) t rs p4
 else .error 200
section
variable {s:List UInt8} {a n p:Nat}
theorem oO {f:List UInt8} (h:cR s a= .ok (f,p)):a < p∧p≤s.length∧f.length≤255:=by
 unfold cR at h;split at h
 · cases h
 · rename_i n q A;obtain ⟨h1,C,_⟩:=jz A;split at h
   · cases h
   · split at h
     · cases h
     · cases h;exact ⟨ab,ab,by rw [cO]; omega⟩
theorem La {r:List UInt8×List UInt8} (h:gD s a= .ok (r,p)):a < p∧p≤s.length∧r.1.length≤255∧r.2.length≤255:=by
 unfold gD at h;split at h
 · cases h
 · rename_i f q I;obtain ⟨h1,L,A⟩:=oO I;split at h
   · cases h
   · rename_i t O J;obtain ⟨M,C,E⟩:=oO J;cases h;exact ⟨ab,C,A,E⟩
theorem H6 {e:UInt8×Int} (h:eo s n a= .ok (e,p)):a < p∧p≤s.length∧0≤e.2∧e.2 < n:=by
 unfold eo at h;split at h
 · cases h
 · split at h
   · cases h
   · rename_i t q C;obtain ⟨h1,A,_⟩:=jz C;split at h
     · cases h
     · cases h;exact ⟨ab,A,by show (0:Int)≤(t:Int); omega,by show (t:Int) < n; omega⟩
theorem rl {x:aJ} (h:fE s n a= .ok (x,p)):a < p∧p≤s.length∧x.2.length≤256∧∀ e∈x.2,0≤e.2∧e.2 < n:=by
 unfold fE at h;split at h
 · cases h
 · rename_i v q L;obtain ⟨h1,I,_⟩:=jz L;split at h
   · cases h
   · split at h
     · cases h
     · rename_i es Z A;have V:=iQ A;obtain ⟨⟨U,J⟩,h5⟩:=nf (R:=fun p=>q≤p∧p≤s.length) (S:=fun e:UInt8×Int=>0≤e.2∧e.2 < n) (fun p x q' hr M=>by
        obtain ⟨O,C,E⟩:=H6 M;exact ⟨⟨ab,C⟩,E⟩) ⟨aQ _,I⟩ A
       cases h;exact ⟨ab,J,by show es.length≤256; omega,h5⟩
theorem C8 {l:List aJ} (h:cK s a= .ok (l,p)):a < p∧p≤s.length∧shaped l=true∧l.length≤1048576∧∀ x∈l,x.2.length≤256∧∀ e∈x.2,0≤e.2∧e.2 < l.length:=by
 unfold cK at h;split at h
 · cases h
 · rename_i n q M;obtain ⟨h1,I,_⟩:=jz M;split at h
   · cases h
   · split at h
     · cases h
     · rename_i ac ad A;have L:=iQ A;obtain ⟨⟨Z,J⟩,h5⟩:=nf (R:=fun p=>q≤p∧p≤s.length) (S:=fun x:aJ=>x.2.length≤256∧∀ e∈x.2,0≤e.2∧e.2 < n) (fun p x q' hr U=>by
        obtain ⟨V,C,E⟩:=rl U;exact ⟨⟨ab,C⟩,E⟩) ⟨aQ _,I⟩ A
       split at h
       · cases h;rename_i O;exact ⟨ab,J,O,ab,by rw [L]; exact h5⟩
       · cases h
structure dm.Is (s:List UInt8) (b:dm):Prop where
 least:1≤b.least∧b.least≤64
 Ko:b.db.length≤256
 db:∀ r∈b.db,r.1≠[]∧r.1.length≤32∧r.2.length≤32
 tr:b.tr.length≤255
 qV:b.au.length=4
 au:∀ l∈b.au,shaped l=true∧l.length≤1048576∧∀ x∈l,x.2.length≤256∧∀ e∈x.2,0≤e.2∧e.2 < l.length
theorem su {b:dm} (h:bI s= .ok b):b.Is s:=by
 unfold bI at h;split at h
 · split at h
   · cases h
   · rename_i n p1 h1;split at h
     · cases h
     · rename_i t p2 L;split at h
       · cases h
       · rename_i m p3 O;split at h
         · cases h
         · split at h
           · cases h
           · rename_i rs p4 U;generalize (if n≤64 then n else 0)=n0 at h;unfold gi at h;split at h
             · rename_i A;split at h
               · cases h
               · rename_i l p5 C;split at h
                 · cases h;unfold ew at A;simp only [a0,decide_eq_true_eq,List.all_eq_true] at A;obtain ⟨⟨⟨E,I,J⟩,_⟩,g4⟩:=A;refine ⟨⟨E,I⟩,J,fun r hr=> ?_,(oO L).2.2,iQ C,(nf (R:=fun _=>True) (fun p x q _ M=>⟨trivial,(C8 M).2.2⟩) trivial C).2⟩;have :=g4 r hr;unfold gX at this;simp only [a0,decide_eq_true_eq] at this;exact ⟨this.1.1,this.1.2.2,this.2.2⟩
                 · cases h
             · cases h
 · cases h
end
end Go.Hb
end
section
namespace Go.Hb
def ek {α:Type} (n:Nat) (base:Nat→α) (stp:Nat→(Nat→α)→α):Nat→Nat→α
 | 0,i=>base i
 | j+1,i=>if i=n - (j+1) then stp i (ek n base stp j) else ek n base stp j i
def jn {α:Type} (base:Nat→α) (stp:Nat→(Nat→α)→α):Nat→Nat→α
 | 0,k=>base k
 | j+1,k=>if k=j+1 then stp k (jn base stp j) else jn base stp j k
section
variable {α:Type} {n:Nat} {base:Nat→α} {stp:Nat→(Nat→α)→α}
theorem AA:∀ {j i:Nat},j≤n→i < n - j→ek n base stp j i=base i
 | 0,i,_,_=>rfl
 | j+1,i,hj,hi=>by
   rw [ek,if_neg ab];exact AA ab ab
theorem vE:∀ {j i:Nat},n≤i→j≤n→ek n base stp j i=base i
 | 0,i,_,_=>rfl
 | j+1,i,hi,hj=>by
   rw [ek,if_neg ab];exact vE hi ab
theorem vF {j i:Nat} (hi:n - j≤i):∀ {d:Nat},j+d≤n→ek n base stp (j+d) i=ek n base stp j i
 | 0,_=>rfl
 | d+1,h=>by
   rw [← iI,ek,if_neg ab];exact vF hi ab
theorem Az (loc:∀ i T A,(∀ k,i < k→k≤n→T k=A k)→stp i T=stp i A) {i:Nat} (hi:i < n):ek n base stp n i=stp i (ek n base stp n):=by
 have h1:ek n base stp n i=ek n base stp (n - i) i:=by
  have :=vF (n:=n) (base:=base) (stp:=stp) (j:=n - i) (i:=i) ab (d:=i) ab;rw [show n - i+i=n by omega] at this;exact this
 rw [h1];obtain ⟨j,C⟩:∃ j,n - i=j+1:=⟨n - i - 1,ab⟩
 rw [C,ek,if_pos ab];refine loc i _ _ fun k E I=> ?_;have :=vF (n:=n) (base:=base) (stp:=stp) (j:=j) (i:=k) ab (d:=n - j) ab;rw [show j+(n - j)=n by omega] at this;exact this.symm
theorem vG {j k:Nat} (A:k≤j):∀ {d:Nat},jn base stp (j+d) k=jn base stp j k
 | 0=>rfl
 | d+1=>by
   rw [← iI,jn,if_neg ab];exact vG A
theorem vH:∀ {j:Nat},jn base stp j 0=base 0
 | 0=>rfl
 | j+1=>by rw [jn,if_neg ab]; exact vH
theorem AB (loc:∀ k T A,(∀ i,i < k→T i=A i)→stp k T=stp k A) {k:Nat} (h0:0 < k) (C:k≤n):jn base stp n k=stp k (jn base stp n):=by
 have h1:=vG (base:=base) (stp:=stp) (j:=k) (k:=k) (aQ _) (d:=n - k);rw [show k+(n - k)=n by omega] at h1;rw [h1];obtain ⟨j,rfl⟩:∃ j,k=j+1:=⟨k - 1,ab⟩
 rw [jn,if_pos rfl];refine loc _ _ _ fun i hi=> ?_;have :=vG (base:=base) (stp:=stp) (j:=j) (k:=i) ab (d:=n - j);rw [show j+(n - j)=n by omega] at this;exact this.symm
end
theorem vZ {α β:Type} (p:β→Bool) (f:α→β→α):∀ (l:List β) (a:α),(l.filter p).foldl f a=l.foldl (fun a b=>if p b=true then f a b else a) a
 | [],_=>rfl
 | b::l,a=>by
   rw [List.filter_cons,jc];cases h:p b
   · simp only [lJ,if_false]; exact vZ p f l a
   · simp only [if_true,jc]; exact vZ p f l _
theorem qG {α β:Type} {f g:α→β→α} :∀ {l:List β} {a:α},(∀ x∈l,∀ a,f a x=g a x)→l.foldl f a=l.foldl g a
 | [],_,_=>rfl
 | b::l,a,h=>by
   rw [jc,jc,h b ie];exact qG fun x A=>h x<|ic _ A
theorem foldl_rel {α β A:Type} {f:α→A→α} {g:β→A→β} (R:α→β→Prop):∀ {l:List A} {a:α} {b:β},R a b→(∀ x∈l,∀ a b,R a b→R (f a x) (g b x))→R (l.foldl f a) (l.foldl g b)
 | [],_,_,h,_=>h
 | x::l,a,b,h,hs=>by
   rw [jc,jc];exact foldl_rel R (hs x ie _ _ h) fun y C=>hs y<|ic _ C
def dX:Nat:=1099511627776
section
variable (pc:Nat→Nat→Bool) (n:Nat)
def jE (i:Nat):List Nat:=(eL (i+1)<|n - i).filter<|pc i
def bd (i k:Nat):Bool:=pc i k && !(decide (i=0) && decide (k=n))
def fO (i:Nat) (T:Nat→Nat×Nat) (m:Nat×Nat) (k:Nat):Nat×Nat:=
 if (k < n∧(T k).1=0)∨(i=0∧k=n) then m else (if m.1=0∨(T k).1 +1≤m.1 then (T k).1 +1 else m.1,min (m.2+(T k).2) (dX+1))
def kn (i:Nat) (T:Nat→Nat×Nat):Nat×Nat:=(jE pc n i).foldl (fO n i T) (0,0)
def mb (i:Nat):Nat×Nat:=(0,if i=n then 1 else 0)
def jC:Nat→Nat×Nat:=ek n (mb n) (kn pc n) n
def wW (k:Nat) (T:Nat→Nat) (m i:Nat):Nat:=if pc i k=true∧(0 < i∨k < n) then (if dX < m+T i then dX+1 else m+T i) else m
def sV (k:Nat) (T:Nat→Nat):Nat:=(fX k).foldl (wW pc n k T) 0
def jW:Nat→Nat:=jn (fun k=>if k=0 then 1 else 0) (sV pc n) n
def qA (i:Nat) (T:Nat→Nat):Nat:=(eL (i+1)<|n - i).foldl (fun m k=>if bd pc n i k=true then m+T k else m) 0
def eB:Nat→Nat:=ek n (fun i=>if i=n then 1 else 0) (qA pc n) n
def qC (k:Nat) (T:Nat→Nat):Nat:=(fX k).foldl (fun m i=>if bd pc n i k=true then m+T i else m) 0
def eF:Nat→Nat:=jn (fun k=>if k=0 then 1 else 0) (qC pc n) n
end
section
variable {pc:Nat→Nat→Bool} {n:Nat}
theorem qP {i k:Nat} :k∈jE pc n i↔i < k∧k≤n∧pc i k=true :=by
 unfold jE;rw [mI,zg];constructor
 · rintro ⟨⟨h1,C⟩,A⟩; exact ⟨ab,ab,A⟩
 · rintro ⟨h1,C,A⟩; exact ⟨⟨ab,ab⟩,A⟩
theorem wT {i:Nat} (hi:i < n):jC pc n i=kn pc n i (jC pc n):=Az (stp:=kn pc n) (fun i T E h=>qG fun k C m=>by
 obtain ⟨h1,A,_⟩:=qP.1 C;unfold fO; rw [h k h1 A]) hi
theorem AF {i:Nat} (hi:i < n):eB pc n i=qA pc n i (eB pc n):=Az (stp:=qA pc n) (fun i T C h=>qG fun k A m=>by
 rw [zg] at A;rw [h k ab ab]) hi
theorem Jj {k:Nat} (h0:0 < k) (A:k≤n):jW pc n k=sV pc n k (jW pc n):=AB (stp:=sV pc n) (fun k T C h=>qG fun i hi m=>by
 rw [gL] at hi;unfold wW; rw [h i hi]) h0 A
theorem sB {k:Nat} (h0:0 < k) (A:k≤n):eF pc n k=qC pc n k (eF pc n):=AB (stp:=qC pc n) (fun k T C h=>qG fun i hi m=>by
 rw [gL] at hi;rw [h i hi]) h0 A
theorem sT:jC pc n n=(0,1):=by unfold jC; rw [vE (aQ _) (aQ _)]; simp [mb]
theorem vJ:eB pc n n=1:=by unfold eB; rw [vE (aQ _) (aQ _)]; simp
theorem Jk:jW pc n 0=1:=by unfold jW; rw [vH]; rfl
theorem qy:eF pc n 0=1:=by unfold eF; rw [vH]; rfl
theorem down (P:Nat→Prop) (he:P n) (E:∀ i,i < n→(∀ k,i < k→k≤n→P k)→P i):∀ i,i≤n→P i:=fun i hi=>by
 have :∀ d i,i≤n→n - i≤d→P i:=fun d=>by
  induction d with
  | zero=>intro i h1 A; rw [show i=n by omega]; exact he
  | succ d ih=>
    intro i h1 A;by_cases h:i=n
    · rw [h]; exact he
    · exact E i ab fun k I C=>ih k C ab
 exact this (n - i) i hi<|aQ _
theorem Ee:∀ i,i≤n→(jC pc n i).2=min (eB pc n i) (dX+1)∧(i < n→((jC pc n i).1=0↔eB pc n i=0)):=by
 refine down _ ⟨by rw [sT,vJ]; rfl,fun h=>by omega⟩ fun i hi ih=> ?_;rw [wT hi,AF hi];unfold kn qA jE;rw [vZ];have :=foldl_rel (f:=fun a b=>if pc i b=true then fO n i (jC pc n) a b else a) (g:=fun m k=>if bd pc n i k=true then m+eB pc n k else m) (fun (a:Nat×Nat) (b:Nat)=>a.2=min b (dX+1)∧(a.1=0↔b=0)) (l:=eL (i+1)<|n - i) (a:=(0,0)) (b:=0) ⟨by simp,by simp⟩ (fun k M a b C=>by
  rw [zg] at M;obtain ⟨h1,I⟩:=ih k ab ab;have J:k=n→eB pc n k=1∧(jC pc n k).1=0:=fun e=>by rw [e,vJ,sT]; exact ⟨rfl,rfl⟩
  unfold fO bd;cases hp:pc i k
  · simp only [lJ,if_false,EH]; exact C
  · by_cases E:i=0∧k=n
    · obtain ⟨rfl,rfl⟩:=E;simp only [if_true,and_self,or_true,decide_true,Bool.and_true,Bool.not_true,um,lJ,if_false]; exact C
    · have L:(true && !(decide (i=0) && decide (k=n)))=true :=by
       simp only [nX,jB,EG,decide_eq_false_iff_not];by_cases h:i=0
       · exact .inr fun e=>E ⟨h,e⟩
       · exact .inl h
      rw [L];simp only [if_true];by_cases A:k < n∧(jC pc n k).1=0
      · rw [if_pos (.inl A)];have :=(I A.1).1 A.2;rw [this]; exact C
      · rw [if_neg (by intro h; rcases h with h | h; exact A h; exact E h)];have U:eB pc n k≠0:=fun e=>by
         by_cases O:k=n
         · have :=(J O).1; omega
         · exact A ⟨ab,(I ab).2 e⟩
        refine ⟨?_,?_⟩
        · show min (a.2+(jC pc n k).2) _=_;rw [C.1,h1]; omega
        · show (if a.1=0∨(jC pc n k).1 +1≤a.1 then (jC pc n k).1 +1 else a.1)=0↔b+eB pc n k=0;split
          · omega
          · omega)
 exact ⟨this.1,fun _=>this.2⟩
theorem Ed:∀ k,k≤n→jW pc n k=min (eF pc n k) (dX+1):=by
 intro k
 induction k using FO with
 | ind k ih=>
   intro E;rcases Nat.eq_zero_or_pos k with rfl | h0
   · rw [Jk,qy]; rfl
   · rw [Jj h0 E,sB h0 E];unfold sV qC;refine foldl_rel (fun (a b:Nat)=>a=min b (dX+1)) (by simp) fun i hi a b A=> ?_;rw [gL] at hi;have h1:=ih i hi ab;unfold wW bd;cases hp:pc i k
     · simp only [lJ,false_and,if_false,EH]; exact A
     · by_cases C:i=0∧k=n
       · obtain ⟨rfl,rfl⟩:=C;rw [if_neg (by intro h; omega),if_neg (by simp)]; exact A
       · have I:(true && !(decide (i=0) && decide (k=n)))=true :=by
          simp only [nX,jB,EG,decide_eq_false_iff_not];by_cases h:i=0
          · exact .inr fun e=>C ⟨h,e⟩
          · exact .inl h
         rw [I,if_pos ⟨rfl,ab⟩];simp only [if_true];subst A;rw [h1];split <;> omega
theorem wb {β:Type} (p:β→Bool) (f:β→Nat):∀ (l:List β) (a:Nat),l.foldl (fun m x=>if p x=true then m+f x else m) a=a+(l.map fun x=>if p x=true then f x else 0).sum
 | [],a=>by simp
 | x::l,a=>by
   rw [jc,wb p f l,dG,kL];split <;> omega
def jw (pc:Nat→Nat→Bool) (n c:Nat):Nat:=((fX<|c+1).map fun i=>((eL (c+1)<|n - c).map fun k=>if bd pc n i k=true then eF pc n i*eB pc n k else 0).sum).sum
theorem DI {β:Type} (f g:β→Nat):∀ (l:List β),(l.map fun x=>f x+g x).sum=(l.map f).sum+(l.map g).sum
 | []=>rfl
 | x::l=>by
   simp only [dG,kL,DI f g l]; omega
theorem DG {β:Type} (a:Nat) (f:β→Nat):∀ (l:List β),(l.map fun x=>a*f x).sum=a*(l.map f).sum
 | []=>by simp
 | x::l=>by
   simp only [dG,kL,DG a f l,Nat.mul_add]
theorem DH {β:Type} (a:Nat) (f:β→Nat):∀ (l:List β),(l.map fun x=>f x*a).sum=(l.map f).sum*a
 | []=>by simp
 | x::l=>by
   simp only [dG,kL,DH a f l,Nat.add_mul]
theorem vK {i:Nat} (hi:i < n):eB pc n i=((eL (i+1)<|n - i).map fun k=>if bd pc n i k=true then eB pc n k else 0).sum:=by
 rw [AF hi]; unfold qA; rw [wb,cz]
theorem mY {k:Nat} (h0:0 < k) (A:k≤n):eF pc n k=((fX k).map fun i=>if bd pc n i k=true then eF pc n i else 0).sum:=by
 rw [sB h0 A]; unfold qC; rw [wb,cz]
theorem KP {a d:Nat} (h:0 < d):eL a d=a::eL (a+1) (d - 1):=by
 obtain ⟨e,rfl⟩:∃ e,d=e+1:=⟨d - 1,ab⟩
 rfl
theorem KE {c:Nat} (I:c+1 < n):jw pc n c=jw pc n (c+1):=by
 have h1:jw pc n c=((fX<|c+1).map fun i=>(if bd pc n i (c+1)=true then eF pc n i*eB pc n (c+1) else 0)+((eL (c+2)<|n - (c+1)).map fun k=>if bd pc n i k=true then eF pc n i*eB pc n k else 0).sum).sum:=by
  unfold jw;congr 1;refine kJ fun i _=> ?_;rw [KP ab,dG,kL,show n - c - 1=n - (c+1) by omega]
 have A:jw pc n (c+1)=((fX<|c+1).map fun i=>((eL (c+2)<|n - (c+1)).map fun k=>if bd pc n i k=true then eF pc n i*eB pc n k else 0).sum).sum+((eL (c+2)<|n - (c+1)).map fun k=>if bd pc n (c+1) k=true then eF pc n (c+1)*eB pc n k else 0).sum:=by
  unfold jw;rw [List.range_succ (n:=c+1),List.map_append,List.sum_append];simp
 have C:((fX<|c+1).map fun i=>if bd pc n i (c+1)=true then eF pc n i*eB pc n (c+1) else 0).sum=eF pc n (c+1)*eB pc n (c+1):=by
  rw [mY (k:=c+1) ab ab,← DH];congr 1;refine kJ fun i _=> ?_;split <;> simp
 have E:((eL (c+2)<|n - (c+1)).map fun k=>if bd pc n (c+1) k=true then eF pc n (c+1)*eB pc n k else 0).sum=eF pc n (c+1)*eB pc n (c+1):=by
  rw [vK (i:=c+1) I,← DG];congr 1;refine kJ fun i _=> ?_;split <;> simp
 rw [h1,A,DI,C,E]; omega
theorem HY (h0:0 < n):eB pc n 0=eF pc n n:=by
 have h1:jw pc n 0=eB pc n 0:=by
  unfold jw;rw [vK h0];simp only [cz,List.range_one,dG,List.map_nil,kL,List.sum_nil,Nat.add_zero,qy,Nat.one_mul]
 have A:jw pc n (n - 1)=eF pc n n:=by
  unfold jw;rw [mY h0 (aQ _),show n - (n - 1)=1 by omega,show n - 1 +1=n by omega];congr 1;refine kJ fun i _=> ?_;simp [vJ]
 rw [← h1,← A];have :∀ d,d≤n - 1→jw pc n 0=jw pc n d:=fun d=>by
  induction d with
  | zero=>intro _; rfl
  | succ d ih=>intro C; rw [ih ab,KE ab]
 exact this _<|aQ _
theorem MV (h0:0 < n):(jC pc n 0).2=jW pc n n:=by
 rw [(Ee 0<|Nat.zero_le _).1,Ed n (aQ _),HY h0]
def cI (pc:Nat→Nat→Bool) (n i k:Nat):Bool:=decide ((0 < i∨k < n)∧(k=n∨0 < (jC pc n k).1)∧(jC pc n k).1 +1=(jC pc n i).1)
def b9 (pc:Nat→Nat→Bool) (n i:Nat):Nat:=(((jE pc n i).filter<|cI pc n i).getLast?).getD n
theorem Iy {i:Nat} (hi:i < n):(jC pc n i).1≠0→∃ k∈jE pc n i,cI pc n i k=true :=by
 rw [wT hi];unfold kn;have I:∀ k∈jE pc n i,k≤n:=fun k A=>(qP.1 A).2.1;have :∀ (l:List Nat) (m:Nat×Nat),(∀ k∈l,k∈jE pc n i)→(l.foldl (fO n i<|jC pc n) m).1≠0→(l.foldl (fO n i<|jC pc n) m).1=m.1∨∃ k∈l,((0 < i∨k < n)∧(k=n∨0 < (jC pc n k).1)∧(jC pc n k).1 +1=(l.foldl (fO n i<|jC pc n) m).1):=fun l=>by
  induction l with
  | nil=>intro m _ _; exact .inl rfl
  | cons k l ih=>
    intro m hm C;rw [jc] at C ⊢;rcases ih _ (fun q E=>hm q<|ic _ E) C with h | ⟨q,E,h⟩
    · rw [h];unfold fO;have :=I k<|hm k ie;split
      · exact .inl U
      · rename_i h1;show (if m.1=0∨(jC pc n k).1 +1≤m.1 then (jC pc n k).1 +1 else m.1)=m.1∨_;split
        · refine .inr ⟨k,ie,ab,ab,?_⟩;rfl
        · exact .inl U
    · exact .inr ⟨q,ic _ E,h⟩
 intro C;rcases this _ (0,0) (fun k A=>A) C with h | ⟨k,A,h⟩
 · exact absurd h C
 · refine ⟨k,A,?_⟩;unfold cI;rw [wT hi];exact decide_eq_true h
theorem xD {i:Nat} (hi:i < n) (E:(jC pc n i).1≠0):b9 pc n i∈jE pc n i∧cI pc n i (b9 pc n i)=true :=by
 obtain ⟨k,I,C⟩:=Iy hi E;have A:(jE pc n i).filter (cI pc n i)≠[]:=fun e=>by
  have :=mI.2 ⟨I,C⟩;rw [e] at this; cases this
 unfold b9;rw [Fu A];exact mI.1<|List.getLast_mem A
theorem Kp {i k:Nat} (E:k∈jE pc n i) (A:cI pc n i k=true):k≤b9 pc n i:=by
 have hm:=mI.2 ⟨E,A⟩;have I:(jE pc n i).filter (cI pc n i)≠[]:=fun e=>by rw [e] at hm; cases hm
 have J:((jE pc n i).filter<|cI pc n i).Pairwise (· < ·):=((List.pairwise_lt_range' (s:=i+1) (n:=n - i)).filter _).filter _;unfold b9;rw [Fu I,List.getLast_eq_getElem];obtain ⟨j,C,rfl⟩:=uH.1 hm;simp only [Option.getD_some];by_cases h:j=((jE pc n i).filter<|cI pc n i).length - 1
 · subst h; exact aQ _
 · exact Nat.le_of_lt<|oh.1 J _ _ C ab ab
def gx (pc:Nat→Nat→Bool) (n i:Nat):Prop :=i=n∨(i < n∧(jC pc n i).1≠0)
theorem gx.next {i:Nat} (hi:i < n) (h:gx pc n i):i < b9 pc n i∧b9 pc n i≤n∧pc i (b9 pc n i)=true∧(0 < i∨b9 pc n i < n)∧(jC pc n<|b9 pc n i).1 +1=(jC pc n i).1∧gx pc n (b9 pc n i):=by
 have M:(jC pc n i).1≠0:=by
  rcases h with h | h
  · omega
  · exact h.2
 obtain ⟨h1,A⟩:=xD hi M;obtain ⟨C,E,I⟩:=qP.1 h1;unfold cI at A;obtain ⟨J,O,L⟩:=of_decide_eq_true A;refine ⟨C,E,I,J,L,?_⟩;unfold gx;omega
def jk (pc:Nat→Nat→Bool) (n:Nat):Nat→Nat→List (Nat×Nat)
 | 0,_=> []
 | f+1,i=>if i < n then (i,b9 pc n i)::jk pc n f (b9 pc n i) else []
theorem vu:∀ (f A i:Nat),gx pc n i→n - i≤f→n - i≤A→jk pc n f i=jk pc n A i
 | 0,0,_,_,_,_=>rfl
 | 0,A+1,i,_,h1,_=>by unfold jk; rw [if_neg ab]
 | f+1,0,i,_,_,h2=>by
   show jk pc n (f+1) i= []
   unfold jk; rw [if_neg ab]
 | f+1,A+1,i,ho,h1,h2=>by
   rw [jk,jk];split
   · rename_i hi;obtain ⟨E,I,_,_,_,C⟩:=ho.next hi
     rw [vu f A _ C ab ab]
   · rfl
theorem Ho {i:Nat} (f:Nat) (h:¬i < n):jk pc n f i= []:=by
 cases f
 · rfl
 · unfold jk; rw [if_neg h]
def iK (pc:Nat→Nat→Bool) (n i:Nat):List (Nat×Nat):=jk pc n (n - i) i
theorem vv:iK pc n n= []:=Ho _ ab
theorem vw {i:Nat} (hi:i < n) (h:gx pc n i):iK pc n i=(i,b9 pc n i)::iK pc n (b9 pc n i):=by
 obtain ⟨C,E,_,_,_,A⟩:=h.next hi
 unfold iK;rw [vu (n - i) (n - i - 1 +1) i h ab ab,jk,if_pos hi,vu (n - i - 1) (n - b9 pc n i) _ A ab ab]
theorem Hu (P:Nat→List (Nat×Nat)→Prop) (he:P n []) (U:∀ i,i < n→gx pc n i→i < b9 pc n i→b9 pc n i≤n→pc i (b9 pc n i)=true→(0 < i∨b9 pc n i < n)→(jC pc n<|b9 pc n i).1 +1=(jC pc n i).1→P (b9 pc n i) (iK pc n<|b9 pc n i)→P i ((i,b9 pc n i)::iK pc n (b9 pc n i))) {i:Nat} (h:gx pc n i):P i (iK pc n i):=by
 have :∀ d i,n - i≤d→gx pc n i→P i (iK pc n i):=fun d=>by
  induction d with
  | zero=>
    intro i O A;have :i=n:=by unfold gx at A; omega
    rw [this,vv]; exact he
  | succ d ih=>
    intro i O A;by_cases hi:i < n
    · obtain ⟨C,E,I,J,L,M⟩:=A.next hi
      rw [vw hi A];exact U i hi A C E I J L<|ih _ ab M
    · have :i=n:=by unfold gx at A; omega
      rw [this,vv]; exact he
 exact this (n - i) i (aQ _) h
theorem Hv {i:Nat} (h:gx pc n i):(iK pc n i).length=(jC pc n i).1:=by
 refine Hu (fun i l=>l.length=(jC pc n i).1) (by rw [sT]; rfl) (fun i hi L C E I J A ih=> ?_) h;rw [dC,ih,A]
end
section
variable {pc:Nat→Nat→Bool} {n i j:Nat} {T:Nat→Nat×Nat}
theorem Jl (hT:∀ k,(T k).1≤j) {m:Nat×Nat} (hm:m.1≤j+1∧m.2≤dX+1) (k:Nat):(fO n i T m k).1≤j+1∧(fO n i T m k).2≤dX+1:=by
 have :=hT k;unfold fO;split
 · exact hm
 · refine ⟨?_,Nat.min_le_right _ _⟩;show (if m.1=0∨(T k).1 +1≤m.1 then (T k).1 +1 else m.1)≤j+1;split <;> omega
theorem wU (hT:∀ k,(T k).1≤j):∀ (l:List Nat) (m:Nat×Nat),m.1≤j+1∧m.2≤dX+1→(l.foldl (fO n i T) m).1≤j+1∧(l.foldl (fO n i T) m).2≤dX+1
 | [],_,hm=>hm
 | k::l,_,hm=>wU hT l _<|Jl hT hm k
theorem vI:∀ (j k:Nat),(ek n (mb n) (kn pc n) j k).1≤j∧(ek n (mb n) (kn pc n) j k).2≤dX+1
 | 0,k=>by
   unfold ek mb;refine ⟨aQ _,?_⟩;show (if k=n then 1 else 0)≤dX+1;split <;> simp [dX]
 | j+1,k=>by
   have ih:=vI j;rw [ek];split
   · exact wU (fun k=>(ih k).1) _ _ ⟨by simp,by simp⟩
   · have :=ih k; omega
theorem HT (A:j≤n) (hi:i < n - j):ek n (mb n) (kn pc n) j i=(0,0):=by
 rw [AA A hi];unfold mb;rw [if_neg ab]
end
def cF (n:Nat) (g:Nat→Nat):List Nat:=(fX<|n+1).map g
theorem xT (n:Nat) (g:Nat→Nat):(cF n g).length=n+1:=by simp [cF]
theorem ka {n k:Nat} (g:Nat→Nat) (A:k≤n):(cF n g)[k]? =some (g k):=by
 unfold cF;rw [gu,List.getElem?_range ab]; rfl
theorem xS {n:Nat} {g h:Nat→Nat} (e:∀ k,k≤n→g k=h k):cF n g=cF n h:=by
 unfold cF;exact kJ fun k A=>e k<|by rw [gL] at A; omega
theorem tF {n i:Nat} (g:Nat→Nat) (a:Nat):(cF n g).set i a=cF n fun k=>if k=i then a else g k:=by
 apply List.ext_getElem?;intro k;by_cases A:k≤n
 · rw [ka _ A,List.getElem?_set,ka _ A,xT];by_cases h:i=k
   · subst h; rw [if_pos rfl,if_pos ab,if_pos rfl]
   · rw [if_neg h,if_neg (fun e=>h e.symm)]
 · have h1:=xT n fun k=>if k=i then a else g k
   have C:=xT n g;rw [jG (by rw [iH]; omega),jG ab]
theorem K9 (n:Nat):dr (n+1) 0=cF n fun _=>0:=by
 unfold cF;rw [List.map_const',List.length_range]
end Go.Hb
end
section
namespace Go.Hb
section
variable {P:ar} {N:Fm} {σ:Nat→ag} {w:ah} {dst:Option Nat} {ty:av} {pos :String} {af:Array bQ} {g:Option (Nat×Bool)} {x y:aW}
theorem vP (d:Nat) {t e:av} {a:Option Addr} {n c:Nat} (hu:P.underlying t=some (.slice e)):(Op.equalIn (d+1) t (.slice a n c)<|.slice none 0 0).run P w= .ok a.isNone w:=by
 cases a <;> simp [Op.equalIn,bB hu]
theorem Ig {t e:av} {a:Option Addr} {n c:Nat} (hu:P.underlying t=some (.slice e)):(Op.equal t (.slice a n c)<|.slice none 0 0).run P w= .ok a.isNone w:=vP 9999 hu
theorem vQ {t E e:av} {a:Option Addr} {n c:Nat} (hu:P.underlying t=some (.slice e)) (A:ev N σ x= .slice a n c) (C:ev N σ y= .slice none 0 0):
 (execOp (ev N σ) ⟨dst,.binOp .eql t x y E,ty,pos,af,g⟩).run P w= .ok (.value<|.bool a.isNone) w:=by
 have h:(binOp .eql t (.slice a n c)<|.slice none 0 0).run P w= .ok (.bool a.isNone) w:=by
  simp only [binOp]; simp [Ig hu]
 simp [execOp,A,C,eqGuard,h]
end
section
variable {P:ar} {N:Fm} {σ:Nat→ag} {w:ah} {dst:Option Nat} {ty:av} {pos :String} {af:Array bQ} {g:Option (Nat×Bool)} {x y z u:aW} {K:(Nat→ag)→ah→Prop}
theorem LK {t n len cap:Nat} {a:Option Addr} {k I J:bA} {i j m:Nat} (he:cY P t=some n) (A:ev N σ x= .slice a len cap) (C:ev N σ y= .int k (i:Nat)) (E:ev N σ z= .int I (j:Nat)) (hu:ev N σ u= .int J (m:Nat)) (h:i≤j∧j≤m∧m≤cap):
 (execOp (ev N σ) ⟨dst,.slice t x (some y) (some z) (some u),ty,pos,af,g⟩).run P w= .ok (.value<|.slice (ez a m i n) (j - i)<|m - i) w:=by
 have h1:(0:Int)≤(i:Int):=ab;have L:(0:Int)≤(j:Int):=ab;have M:(0:Int)≤(m:Int):=ab;unfold cY at he;cases hd:P.underlying t with
 | none=>rw [hd] at he; cases he
 | some d=>
   rw [hd] at he;cases d <;> first | (cases he; done) | skip
   rename_i e;cases hi':P.info? e with
   | none=>simp [hi'] at he
   | some q=>
     simp only [hi',fG,bK] at he;subst he;simp only [execOp,n4,Instr.slice,A,C,E,hu,fG,kG,Instr.sliceBound,asIntOf];simp [bB hd,dj hi',sizeOf,h.1,h.2.1,h.2.2,ez]
end
end Go.Hb
end
section
namespace Go.Hb
section
variable {P:ar} {N:Fm} {σ:Nat→ag} {w:ah} {ops:Array Oper} {Q:Exit→(Nat→ag)→ah→Prop} {S:ah→Prop} {fuel:Nat} {listed:Array Bool}
theorem lB (a:Array Bool) (i j:Nat):(a.setIfInBounds i true).setIfInBounds j true =(a.setIfInBounds j true).setIfInBounds i true :=by
 apply Array.ext
 · simp
 · intro k h1 A
   grind
theorem D5 {i s:Nat} {a:ag} :aV σ i a s=if s=i then a else σ s:=by
 unfold aV;by_cases h:s=i
 · subst h; simp
 · rw [if_neg h];cases hb:Nat.beq s i
   · rfl
   · exact absurd (Nat.eq_of_beq_eq_true hb) h
theorem lD {i j:Nat} (h:i≠j) (a b:ag):aV (aV σ i a) j b=aV (aV σ j b) i a:=by
 funext s;simp only [D5];by_cases h1:s=j
 · subst h1;rw [if_pos rfl,if_neg (Ne.symm h),if_pos rfl]
 · rw [if_neg h1,if_neg h1]
theorem kC {rs:List Nat} (hr:(dx .any ops listed==rs)=true) (I:rs≠[]) (h:∀ i∈rs,∃ o,ops[i]? =some o∧o.guard=none∧bW P N o σ w (fun σ w=>S w∧cm P N ops Q S fuel (listed.setIfInBounds i true) σ w)):cm P N ops Q S (fuel+1) listed σ w:=by
 unfold cm;refine wpAnyH_all (rs:=rs) (by simpa using hr) I ?_;intro q J;obtain ⟨o,h1,C,E⟩:=h q J;unfold wpOp;simp only [h1];rw [if_pos (fq _ C _)];exact .inl<|pI E fun _ _ A=>by unfold cm at A; exact A
def rZ (P:ar) (N:Fm) (F:List Nat) (σ:Nat→ag) (o:Oper) (d:Nat) (V:Nat→ag) (R:Nat→ah→Prop):Prop :=
 ∀ (σ':Nat→ag) (w':ah) (K:(Nat→ag)→ah→Prop),(∀ s,s∉F→σ' s=σ s)→(∀ b A,b=w'.heap.size→Nw w' A→R b A→K (aV σ' d<|V b) A)→bW P N o σ' w' K
theorem xC {F:List Nat} {d t e bytes n:Nat} {ty:av} {pos :String} {af:Array bQ} {x y:aW} {V U:bA} {zv:ag} (J:dU P t e 1 bytes=true) (O:zeroOf P e=some (some [zv])) (h1:zv.oneCell'=true)
 (L:∀ σ':Nat→ag,(∀ s,s∉F→σ' s=σ s)→ev N σ' x= .int V n) (M:∀ σ':Nat→ag,(∀ s,s∉F→σ' s=σ s)→ev N σ' y= .int U n) (hb:bytes*n≤281474976710656) (C:n≤maxLen):
 rZ P N F σ ⟨some d,.makeSlice t x y,ty,pos,af,none⟩ d (fun b=> .slice (some ⟨b,0,none⟩) n n) (fun b w'=> ∀ B,B≤b→w'.ownsRow B e 1 (.slice (some ⟨b,0,none⟩) n n) n (dr n zv)):=
 fun σ' _ _ A k=>gB J O h1 (L σ' A) (M σ' A) hb C fun b Z E hn I=>k b Z E hn I
theorem J8 (i j k:Nat) {ak al am:Oper} {d1 d2 d3:Nat} {Z ac aj:Nat→ag} {R1 az aA:Nat→ah→Prop} (ao:ak.guard=none) (ap:al.guard=none) (aq:am.guard=none) (hi:ops[i]? =some ak) (ar:ops[j]? =some al) (au:ops[k]? =some am)
 (r0:((dx .any ops listed)== [i,j,k])=true) (aO:((dx .any ops<|listed.setIfInBounds i true)== [j,k])=true) (aP:((dx .any ops<|listed.setIfInBounds j true)== [i,k])=true) (aQ:((dx .any ops<|listed.setIfInBounds k true)== [i,j])=true)
 (aJ:gU ops ((listed.setIfInBounds i true).setIfInBounds j true) k=true) (aK:gU ops ((listed.setIfInBounds i true).setIfInBounds k true) j=true) (aL:gU ops ((listed.setIfInBounds j true).setIfInBounds k true) i=true)
 (aG:d1≠d2) (aH:d1≠d3) (aI:d2≠d3)
 (s1:rZ P N [d1,d2,d3] σ ak d1 Z R1) (s2:rZ P N [d1,d2,d3] σ al d2 ac az) (av:rZ P N [d1,d2,d3] σ am d3 aj aA)
 (m1:∀ b w w',R1 b w→Wk w w'→R1 b w') (aE:∀ b w w',az b w→Wk w w'→az b w') (aF:∀ b w w',aA b w→Wk w w'→aA b w')
 (U:∀ w',Wk w w'→S w')
 (c:∀ (L M O:Nat) (w':ah),w.heap.size≤L→w.heap.size≤M→w.heap.size≤O→L≠M→L≠O→M≠O→w.heap.size < w'.heap.size→Wk w w'→R1 L w'→az M w'→aA O w'→cm P N ops Q S fuel (((listed.setIfInBounds i true).setIfInBounds j true).setIfInBounds k true) (aV (aV (aV σ d1<|Z L) d2<|ac M) d3<|aj O) w'):cm P N ops Q S (fuel+3) listed σ w:=by
 have off :∀ {s:Nat} {σ':Nat→ag} {d:Nat} {v:ag},d∈[d1,d2,d3]→s∉[d1,d2,d3]→aV σ' d v s=σ' s:=fun {s σ' d v} aR I=>by
  rw [D5,if_neg (fun e=>I<|by rw [e]; exact aR)]
 refine kC r0 (by simp) ?_;intro q A;simp only [ef,uM,or_false] at A;rcases A with A | A | A <;> rw [A]
 · refine ⟨ak,hi,ao,s1 _ _ _ (fun _ _=>rfl) fun L aM aB J ad=>⟨U _ J.md,?_⟩⟩;have aN:=J.size;refine kC aO (by simp) ?_;intro q A;simp only [ef,uM,or_false] at A;rcases A with A | A <;> rw [A]
   · refine ⟨al,ar,ap,s2 _ _ _ (fun s I=>off (by simp) I) fun M aw aC C ae=>⟨U _ (J.md.trans C.md),?_⟩⟩;have ax:=C.size;refine kC aJ (by simp) ?_;intro q A;have A:=eh.1 A;rw [A];refine ⟨am,au,aq,av _ _ _ (fun s I=>by rw [off (by simp) I,off (by simp) I]) fun O V aD E ai=>⟨U _ ((J.md.trans C.md).trans E.md),?_⟩⟩;have ay:=E.size;have :=c L M O V ab ab ab ab ab ab ab ((J.md.trans C.md).trans E.md) (m1 _ _ _ ad<|C.md.trans E.md) (aE _ _ _ ae E.md) ai;exact this
   · refine ⟨am,au,aq,av _ _ _ (fun s I=>off (by simp) I) fun O aw aD C ai=>⟨U _ (J.md.trans C.md),?_⟩⟩;have ax:=C.size;refine kC aK (by simp) ?_;intro q A;have A:=eh.1 A;rw [A];refine ⟨al,ar,ap,s2 _ _ _ (fun s I=>by rw [off (by simp) I,off (by simp) I]) fun M V aC E ae=>⟨U _ ((J.md.trans C.md).trans E.md),?_⟩⟩;have ay:=E.size;have :=c L M O V ab ab ab ab ab ab ab ((J.md.trans C.md).trans E.md) (m1 _ _ _ ad<|C.md.trans E.md) ae<|aF _ _ _ ai E.md;rw [lB (listed.setIfInBounds i true) j k,lD (σ:=aV σ d1<|Z L) aI (ac M) (aj O)] at this;exact this
 · refine ⟨al,ar,ap,s2 _ _ _ (fun _ _=>rfl) fun M aM aC J ae=>⟨U _ J.md,?_⟩⟩;have aN:=J.size;refine kC aP (by simp) ?_;intro q A;simp only [ef,uM,or_false] at A;rcases A with A | A <;> rw [A]
   · refine ⟨ak,hi,ao,s1 _ _ _ (fun s I=>off (by simp) I) fun L aw aB C ad=>⟨U _ (J.md.trans C.md),?_⟩⟩;have ax:=C.size;rw [lB listed j i];refine kC aJ (by simp) ?_;intro q A;have A:=eh.1 A;rw [A];refine ⟨am,au,aq,av _ _ _ (fun s I=>by rw [off (by simp) I,off (by simp) I]) fun O V aD E ai=>⟨U _ ((J.md.trans C.md).trans E.md),?_⟩⟩;have ay:=E.size;have :=c L M O V ab ab ab ab ab ab ab ((J.md.trans C.md).trans E.md) (m1 _ _ _ ad E.md) (aE _ _ _ ae<|C.md.trans E.md) ai;rw [lD (σ:=σ) aG (Z L) (ac M)] at this;exact this
   · refine ⟨am,au,aq,av _ _ _ (fun s I=>off (by simp) I) fun O aw aD C ai=>⟨U _ (J.md.trans C.md),?_⟩⟩;have ax:=C.size;refine kC aL (by simp) ?_;intro q A;have A:=eh.1 A;rw [A];refine ⟨ak,hi,ao,s1 _ _ _ (fun s I=>by rw [off (by simp) I,off (by simp) I]) fun L V aB E ad=>⟨U _ ((J.md.trans C.md).trans E.md),?_⟩⟩;have ay:=E.size;have :=c L M O V ab ab ab ab ab ab ab ((J.md.trans C.md).trans E.md) ad (aE _ _ _ ae<|C.md.trans E.md)<|aF _ _ _ ai E.md;rw [lB listed i j,lB (listed.setIfInBounds j true) i k,lD (σ:=σ) aG (Z L) (ac M),lD (σ:=aV σ d2<|ac M) aH (Z L) (aj O)] at this;exact this
 · refine ⟨am,au,aq,av _ _ _ (fun _ _=>rfl) fun O aM aD J ai=>⟨U _ J.md,?_⟩⟩;have aN:=J.size;refine kC aQ (by simp) ?_;intro q A;simp only [ef,uM,or_false] at A;rcases A with A | A <;> rw [A]
   · refine ⟨ak,hi,ao,s1 _ _ _ (fun s I=>off (by simp) I) fun L aw aB C ad=>⟨U _ (J.md.trans C.md),?_⟩⟩;have ax:=C.size;rw [lB listed k i];refine kC aK (by simp) ?_;intro q A;have A:=eh.1 A;rw [A];refine ⟨al,ar,ap,s2 _ _ _ (fun s I=>by rw [off (by simp) I,off (by simp) I]) fun M V aC E ae=>⟨U _ ((J.md.trans C.md).trans E.md),?_⟩⟩;have ay:=E.size;have :=c L M O V ab ab ab ab ab ab ab ((J.md.trans C.md).trans E.md) (m1 _ _ _ ad E.md) ae<|aF _ _ _ ai<|C.md.trans E.md;rw [lB (listed.setIfInBounds i true) j k,lD (σ:=aV σ d1<|Z L) aI (ac M) (aj O),lD (σ:=σ) aH (Z L) (aj O)] at this;exact this
   · refine ⟨al,ar,ap,s2 _ _ _ (fun s I=>off (by simp) I) fun M aw aC C ae=>⟨U _ (J.md.trans C.md),?_⟩⟩;have ax:=C.size;rw [lB listed k j];refine kC aL (by simp) ?_;intro q A;have A:=eh.1 A;rw [A];refine ⟨ak,hi,ao,s1 _ _ _ (fun s I=>by rw [off (by simp) I,off (by simp) I]) fun L V aB E ad=>⟨U _ ((J.md.trans C.md).trans E.md),?_⟩⟩;have ay:=E.size;have :=c L M O V ab ab ab ab ab ab ab ((J.md.trans C.md).trans E.md) ad (aE _ _ _ ae E.md)<|aF _ _ _ ai<|C.md.trans E.md;rw [lB listed i j,lB (listed.setIfInBounds j true) i k,lD (σ:=σ) aG (Z L) (ac M),lD (σ:=aV σ d2<|ac M) aH (Z L) (aj O),lD (σ:=σ) aI (ac M) (aj O)] at this;exact this
end
end Go.Hb
end
section
namespace Go.Hb
structure Gw (B:Nat) (fp:Nat→Prop) (w:ah) (fp':Nat→Prop) (w':ah):Prop where
 sub:∀ k,fp' k→fp k∨w.heap.size≤k
 dM:∀ (k:Nat) (cs:Array ag) (e:Nat) (z:Nat×Nat),B≤k→¬fp k→w.heap[k]? =some (.cells cs e z)→w'.heap[k]? =some (.cells cs e z)
 size:w.heap.size≤w'.heap.size
section
variable {B B':Nat} {fp fp' fp'':Nat→Prop} {w w' w'':ah}
theorem Gw.trans (h:Gw B fp w fp' w') (h':Gw B fp' w' fp'' w''):Gw B fp w fp'' w'':=
 ⟨fun k A=>(h'.sub k A).elim (h.sub k) (fun C=> .inr<|cn h.size C),
  fun k cs e z E hn A=>h'.dM k cs e z E (fun C=>(h.sub k C).elim hn fun I=>by have :=(dq.1 A).1; omega) (h.dM k cs e z E hn A),cn h.size h'.size⟩
theorem Gw.mono (h:Gw B fp w fp' w') (A:B≤B'):Gw B' fp w fp' w':=⟨h.sub,fun k cs e z C=>h.dM k cs e z (cn A C),h.size⟩
theorem Gw.md {G:Nat→Prop} (hm:Md G w w') (C:∀ k,G k→fp k∨k < B) (E:∀ k,fp' k→fp k∨w.heap.size≤k):Gw B fp w fp' w':=
 ⟨E,fun k cs e z J hn A=>by rw [hm.dM k (dq.1 A).1 (fun h=>(C k h).elim hn fun I=>by omega)]; exact A,hm.size⟩
theorem Gw.wk (hm:Wk w w'):Gw B fp w fp w':=Gw.md hm (fun _ h=>h.elim) fun _ h=> .inl h
end
def u0 {α:Type} (B:Nat) (A:List α→(Nat→Prop)→ah→Prop):Prop := ∀ pre fp W W' (F:Nat→Prop),A pre fp W→Md F W W'→(∀ k,F k→B≤k∧∀ cur e z,W.heap[k]? =some (.cells cur e z)→¬fp k)→A pre fp W'
section
variable {F fp:Nat→Prop} {W W':ah} {B:Nat}
theorem DJ {b e:Nat} {cs:Array ag} {z:Nat×Nat} (h:W.heap[b]? =some (.cells cs e z)) (hm:Md F W W') (hb:b < B) (A:∀ k,F k→B≤k∧∀ cur e z,W.heap[k]? =some (.cells cur e z)→¬fp k):W'.heap[b]? =some (.cells cs e z):=by
 rw [hm.dM b (dq.1 h).1 (fun C=>by have :=(A b C).1; omega)]; exact h
theorem Mq {w:ah} (h:Wk w W) (hm:Md F W W') (E:w.heap.size≤B) (A:∀ k,F k→B≤k∧∀ cur e z,W.heap[k]? =some (.cells cur e z)→¬fp k):Wk w W':=Md.trans' h hm fun k I C=>by have :=(A k C).1; omega
end
def F3 {α:Type} (B:Nat) (A:Bool→List α→(Nat→Prop)→ah→Prop):Prop := ∀ b pre fp W W' (F:Nat→Prop),A b pre fp W→Md F W W'→(∀ k,F k→B≤k∧¬fp k∧∃ cs e z,W.heap[k]? =some (.cells cs e z))→A b pre fp W'
structure Yc {α:Type} (P:ar) (l B:Nat) (encs:α→Array ag) (xs:List α) (Cap:ah→Prop) (J:Bool→List α→(Nat→Prop)→ah→Prop):Prop where
 cap:∀ b pre fp W,J b pre fp W→Cap W
 lt:∀ b pre fp W,J b pre fp W→∀ k,fp k→k < W.heap.size
 st:F3 B J
 yl:∀ pre x rest fp W1,xs=pre++x::rest→J true pre fp W1→YieldAt e7 0 P l (encs x) W1 fun e W'=> ∃ b,e= .returned (.bool b)∧∃ fp',J b (pre++ [x]) fp' W'∧Gw B fp W1 fp' W'
def zo {α:Type} (P:ar) (I:Nat) (J:Array ag) (E:α→Array ag) (xs:List α) (C:ah→Prop):Prop :=
 ∀ (l:Nat) (A:Bool→List α→(Nat→Prop)→ah→Prop) (W:ah),A true [] (fun _=>False) W→Yc P l W.heap.size E xs C A→
   Calls P I (#[.func (.yield l) #[] #[]]++J) W fun e W'=>(∃ v,e= .returned v)∧∃ b pre fp,A b pre fp W'∧pre <+:xs∧(b=true→pre=xs)
def K3 (id B:Nat) (fp:Nat→Prop) (W:ah) (R:(Nat→Prop)→ah→Prop) (X:Bool→(Nat→Prop)→ah→Prop):Exit→(Nat→ag)→ah→Prop
 | .normal,_,w=>bZ W w∧∃ fp',Gw B fp W fp' w∧R fp' w
 | .exit i,_,w=>i=id∧bZ W w∧∃ fp',Gw B fp W fp' w∧X false fp' w
 | .ret,_,w=>bZ W w∧∃ fp',Gw B fp W fp' w∧X true fp' w
 | _,_,_=>False
def wV (id:Nat):Bool→Code
 | true => .ret
 | false => .exit id
def JX {α:Type} (A:List α→(Nat→Prop)→ah→Prop) (X:Bool→List α→(Nat→Prop)→ah→Prop) (S:ah→Prop) (T:Bool→ah→Prop):Bool→List α→(Nat→Prop)→ah→Prop
 | true,pre,fp,W=>A pre fp W∧S W
 | false,pre,fp,W=> ∃ r,X r pre fp W∧T r W
theorem K7 {α:Type} {P:ar} {id n:Nat} {ad:List Deferred} {g:aW} {ps:Array Tmp} {aB body:Code} {Fx:List Nat} {σ:Nat→ag} {w:ah} {B:Exit→Act→ah→Prop} {ao:Nat} {ap:Array ag}
 (aj:α→Array ag) (xs:List α) (aE:ah→Prop) (I:List α→(Nat→Prop)→ah→Prop) (X:Bool→List α→(Nat→Prop)→ah→Prop) (a3:ev ⟨n,ad,Fx,none⟩ σ g= .func (.func ao) #[] ap) (aZ:ga P ao) (bb:∀ x,(aj x).size=ps.size)
 (a4:zo P ao ap aj xs aE) (aT:I [] (fun _=>False) w) (aJ:∀ pre fp W,I pre fp W→aE W∧∀ k,fp k→k < W.heap.size) (aK:∀ r pre fp W,X r pre fp W→aE W∧∀ k,fp k→k < W.heap.size) (ae:u0 w.heap.size I) (ax:∀ r,u0 w.heap.size (X r)) (A:α→Nat→ah→Prop) (aR:∀ x b W W' (F:Nat→Prop),A x b W→Md F W W'→(∀ k,F k→∀ cur e z,W.heap[k]?≠some (.cells cur e z))→A x b W') (aO:α→Nat→Nat→ag)
 (ha:∀ (l:Nat) (x:α) (W:ah) (K:(Nat→ag)→ah→Prop),(∀ b W',Wk W W'→A x b W'→K (aO x b) W')→bw P ⟨n,[],[],some l⟩ aB (gZ K fun _ _ _=>False) ((ps.toList.zip (aj x).toList).foldl (fun s p=>aV s p.1 p.2) σ) W)
 (hb:∀ (l:Nat) (pre:List α) (x:α) (rest:List α) (fp:Nat→Prop) (b:Nat) (W:ah),xs=pre++x::rest→I pre fp W→A x b W→bw P ⟨n,[],[],some l⟩ body (K3 id w.heap.size fp W (I<|pre++ [x]) fun r=>X r<|pre++ [x]) (aO x b) W)
 (a0:∀ (D:Nat) (W:ah),w.heap.size≤D→(∃ fp,I xs fp W)→W.heap[D]? =some (.deferred<|some [])→qb ⟨n,{target:= .collected D,args:= #[]} ::ad,Fx,none⟩ B .normal σ W)
 (bf:∀ (D:Nat) (W:ah) (pre:List α),w.heap.size≤D→pre <+:xs→(∃ fp,X false pre fp W)→W.heap[D]? =some (.deferred<|some [])→qb ⟨n,{target:= .collected D,args:= #[]} ::ad,Fx,none⟩ B .normal σ W)
 (bg:∀ (D:Nat) (W:ah) (pre:List α),w.heap.size≤D→pre <+:xs→(∃ fp,X true pre fp W)→W.heap[D]? =some (.deferred<|some [])→qb ⟨n,{target:= .collected D,args:= #[]} ::ad,Fx,none⟩ B .ret σ W):
 eY P ⟨n,ad,Fx,none⟩ (.block id<|.rangeFunc g ps aB body) B σ w:=by
 refine wpIn_block<|wpIn_rangeFunc ?_;intro fn _;obtain ⟨rc,ac⟩:∃ rc:LoopState→Option Code→Loop,rc=fun st bh=> {state:=st,pending:=bh,fn,tmps:=(act ⟨n,ad,Fx,none⟩ σ).tmps,params:=ps,assign:=aB,body,defers:=w.heap.size} :=⟨_,rfl⟩
 obtain ⟨L,aw⟩:∃ L,(w.alloc<|.deferred<|some []).alloc (.loop<|rc .ready none)=L:=⟨_,rfl⟩
 have aY:L.heap[w.heap.size+1]? =some (.loop<|rc .ready none):=by
  rw [← aw]; have :=E9 (w.alloc<|.deferred<|some []) (.loop<|rc .ready none); rwa [World.size_alloc] at this
 have aX:L.heap[w.heap.size]? =some (.deferred<|some []):=by
  rw [← aw]; exact (Below.heap_alloc _ _ _<|by simp).trans<|E9 w _
 have bj:L.heap.size=w.heap.size+2:=by rw [← aw]; simp
 have hn:∀ (W:ah) (o:Obj),Wk W (W.alloc o):=fun W o=>(Co W o).md;have aU:I [] (fun _=>False) L:=by rw [← aw]; exact ae _ _ _ _ _ (ae _ _ _ _ _ aT (hn _ _) fun _ h=>h.elim) (hn _ _) fun _ h=>h.elim
 have a1:(act ⟨n,ad,Fx,none⟩ σ).eval g= .func (.func ao) #[] ap:=by rw [dt]; exact a3
 refine ⟨w.heap.size+1,[{target:= .collected w.heap.size,args:= #[]}],L,{target:= .fn (.func ao) ap,args:= #[.func (.yield<|w.heap.size+1) #[] #[]]},L,ao,
  #[.func (.yield<|w.heap.size+1) #[] #[]]++ap,L,?_,?_,fun _ _=>trivial,?_,fun h0=>(by cases h0),?_⟩
 · rw [← aw,ac]; exact run_enterLoop_outer _ _ _ _ _
 · simp only [resolve,a1];simp [go_sem]
 · have :=aZ (#[.func (.yield<|w.heap.size+1) #[] #[]]++ap) L;simp [invoke,go_sem,this]
 ·
  have am:∀ (I:List α→(Nat→Prop)→ah→Prop),u0 w.heap.size I→∀ (pre:List α) (fp:Nat→Prop) (W:ah) (o aq:Obj),I pre fp W→W.heap[w.heap.size+1]? =some o→(∀ cur e z,o≠.cells cur e z)→I pre fp (W.putObj (w.heap.size+1) aq):=fun I ae pre fp W o aq h1 ak au=>
   ae _ _ _ _ _ h1 (xp W _ aq) fun k E=>⟨ab,fun cur e z av=>by subst E; rw [ak] at av; exact absurd (fH av)<|au _ _ _⟩
  have aL:∀ (fp:Nat→Prop) (W:ah) (o aq:Obj),W.heap[w.heap.size+1]? =some o→(∀ cur e z,o≠.cells cur e z)→Gw w.heap.size fp W fp (W.putObj (w.heap.size+1) aq):=fun fp W o aq ak au=>
   ⟨fun _ h=> .inl h,fun k cs e z _ _ E=>by
    rw [lM (fun h=>by subst h; rw [ak] at E; exact au _ _ _<|fH E)]; exact E,by simp [World.putObj]⟩
  have aG:∀ {F:Nat→Prop} {A C:ah},Md F A C→∀ (k:Nat) (o:Obj),A.heap[k]? =some o→¬F k→C.heap[k]? =some o:=fun hm k o az a2=>by
   rw [hm.dM k (dq.1 az).1 a2]; exact az
  refine callsIn_wide.2 (Calls.mono (a4 (w.heap.size+1)
   (JX I X (fun W=>W.heap[w.heap.size+1]? =some (.loop<|rc .ready none)∧W.heap[w.heap.size]? =some (.deferred<|some [])) fun r W=>W.heap[w.heap.size+1]? =some (.loop<|rc .done<|some<|wV id r)∧W.heap[w.heap.size]? =some (.deferred<|some []))
   L ⟨aU,aY,aX⟩ ⟨fun b pre fp W h=>match b,h with
    | true,h=>(aJ pre fp W h.1).1
    | false,⟨r,h,_⟩=>(aK r pre fp W h).1,fun b pre fp W h=>match b,h with
    | true,h=>(aJ pre fp W h.1).2
    | false,⟨r,h,_⟩=>(aK r pre fp W h).2,?_,?_⟩) ?_)
  · intro b pre fp A C F h hm aF;have aI:∀ k,F k→w.heap.size≤k∧∀ cur e z,A.heap[k]? =some (.cells cur e z)→¬fp k:=fun k E=>⟨by have :=(aF k E).1; omega,fun _ _ _ _=>(aF k E).2.1⟩
    have O:∀ (k:Nat) (o:Obj),A.heap[k]? =some o→(∀ cur e z,o≠.cells cur e z)→C.heap[k]? =some o:=fun k o az a9=>aG hm k o az fun E=>by
     obtain ⟨cs,e,z,aH⟩:=(aF k E).2.2; rw [az] at aH; exact a9 _ _ _<|fH aH
    cases b with
    | true =>exact ⟨ae _ _ _ _ _ h.1 hm aI,O _ _ h.2.1 (fun _ _ _ h=>by cases h),O _ _ h.2.2 fun _ _ _ h=>by cases h⟩
    | false =>
      obtain ⟨r,h1,ak,au⟩:=h;exact ⟨r,ax r _ _ _ _ _ h1 hm aI,O _ _ ak (fun _ _ _ h=>by cases h),O _ _ au fun _ _ _ h=>by cases h⟩
  · rintro pre x rest fp W bd ⟨hi,J,E⟩;have aM:=run_yield (P:=P) (args:=aj x) J<|by rw [ac]; exact bb x
    rw [ac] at aM;refine ⟨fn,_,aB,body,aM,roundIn_of_wpIn (F:=e7) trivial ?_⟩;have bc:((ps.zip<|aj x).foldl (fun tmps (p:Tmp×ag)=>tmps.setIfInBounds p.1 p.2) (act ⟨n,ad,Fx,none⟩ σ).tmps)=(act ⟨n,[],[],some<|w.heap.size+1⟩<|(ps.toList.zip (aj x).toList).foldl (fun s p=>aV s p.1 p.2) σ).tmps:=by
     rw [← Array.foldl_toList,Array.toList_zip];exact zw ⟨n,[],[],some<|w.heap.size+1⟩ _ σ
    have h1:=ha (w.heap.size+1) x W (fun σ' W'=> ∃ aN,(Instr.beginRound<|w.heap.size+1).run P W'= .ok () aN∧
     body.wpIn (e7.inRound<|w.heap.size+1) 0 P (roundPost P (w.heap.size+1) fun e W'=> ∃ b,e= .returned (.bool b)∧∃ fp',JX I X (fun W=>W.heap[w.heap.size+1]? =some (.loop<|rc .ready none)∧W.heap[w.heap.size]? =some (.deferred<|some [])) (fun r W=>W.heap[w.heap.size+1]? =some (.loop<|rc .done<|some<|wV id r)∧W.heap[w.heap.size]? =some (.deferred<|some [])) b (pre++ [x]) fp' W'∧Gw L.heap.size fp W fp' W') (act ⟨n,[],[],some<|w.heap.size+1⟩ σ') aN) ?_
    · unfold bw at h1;have aP:({tmps:=(ps.zip<|aj x).foldl (fun tmps (p:Tmp×ag)=>tmps.setIfInBounds p.1 p.2) (act ⟨n,ad,Fx,none⟩ σ).tmps,defers:= []} :Act)=act ⟨n,[],[],some<|w.heap.size+1⟩ ((ps.toList.zip (aj x).toList).foldl (fun s p=>aV s p.1 p.2) σ):=by rw [bc]; rfl
      rw [aP];refine wpIn_mono h1 ?_;intro e a w' Z;cases e with
      | normal=>obtain ⟨σ',rfl,ai⟩:=Z; exact ai
      | panic c=>obtain ⟨σ',rfl,ai⟩:=Z; exact ai σ' fun _ _=>rfl
      | outgrown=>exact Z.elim
      | _=>obtain ⟨σ',rfl,ai⟩:=Z; exact ai
    intro b V aC aS;have hi:=ae _ _ _ _ _ hi aC fun _ h=>h.elim;have J:=aG aC _ _ J fun h=>h;have E:=aG aC _ _ E fun h=>h;have a8:w.heap.size+1 < V.heap.size:=(dq.1 J).1;refine ⟨_,run_beginRound J (by rw [ac]),?_⟩;have a7:(V.putObj (w.heap.size+1)<|.loop {rc .ready none with state:= .busy}).heap[w.heap.size+1]? =some (.loop {rc .ready none with state:= .busy}):=uy a8;have a5:(V.putObj (w.heap.size+1)<|.loop {rc .ready none with state:= .busy}).heap[w.heap.size]? =some (.deferred<|some []):=(lM ab).trans E;have ba:=aL fp V _ (.loop {rc .ready none with state:= .busy}) J fun _ _ _ h=>by cases h
    have ak:=hb (w.heap.size+1) pre x rest fp b _ bd (am I ae _ _ _ _ (.loop {rc .ready none with state:= .busy}) hi J fun _ _ _ h=>by cases h)<|aR _ _ _ _ _ aS (xp V (w.heap.size+1) _) fun k E cur e z av=>by subst E; rw [J] at av; cases av
    unfold bw at ak;refine wpIn_mono ak ?_;have fin:∀ (j:Option Code) (fp':Nat→Prop) (M:ah),bZ (V.putObj (w.heap.size+1)<|.loop {rc .ready none with state:= .busy}) M→Gw w.heap.size fp (V.putObj (w.heap.size+1)<|.loop {rc .ready none with state:= .busy}) fp' M→
     (Instr.endRound (w.heap.size+1) j).run P M= .ok (.bool j.isNone) (M.putObj (w.heap.size+1)<|.loop<|rc (if j.isNone then .ready else .done) j)∧
     M.heap[w.heap.size+1]? =some (.loop {rc .ready none with state:= .busy})∧
     (M.putObj (w.heap.size+1)<|.loop<|rc (if j.isNone then .ready else .done) j).heap[w.heap.size+1]? =some (.loop<|rc (if j.isNone then .ready else .done) j)∧
     (M.putObj (w.heap.size+1)<|.loop<|rc (if j.isNone then .ready else .done) j).heap[w.heap.size]? =some (.deferred<|some [])∧
     Gw L.heap.size fp W fp' (M.putObj (w.heap.size+1)<|.loop<|rc (if j.isNone then .ready else .done) j):=fun j fp' M O al=>by
     have aD:=O _ _ a7 ⟨(fun _ _ _ h=>by cases h),fun _ _ h=>by cases h⟩;have a6:=O _ _ a5 ⟨(fun _ _ _ h=>by cases h),fun _ _ h=>by cases h⟩;have hr:=run_endRound (P:=P) j aD;refine ⟨?_,aD,uy (dq.1 aD).1,(lM ab).trans a6,((((Gw.wk aC).trans ba).trans al).trans<|aL fp' _ _ _ aD fun _ _ _ h=>by cases h).mono ab⟩;rw [ac] at hr ⊢;exact hr
    intro e a M Z;cases e with
    | normal=>
      obtain ⟨σ',rfl,O,fp',al,ay⟩:=Z;obtain ⟨f1,f2,f3,f4,f5⟩:=fin none fp' M O al;exact ⟨_,_,f1,true,U,fp',⟨am I ae _ _ _ _ _ ay f2 (fun _ _ _ h=>by cases h),f3,f4⟩,f5⟩
    | ret=>
      obtain ⟨σ',rfl,O,fp',al,ay⟩:=Z;obtain ⟨f1,f2,f3,f4,f5⟩:=fin (some .ret) fp' M O al;exact ⟨_,_,f1,false,U,fp',⟨true,am (X true) (ax true) _ _ _ _ _ ay f2 (fun _ _ _ h=>by cases h),f3,f4⟩,f5⟩
    | exit i=>
      obtain ⟨σ',rfl,rfl,O,fp',al,ay⟩:=Z;obtain ⟨f1,f2,f3,f4,f5⟩:=fin (some<|.exit i) fp' M O al;exact ⟨_,_,f1,false,U,fp',⟨false,am (X false) (ax false) _ _ _ _ _ ay f2 (fun _ _ _ h=>by cases h),f3,f4⟩,f5⟩
    | panic c=>obtain ⟨σ',rfl,ai⟩:=Z; exact (ai σ' fun _ _=>rfl).elim
    | outgrown=>exact Z.elim
    | goto t=>obtain ⟨σ',rfl,ai⟩:=Z; exact ai.elim
  · rintro e bi ⟨⟨v,rfl⟩,b,pre,fp,hj,hpre,hb1⟩;cases b with
    | true =>
      obtain ⟨hi,J,E⟩:=hj;obtain rfl :=hb1 rfl;have aA:=run_endLoop (P:=P) J<|by rw [ac]; simp
      rw [ac] at aA;refine ⟨none,_,aA,?_⟩;rw [ac] at J;exact a0 w.heap.size _ (aQ _) ⟨fp,am I ae _ _ _ _ _ hi J fun _ _ _ h=>by cases h⟩<|(lM ab).trans E
    | false =>
      obtain ⟨r,hi,J,E⟩:=hj;have aA:=run_endLoop (P:=P) J<|by rw [ac]; simp
      rw [ac] at aA;refine ⟨some (wV id r),_,aA,?_⟩;rw [ac] at J;cases r with
      | true =>
        refine wpIn_ret ?_;exact bg w.heap.size _ pre (aQ _) hpre ⟨fp,am (X true) (ax true) _ _ _ _ _ hi J fun _ _ _ h=>by cases h⟩<|(lM ab).trans E
      | false =>
        refine wpIn_exit ?_;unfold pP;simp only [if_true];exact bf w.heap.size _ pre (aQ _) hpre ⟨fp,am (X false) (ax false) _ _ _ _ _ hi J fun _ _ _ h=>by cases h⟩<|(lM ab).trans E
section
variable {P:ar} {N:Fm} {ops:Array Oper} {Q:Exit→(Nat→ag)→ah→Prop} {rest:List Oper} {σ:Nat→ag} {w:ah} {d':Option Nat} {d:Nat} {op:Op} {ty:av} {pos :String} {af:Array bQ} {v:ag}
theorem NJ {l:Nat} {fo:aW} {args:Array aW} {A:Array av} {L:List ag} {R:Bool→ah→Prop} (J:ev N σ fo= .func (.yield l) #[] #[]) (E:args.toList.map (ev N σ)=L)
 (O:YieldAt e7 0 P l L.toArray w fun e W'=> ∃ b,e= .returned (.bool b)∧R b W') (k:∀ b W',R b W'→kD P N ops Q rest (aV σ d<|.bool b) W'):
 kD P N ops Q (⟨some d,.call ⟨.value fo,args,A⟩,ty,pos,af,none⟩::rest) σ w:=by
 obtain ⟨fn,tmps,a,b,I,C⟩:=O;unfold kD wpListIn;rw [if_pos (fq _ rfl _)];refine ⟨fun f _=>ki _ f,?_⟩;rw [m5,Oper.semAt_eq _ _ _ (fun c e=>by cases e),dt];have hm:args.map (ev N σ)=L.toArray:=by rw [← E,← Array.toList_map]
 have M:(execOp (ev N σ) ⟨some d,.call ⟨.value fo,args,A⟩,ty,pos,af,none⟩).run P w= .ok (.round l fn tmps a b) w:=by
  simp [execOp,resolve,J,Deferred.ofValue,invoke,hm,I]
 rw [M];simp only [Oper.uponIn];refine ⟨fun h0=>(by rw [m4] at h0; cases h0),?_⟩;have h1:RoundIn (fe N.r) (0 - 1) P l fn tmps a b w fun e W'=> ∃ b,e= .returned (.bool b)∧R b W':=by
  cases hr:N.r with
  | none=>exact C
  | some k=>exact C
 refine RoundIn.mono h1 ?_;rintro e W' ⟨c,rfl,hw⟩;simp only;rw [eO];exact k c W' hw
end
section
variable {P:ar} {n:Nat} {F:List Nat} {σ:Nat→ag} {w:ah} {fn:Func} {R:ag→ah→Prop}
end
def vU (P:ar) (s f:Nat):Option Nat:=
 match P.underlying s with
 | some (.struct A)=>match A[f]? with
   | some fd=>if dd P fd.type=some none then some fd.offset else none
   | none=>none
 | _=>none
theorem C3 {P:ar} {t:Nat} (hu:dd P t=some none) (w:ah):(isAgg t).run P w= .ok false w:=by
 unfold dd at hu;cases hd:P.underlying t with
 | none=>rw [hd] at hu; cases hu
 | some d=>
   rw [hd] at hu;cases d <;> first
    | (simp only [gM] at hu; obtain ⟨_,_,h⟩:=hu; cases h; done)
    | simp [isAgg,bB hd]
theorem Iv {P:ar} {N:Fm} {σ:Nat→ag} {w:ah} {dst:Option Nat} {ty:av} {pos :String} {af:Array bQ} {g:Option (Nat×Bool)} {x:aW} {s f n:Nat} {cs:Array ag} {v:ag} (A:vU P s f=some n) (I:ev N σ x= .agg cs) (E:cs[n]? =some v):
 (execOp (ev N σ) ⟨dst,.field s x f,ty,pos,af,g⟩).run P w= .ok (.value v) w:=by
 unfold vU at A;split at A
 · rename_i J hu;split at A
   · rename_i fd C;split at A
     · rename_i ha;cases A;simp [execOp,EV,bB hu,C,I,asAgg,part,C3 ha,E]
     · cases A
   · cases A
 · cases A
section
variable {P:ar} {ops:Array Oper} {Q:Exit→Act→ah→Prop} {S:ah→Prop} {md:n9}
def Eh (P:ar) (md:n9) (ops:Array Oper) (Q:Exit→Act→ah→Prop) (S:ah→Prop):Nat→Array Bool→Act→ah→Prop
 | 0,listed,a,w=>dx md ops listed= []∧Q .normal a w
 | fuel+1,listed,a,w=>
   (dx md ops listed= []→Q .normal a w)∧
   ∀ i∈dx md ops listed,wpOpIn e7 0 P ops Q i (fun A w'=>S w'∧Eh P md ops Q S fuel (listed.setIfInBounds i true) A w') a w
end
def NA (P:ar) (N:Fm) (ops:Array Oper) (Q:Exit→(Nat→ag)→ah→Prop) (S:ah→Prop) (fuel:Nat) (listed:Array Bool) (σ:Nat→ag) (w:ah):Prop :=
 Eh P .any ops (lift N Q) S fuel listed (act N σ) w
section
variable {P:ar} {N:Fm} {ops:Array Oper} {Q:Exit→(Nat→ag)→ah→Prop} {σ:Nat→ag} {w:ah} {d':Option Nat} {d:Nat} {op:Op} {ty:av} {pos :String} {af:Array bQ} {v:ag}
variable {S:ah→Prop} {fuel:Nat} {listed:Array Bool}
end
attribute [irreducible] NA
end Go.Hb
end
section
namespace Go.Hb
abbrev mh (A:List Nat):List Deferred:=A.map fun D=> {target:= .collected D,args:= #[]}
def mX:List Nat→ah→ah
 | [],w=>w
 | D::Ds,w=>mX Ds<|w.putObj D<|.deferred none
def fJ (A:List Nat) (w:ah):Prop :=(∀ D∈A,w.heap[D]? =some (.deferred<|some []))∧A.Nodup
theorem fJ.nc {A:List Nat} {w w':ah} (h:fJ A w) (hn:bZ w w'):fJ A w':=⟨fun D C=>hn D _ (h.1 D C) ⟨(fun _ _ _ h=>by cases h),fun _ _ h=>by cases h⟩,h.2⟩
theorem fJ.cons {A:List Nat} {D:Nat} {w:ah} (h:fJ A w) (C:w.heap[D]? =some (.deferred<|some [])) (hn:D∉A):fJ (D::A) w:=by grind [fJ]
theorem fJ.ne {A:List Nat} {w:ah} {D:Nat} (h:fJ A w) (C:w.heap.size≤D):D∉A:=by grind [fJ]
theorem fJ.put {A:List Nat} {D:Nat} {w:ah} (h:fJ (D::A) w):fJ A (w.putObj D<|.deferred none):=
 ⟨fun k C=>by
  have I:k≠D:=fun E=>(uL.1 h.2).1<|E ▸ C;rw [lM I]; exact h.1 k (ic _ C),(uL.1 h.2).2⟩
theorem vC:∀ (A:List Nat) (w:ah),Md (fun k=>k∈A) w (mX A w)
 | [],w=>Md.refl _ w
 | D::A,w=>((xp w D<|.deferred none).mono fun k _ C=>C ▸ ie ..).trans' (vC A _) fun k _ C=>ic _ C
section
variable {P:ar} {n:Nat} {Fx:List Nat} {σ:Nat→ag} {w:ah} {fn:Func} {R:ag→ah→Prop} {B:Exit→Act→ah→Prop} {N:Fm}
theorem BV {tmps:Array ag} {v:ag} :∀ (A:List Nat) (w:ah),fJ A w→(results fn tmps).run P (mX A w)= .ok v (mX A w)→R v (mX A w)→
 LeavesInM e7 0 P fn tmps (fun e w'=> ∃ v,e= .returned v∧R v w') (mh A) .returning w
 | [],w,_,hr,hR=>⟨v,hr,v,rfl,hR⟩
 | D::A,w,h,hr,hR=>⟨FrameMode.noConfusion,.inl ⟨_,_,rfl,run_takeDeferred (h.1 D<|ie ..),BV A _ h.put hr hR⟩⟩
theorem Ir {r:ResultVar} {v:ag} (A:List Nat) (C:fJ A w) (h:fn.results= #[r]) (h1:ik P ⟨n,mh A,Fx,none⟩ σ (mX A w) r v) (E:R v (mX A w)):qb ⟨n,mh A,Fx,none⟩ (Bm P fn R) .ret σ w:=
 BV A w C (C0 h<|gE h1) E
theorem Cd {id:Nat} {c:Code} (h:eY P N c (pP id B) σ w):eY P N (.block id c) B σ w:=wpIn_block h
theorem J7 {c:Code} {L:List (Nat×ag)} (h:Sl σ L) (A:eY P N c B (pH σ L) w):eY P N c B σ w:=by rw [ua h] at A; exact A
theorem Ce {id:Nat} (h:qb N B .normal σ w):qb N (pP id B) .normal σ w:=h
theorem J3 {id:Nat} (h:qb N B .normal σ w):qb N (pP id B) (.exit id) σ w:=by show (if id=id then B .normal (act N σ) w else B (.exit id) (act N σ) w); rw [if_pos rfl]; exact h
theorem Kd {i:Nat} {y:Act→ah→Prop} (h:qb N B (.exit i) σ w):qb N (Exit.then y B) (.exit i) σ w:=h
def xh (n:Nat) (Fx:List Nat) (R:List Nat→(Nat→ag)→ah→Prop) (B:Exit→Act→ah→Prop):Exit→Act→ah→Prop
 | .normal,a,w=> ∃ A σ,a=act ⟨n,mh A,Fx,none⟩ σ∧R A σ w
 | e,a,w=>B e a w
variable {S:List Nat→(Nat→ag)→ah→Prop}
theorem Cg (A:List Nat) (h:S A σ w):qb ⟨n,mh A,Fx,none⟩ (xh n Fx S B) .normal σ w:=⟨A,σ,rfl,h⟩
theorem Kb {i:Nat} (h:qb N B (.exit i) σ w):qb N (xh n Fx S B) (.exit i) σ w:=h
theorem Ka {c:Code} (A:List Nat) (L:Nat→List Nat→(Nat→ag)→ah→Prop) (m:Nat) (h0:L m A σ w)
 (h:∀ m A σ w,L m A σ w→eY P ⟨n,mh A,Fx,none⟩ c (xh n Fx (fun O σ' w'=> ∃ k,k < m∧L k O σ' w') B) σ w):eY P ⟨n,mh A,Fx,none⟩ (.loop c) B σ w:=by
 intro b k cs am hb hr;have key:∀ m A σ w,L m A σ w→
  ∃ e M w',B e M w'∧ArrivesIn (Machine.fenced P e7) P (lone (b.atR (act ⟨n,mh A,Fx,none⟩ σ) (.code c:: .inLoop c::k)) cs w) b k cs e M w':=by
  intro m
  induction m using FO with
  | _ m ih=>
    intro A σ w ad;obtain ⟨e,J,I,E,C⟩:=h m A σ w ad b (.inLoop c::k) cs am hb hr;cases e with
    | normal=>
      obtain ⟨V,ap,rfl,j,aj,ae⟩:=E;obtain ⟨ac,Z,ao,al,ai⟩:=ih j aj V ap I ae;exact ⟨ac,Z,ao,al,.of_steps (StepsIn.trans C<|.one (fenced_calm hb hr U) stepR_inLoop) ai⟩
    | exit id=>exact ⟨.exit id,J,I,E,.pass (x:= .inLoop c) rfl (fun _ _=> .inl<|by simp) C⟩
    | goto l=>exact ⟨.goto l,J,I,E,.pass (x:= .inLoop c) rfl (fun _ _=> .inl<|by simp) C⟩
    | ret=>exact ⟨.ret,J,I,E,.pass (x:= .inLoop c) rfl (fun _ _=> .inl<|by simp) C⟩
    | panic ab=>exact ⟨.panic ab,J,I,E,.pass (x:= .inLoop c) rfl (fun _ _=> .inl<|by simp) C⟩
    | outgrown=>exact ⟨.outgrown,J,I,E,.pass (x:= .inLoop c) rfl (fun _ _=> .inl<|by simp) C⟩
 obtain ⟨e,M,w',ak,C⟩:=key _ A σ w h0;exact ⟨e,M,w',ak,.of_steps (.one (fenced_calm hb hr U) stepR_loop) C⟩
end
section
variable {P:ar} {N:Fm} {σ:Nat→ag} {w:ah} {dst:Option Nat} {ty:av} {pos :String} {af:Array bQ} {g:Option (Nat×Bool)} {K:(Nat→ag)→ah→Prop}
end
section
variable {P:ar} {N:Fm} {σ:Nat→ag} {w:ah} {dst:Option Nat} {ty:av} {pos :String} {af:Array bQ} {g:Option (Nat×Bool)} {x y:aW}
end
end Go.Hb
end
section
namespace Go.Hb
theorem Ly {L:List ag} {o:Nat} {v:ag} (h:o < L.length):(L.set o v).take (o+1)=L.take o++ [v]:=by grind [List.set_eq_take_append_cons_drop,List.take_append,cO,Nat.min_eq_left,Nat.add_sub_cancel_left,jI]
theorem Lx {L:List ag} {o m:Nat} {v:ag} (h:o < m):(L.set o v).drop m=L.drop m:=by
 rw [List.drop_set,if_pos h]
section
variable {P:ar} {N:Fm} {σ:Nat→ag} {w:ah} {ty:av} {pos :String} {af:Array bQ} {g:Option (Nat×Bool)} {x:aW} {K:(Nat→ag)→ah→Prop}
end
end Go.Hb
end
section
namespace Go.Hb
section
variable {P:ar} {N:Fm} {σ:Nat→ag} {w:ah} {dst:Option Nat} {ty:av} {pos :String} {af:Array bQ} {g:Option (Nat×Bool)} {x:aW}
theorem Gp {t n C b:Nat} (he:kP P t=some (n,C)) (A:ev N σ x= .pointer (some ⟨b,0,none⟩)):
 (execOp (ev N σ) ⟨dst,.slice t x none none none,ty,pos,af,g⟩).run P w= .ok (.value<|.slice (some ⟨b,0,none⟩) n n) w:=by
 unfold kP at he;cases hd:P.underlying t with
 | none=>rw [hd] at he; cases he
 | some d=>
   rw [hd] at he;cases d <;> first | (cases he; done) | skip
   rename_i m e;cases hi:P.info? e with
   | none=>simp [hi] at he
   | some j=>
     simp only [hi,fG,bK,ig] at he;obtain ⟨rfl,rfl⟩:=he;simp [execOp,n4,Instr.sureAddr,kG,A,bB hd,sizeOf,dj hi,gd]
def vV (P:ar) (t f:Nat):Option (Nat×Nat):=
 match P.underlying t with
 | some (.struct A)=>(A[f]?).map fun d=>(d.type,d.offset)
 | _=>none
theorem ID {t f A off n:Nat} {cs vs:List ag} (h:vV P t f=some (A,off)) (ha:dd P A=some (some n)) (I:ev N σ x= .agg cs.toArray) (E:(cs.drop off).take n=vs):
 (execOp (ev N σ) ⟨dst,.field t x f,ty,pos,af,g⟩).run P w= .ok (.value<|.agg vs.toArray) w:=by
 subst E;unfold vV at h;cases hd:P.underlying t with
 | none=>rw [hd] at h; cases h
 | some d=>
   rw [hd] at h;cases d <;> first | (cases h; done) | skip
   rename_i J;simp only [gM] at h;obtain ⟨fd,C,he⟩:=h;cases he;unfold dd at ha;cases hd2:P.underlying fd.type with
   | none=>rw [hd2] at ha; cases ha
   | some d2=>
     rw [hd2] at ha;cases hi:P.info? fd.type with
     | none=>simp [Program.underlying,hi] at hd2
     | some i=>
       rw [hi] at ha;have L:cs.toArray.extract fd.offset (fd.offset+n)=((cs.drop fd.offset).take n).toArray:=by simp
       cases d2 <;> first
        | (cases ha; done)
        | (simp only [fG,bK] at ha; subst ha
           simp [execOp,EV,bB hd,C,I,asAgg,part,isAgg,bB hd2,sizeOf,dj hi])
end
end Go.Hb
end
section
set_option linter.unusedSimpArgs false
namespace Go.Hb
open Classical
structure zq (P:ar) (k:av) (c9:ag→Prop):Prop where
 key:oy P k c9
 stays:∀ w v,c9 v→(rF v v).run P w= .ok v w
def Ja (v:ag):Prop := ∃ s:List UInt8,v=str s
def BA (q:bA) (v:ag):Prop := ∃ a:Int,v= .int q a
theorem Bc {d:TypeDesc} {c9:ag→Prop} (L:∀ x y,c9 x→c9 y→∃ A,yX d x y=some A∧(A=true↔x=y)) {x:ag} (M:c9 x):∀ (es:List MapEntry) (i:Nat),(∀ e∈es,c9 e.key)→
 (n3 d x es i=some none∧∀ e∈es,e.key≠x)∨∃ j e,n3 d x es i=some (some (i+j,e.val))∧es[j]? =some e∧e.key=x
 | [],i,_=> .inl ⟨rfl,fun _ h=>by simp at h⟩
 | e::es,i,h=>by
   obtain ⟨A,h1,J⟩:=L x e.key M<|h e<|by simp
   cases A with
   | true =>exact .inr ⟨0,e,by simp [n3,h1],rfl,(J.1 rfl).symm⟩
   | false =>
     have V:e.key≠x:=fun U=>by cases J.2 U.symm
     rcases Bc L M es (i+1) (fun e he=>h e<|by simp [he]) with ⟨C,E⟩ | ⟨j,e',C,E,O⟩
     · refine .inl ⟨by simp [n3,h1,C],fun e' I=> ?_⟩;rcases ef.1 I with rfl | I
       · exact V
       · exact E e' I
     · refine .inr ⟨j+1,e',?_,E,O⟩;simp only [n3,h1,C]; rw [show i+1 +j=i+(j+1) from by omega]
theorem BK {P:ar} {k:av} {d:TypeDesc} {c9:ag→Prop} (E:P.underlying k=some d) (L:∀ x y,c9 x→c9 y→∃ C,yX d x y=some C∧(C=true↔x=y)) (J:∀ em w v,c9 v→(kF em 10000 k v).run P w= .ok () w):oy P k c9 where
 check:=J
 find w x es hx hes:=by
  rcases Bc L hx es 0 hes with ⟨h1,A⟩ | ⟨j,e,h1,A,I⟩
  · exact .inl ⟨by simp [nZ,bB E,h1],A⟩
  · exact .inr ⟨j,e,by simp [nZ,bB E,h1],A,I⟩
theorem zL (a b:ByteArray):(a==b)=decide (a=b):=by
 rw [Bool.eq_iff_iff,decide_eq_true_iff];show ((a.data==b.data)=true)↔_;rw [beq_iff_eq];exact ⟨fun h=>by cases a; cases b; cases h; rfl,fun h=>by rw [h]⟩
theorem BJ {P:ar} {k:av} (A:P.underlying k=some .string):zq P k Ja where
 key:=BK A (by
  rintro _ _ ⟨a,rfl⟩ ⟨b,rfl⟩;refine ⟨_,U,?_⟩;rw [zL,decide_eq_true_iff];constructor
  · intro h; unfold str; rw [h]
  · intro h; unfold str at h; cases h; rfl) (by rintro em w _ ⟨a,rfl⟩; exact zY (n:=9999) A w)
 stays w v hv:=by obtain ⟨a,rfl⟩:=hv; simp [rF,E0,str,zL]
theorem G0 {P:ar} {k:av} {q r:bA} {em:Bool} {n:Nat} {a:Int} (A:P.underlying k=some (.int q)) (w:ah):(kF em (n+1) k<|.int r a).run P w= .ok () w:=by
 simp only [kF,Sem.run_bind,bB A,Result.andThen_ok,Sem.run_pure]
theorem BI {P:ar} {k:av} {q r:bA} (A:P.underlying k=some (.int q)):zq P k (BA r) where
 key:=BK A (by
  rintro _ _ ⟨a,rfl⟩ ⟨b,rfl⟩;refine ⟨decide (a=b),by simp [yX]; rfl,?_⟩;rw [decide_eq_true_iff];exact ⟨fun h=>by rw [h],fun h=>by cases h; rfl⟩) (by rintro em w _ ⟨a,rfl⟩; exact G0 (n:=9999) A w)
 stays w v hv:=by obtain ⟨a,rfl⟩:=hv; simp [rF,E0]
section
variable {P:ar} {N:Fm} {σ:Nat→ag} {w:ah} {dst:Option Nat} {ty:av} {pos :String} {af:Array bQ} {g:Option (Nat×Bool)} {x y z:aW} {K:(Nat→ag)→ah→Prop}
variable {t k e:av} {c9:ag→Prop} {b:Nat} {f:ag→Option ag} {kx v zv:ag}
end
end Go.Hb
end
section
namespace Go.Hb
theorem Jc (c:UInt8):∀ l:List UInt8,E2 l c=k0 c l:=by
 intro l
 induction l with
 | nil=>rfl
 | cons b l ih=>
   unfold E2;rw [ih];rw [show k0 c (b::l)=if (b::l).idxOf c < (b::l).length then ((b::l).idxOf c:Int) else -1 from rfl,List.idxOf_cons];by_cases h:(b==c)=true
   · rw [if_pos h,h]; rfl
   · have h':(b==c)=false :=by simpa using h
     rw [if_neg h,h'];simp only [cond_false,dC];by_cases h1:l.idxOf c < l.length
     · have A:k0 c l=l.idxOf c:=if_pos h1;rw [A,if_neg (fun hb=>by have :=eq_of_beq hb; omega),if_pos ab]; rfl
     · have A:k0 c l= -1:=if_neg h1;rw [A,if_pos aF,if_neg ab]
theorem Lm {P:ar} {f:FuncId} {fn:Func} (A:P.funcs[f]? =some fn) (C:(fn.name== "runtime.NumGoroutine")=false) (hb:fn.body.isNone=true) (hn:Extern.findNext fn=none)
 (he:Extern.find fn=some NT) (l:List UInt8) (c:UInt8) (w:ah):(callFunc f #[str l,.int .u8 c.toNat]).run P w= .ok (.value<|.int .i64<|k0 c l) w:=by
 rw [run_callFunc_extern A C hb hn he];unfold str;rw [Lib.run_indexByteString];have h1:((c.toNat:Int)).toNat.toUInt8=c:=UInt8.toNat_inj.1<|by simp
 rw [h1,Jc];rfl
section
variable {P:ar} {N:Fm} {σ:Nat→ag} {w:ah} {dst:Option Nat} {ty:av} {pos :String} {af:Array bQ} {g:Option (Nat×Bool)}
end
end Go.Hb
end
