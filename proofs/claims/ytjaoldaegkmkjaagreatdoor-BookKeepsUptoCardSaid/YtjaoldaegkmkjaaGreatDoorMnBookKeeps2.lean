/-
  Walks and plain laws that the law rests on, laid together. No conditions but those that each theorem names.
-/
import Derived.Test.YtjaoldaegkmkjaaGreatDoorMnBookKeeps1
set_option linter.unusedVariables false
open Array renaming length_toList→iB
open Bool renaming and_eq_true→a9
open Go.Extern.BytealgIndexByte renaming indexByte→Kp
open Go.Instr renaming checkKey→jH,field→CO,findKey→mK,findNow→mL,keyThatStays→qg,sameBits→CS,sameNow→xm,sliceAt→mM,sliceBounds→jJ
open Go.Lib renaming indexByte→CV
open Go.Obj.cells renaming injEq→sK
open Go renaming Operand→aY,Program→ar,TypeId→aq,Value→ag,World→ah
open Go.Region renaming Mode→mR,ready→dG
open Go.Value renaming ownBlock→eE,slice→dH
open Go.Value.slice renaming injEq→ln
open List.Nodup renaming length_le_of_subset→C7
open List renaming append_assoc→hJ,append_nil→mT,flatMap_cons→ox,foldlM_append→Df,foldlM_cons→oy,foldlM_nil→oz,getD_cons_zero→oB,getD_eq_getElem?_getD→cr,getElem?_drop→iG,getElem?_eq_getElem→bG,getElem?_eq_some_iff→cH,getElem_take→sR,idxOf_append→sS,idxOf_lt_length_of_mem→xA,length_append→bQ,length_cons→dd,length_drop→ic,length_set→fy,length_take→cC,map_cons→eR,mem_append→gj,mem_append_left→oG,mem_cons→fQ,mem_range→sX,mem_singleton→jL,pairwise_iff_getElem→Dn,replicate→cZ,sum_cons→xC,takeWhile_cons→Dr,take_of_length_le→jj,take_succ_eq_append_getElem→sY
open Nat renaming eq_or_lt_of_le→Du,le_refl→aZ,le_trans→cS,lt_or_ge→di,mul_le_mul_right→iH,pow_succ→tc
open Option renaming bind_eq_bind→oI,bind_eq_some_iff→oJ,map_eq_some_iff→fR,map_some→eS,pure_def→oL
open Option.some renaming injEq→bD
open Prod.mk renaming injEq→gk
open Go.Proofs.Tryz
open Go.RowKit

section
namespace Go.Hb
end Go.Hb
namespace Go.Hb
def nv (n:Nat):ag:= .int .i64 n
theorem Ik (r:List Nat) (i x:Nat):(r.map nv).set i (.int .i64 (x:Nat))=(r.set i x).map nv:=by rw [List.map_set]; rfl
section
variable {P:ar} {N:Fm} {σ:Nat→ag} {w:ah} {dst:Option Nat} {ty:aq} {pos :String} {af:Array Edge} {g:Option (Nat×Bool)} {x y z:aY}
end
end Go.Hb
namespace Go.Hb
abbrev aF:Type :=Bool×List (UInt8×Int)
def dI:aF:=(false,[])
abbrev av (a:List aF) (n:Nat):aF:=a.getD n dI
def eG (l:List (UInt8×Int)):Prop :=l.Pairwise fun x y=>x.1.toNat < y.1.toNat
instance (l:List (UInt8×Int)):Decidable (eG l):=by unfold eG; infer_instance
def fI (a:List aF) (p:aF):Bool:=decide (p.2≠[]) || p.1 || decide (a.length=1)
def vs (a:List aF):Nat→Nat×List Nat→Int→Option (Nat×List Nat)
 | 0,_,_=>none
 | f+1,(nx,mk),n=>
   if n≠nx then (if 0≤n∧n < nx∧mk.getD n.toNat 0=2 then some (nx,mk) else none)
   else if a.length≤nx then none
   else if eG (av a nx).2∧fI a (av a nx)=true then
    ((av a nx).2.foldlM (fun s e=>vs a f s e.2) (nx+1,mk.set nx 1)).map fun s=>(s.1,s.2.set nx 2)
   else none
def shaped (a:List aF):Bool:=decide (0 < a.length) && decide (a.length≤1048576) && match vs a (a.length+1) (0,cZ a.length 0) 0 with
 | some s=>decide (s.1=a.length)
 | none=>false
section
variable {a:List aF}
theorem wO:∀ (f:Nat) {nx C:Nat} {mk mk':List Nat} {n:Int},vs a f (nx,mk) n=some (C,mk')→nx≤C∧mk'.length=mk.length:=by
 intro f
 induction f with
 | zero=>intro nx C mk mk' n h; cases h
 | succ f ih=>
   intro nx C mk mk' n h;have E:∀ (es:List (UInt8×Int)) (nx C:Nat) (mk mk':List Nat),es.foldlM (fun s e=>vs a f s e.2) (nx,mk)=some (C,mk')→nx≤C∧mk'.length=mk.length:=by
    intro es
    induction es with
    | nil=>intro nx C mk mk' h; simp only [oz,oL,bD,gk] at h; obtain ⟨rfl,rfl⟩:=h; exact ⟨aZ _,rfl⟩
    | cons e es I=>
      intro nx C mk mk' h;simp only [oy,oI,oJ] at h;obtain ⟨⟨n1,m1⟩,h1,h2⟩:=h;have J:=ih h1;have L:=I _ _ _ _ h2;exact ⟨U,U⟩
   rw [vs] at h;split at h
   · split at h
     · cases h; exact ⟨aZ _,rfl⟩
     · cases h
   · split at h
     · cases h
     · split at h
       · simp only [fR] at h;obtain ⟨⟨n1,m1⟩,h1,h2⟩:=h;simp only [gk] at h2;obtain ⟨rfl,rfl⟩:=h2;have :=E _ _ _ _ _ h1;simp only [fy] at this ⊢;exact ⟨U,this.2⟩
       · cases h
def Hn (a:List aF) (l:List Nat) (i:Nat):Prop :=i < a.length∧eG (av a i).2∧fI a (av a i)=true∧∀ e∈(av a i).2,0≤e.2∧e.2.toNat∈l
inductive Ord (a:List aF):List Nat→Prop
 | nil:Ord a []
 | snoc {l i} :Ord a l→Hn a l i→i∉l→Ord a (l++ [i])
def tl (a:List aF) (i:Nat):Prop := ∃ j,j < i∧∃ e∈(av a j).2,e.2=(i:Int)
structure oM (a:List aF) (nx:Nat) (mk:List Nat) (l:List Nat):Prop where
 ord:Ord a l
 len:mk.length=a.length
 le:nx≤a.length
 done :∀ i,mk.getD i 0=2↔i∈l
 lt:∀ i∈l,i < nx
 zero:∀ i,nx≤i→mk.getD i 0=0
theorem jY (mk:List Nat) (i j x:Nat) (h:i < mk.length):(mk.set i x).getD j 0=if i=j then x else mk.getD j 0:=by grind
theorem Jx:∀ (f:Nat) {nx L:Nat} {mk mk':List Nat} {n:Int} {l:List Nat},vs a f (nx,mk) n=some (L,mk')→oM a nx mk l→
 ∃ E,oM a L mk' (l++E)∧(∀ i,i < nx→mk'.getD i 0=mk.getD i 0)∧(∀ i,nx≤i→i < L→i∈E)∧0≤n∧n.toNat∈l++E∧(∀ i,nx≤i→i < L→(i:Int)=n∨tl a i):=by
 intro f
 induction f with
 | zero=>intro nx L mk mk' n l h; cases h
 | succ f ih=>
   intro nx L mk mk' n l h V;rw [vs] at h;split at h
   · rename_i hn;split at h
     · rename_i O;cases h;exact ⟨[],by rw [mT]; exact V,fun _ _=>rfl,fun i h1 C=>by omega,O.1,by rw [mT]; exact (V.done _).1 O.2.2,fun i h1 C=>by omega⟩
     · cases h
   · rename_i hn;have hn:n=nx:=Classical.not_not.1 hn;split at h
     · cases h
     · rename_i aP;split at h
       · rename_i O;simp only [fR] at h;obtain ⟨⟨n1,m1⟩,h1,C⟩:=h;simp only [gk] at C;obtain ⟨rfl,rfl⟩:=C;have ad:nx < mk.length:=by rw [V.len]; omega
         have al:oM a (nx+1) (mk.set nx 1) l:=by
          refine ⟨V.ord,by rw [fy]; exact V.len,U,fun i=> ?_,fun i hi=>by have :=V.lt i hi; omega,fun i hi=> ?_⟩
          · rw [jY _ _ _ _ ad];by_cases e:nx=i
            · subst e; rw [if_pos rfl];exact ⟨fun h=>by omega,fun h=>by have :=V.lt _ h; omega⟩
            · rw [if_neg e]; exact V.done i
          · rw [jY _ _ _ _ ad,if_neg U]; exact V.zero i U
         have aw:∀ (es:List (UInt8×Int)) (k J:Nat) (m Z:List Nat) (l:List Nat),(∀ e∈es,e∈(av a nx).2)→nx+1≤k→es.foldlM (fun s e=>vs a f s e.2) (k,m)=some (J,Z)→oM a k m l→
          ∃ E,oM a J Z (l++E)∧(∀ i,i < k→Z.getD i 0=m.getD i 0)∧(∀ i,k≤i→i < J→i∈E)∧(∀ e∈es,0≤e.2∧e.2.toNat∈l++E)∧(∀ i,k≤i→i < J→tl a i)∧k≤J:=by
          intro es
          induction es with
          | nil=>
            intro k J m Z l _ _ h V;simp only [oz,oL,bD,gk] at h;obtain ⟨rfl,rfl⟩:=h;exact ⟨[],by rw [mT]; exact V,fun _ _=>rfl,fun i h1 C=>by omega,fun e he=>by simp at he,fun i h1 C=>by omega,aZ _⟩
          | cons e es ay=>
            intro k J m Z l aj aC h V;simp only [oy,oI,oJ] at h;obtain ⟨⟨ak,m1⟩,g1,g2⟩:=h;obtain ⟨aA,am,an,ao,ap,aq,ar⟩:=ih g1 V;have aD:=(wO f g1).1;obtain ⟨aB,X1,ab,ae,ag,ah,au⟩:=ay _ _ _ _ _ (fun e he=>aj e<|by simp [he]) U g2 am;rw [hJ] at X1;refine ⟨aA++aB,X1,fun i hi=>(ab i U).trans (an i hi),fun i h1 C=> ?_,fun e' ai=> ?_,fun i h1 C=> ?_,U⟩
            · rcases di i ak with h | h
              · exact oG _<|ao i h1 h
              · exact List.mem_append_right _<|ae i h C
            · rcases fQ.1 ai with rfl | ai
              · refine ⟨ap,?_⟩;rw [← hJ]; exact oG _ aq
              · have :=ag e' ai;rw [hJ] at this; exact this
            · rcases di i ak with h | h
              · rcases ar i h1 h with I | I
                · exact ⟨nx,U,e,aj e (by simp),I.symm⟩
                · exact I
              · exact ah i h C
         obtain ⟨E,X1,ab,ae,ag,ah,au⟩:=aw _ _ _ _ _ _ (fun _ h=>h) (aZ _) h1 al;have lT:nx < m1.length:=by rw [X1.len]; omega
         have ax:nx∉l++E:=fun h=>by
          have I:=(X1.done nx).2 h;rw [ab nx U,jY _ _ _ _ ad,if_pos rfl] at I; omega
         refine ⟨E++ [nx],?_,fun i hi=> ?_,fun i C I=> ?_,U,?_,fun i C I=> ?_⟩
         · rw [← hJ];refine ⟨.snoc X1.ord ⟨U,O.1,O.2,ag⟩ ax,by rw [fy]; exact X1.len,X1.le,fun i=> ?_,fun i hi=> ?_,fun i hi=> ?_⟩
           · rw [jY _ _ _ _ lT,gj,jL];by_cases e:nx=i
             · subst e; rw [if_pos rfl]; exact ⟨fun _=> .inr rfl,fun _=>rfl⟩
             · rw [if_neg e,X1.done i]; exact ⟨.inl,fun h=>h.elim id fun h=>absurd h.symm e⟩
           · rw [gj,jL] at hi;rcases hi with hi | rfl
             · exact X1.lt i hi
             · omega
           · rw [jY _ _ _ _ lT,if_neg U]; exact X1.zero i hi
         · rw [jY _ _ _ _ lT,if_neg U,ab i U,jY _ _ _ _ ad,if_neg U]
         · rw [gj,jL];rcases Du C with ac | ac
           · exact .inr ac.symm
           · exact .inl<|ae i U I
         · rw [← hJ,gj,jL]; right; omega
         · rcases Du C with ac | ac
           · left; omega
           · exact .inr<|ah i U I
       · cases h
structure fE (a:List aF) (l:List Nat):Prop where
 pos :0 < a.length
 le:a.length≤1048576
 ord:Ord a l
 all:∀ i,i < a.length→i∈l
 met:∀ i,0 < i→i < a.length→tl a i
theorem Bs (h:shaped a=true):∃ l,fE a l:=by
 unfold shaped at h;simp only [a9,decide_eq_true_eq] at h;obtain ⟨⟨h1,L⟩,C⟩:=h;split at C
 · rename_i s O;obtain ⟨k,m⟩:=s;have C:=of_decide_eq_true C;simp only at C;subst C;have E:∀ i,(cZ a.length 0).getD i 0=0:=fun i=>by
    rw [cr,List.getElem?_replicate]; split <;> rfl
   obtain ⟨l,V,_,I,_,_,J⟩:=Jx (l:= []) _ O ⟨.nil,by simp,U,fun i=>by rw [E]; simp,fun i hi=>by simp at hi,fun i _=>E i⟩;refine ⟨l,h1,L,by simpa using V.ord,fun i hi=>I i U hi,fun i h0 hi=>(J i U hi).resolve_left U⟩
 · cases C
def lg (a:List aF):Nat→Nat→List (List UInt8)
 | 0,_=> []
 | f+1,n=>(if (av a n).1=true then [[]] else [])++(av a n).2.flatMap fun e=>(lg a f e.2.toNat).map (e.1:: ·)
def jE (a:List aF) (n:Nat):List (List UInt8):=lg a a.length n
theorem zx {α β:Type} {l:List α} {f g:α→List β} (h:∀ x∈l,f x=g x):l.flatMap f=l.flatMap g:=by
 induction l with
 | nil=>rfl
 | cons x l ih=>rw [ox,ox,h x (by simp),ih fun y C=>h y (by simp [C])]
theorem Ord.lt {l:List Nat} (h:Ord a l):∀ i∈l,i < a.length:=by
 induction h with
 | nil=>intro i hi; simp at hi
 | snoc _ C _ ih=>intro i hi; rcases gj.1 hi with h | h; exact ih i h; rw [jL] at h; subst h; exact C.1
theorem Ord.st {l:List Nat} (h:Ord a l):∀ i∈l,eG (av a i).2∧fI a (av a i)=true∧∀ e∈(av a i).2,0≤e.2∧e.2.toNat∈l:=by
 induction h with
 | nil=>intro i hi; simp at hi
 | snoc _ C _ ih=>
   intro i hi;rcases gj.1 hi with h | h
   · obtain ⟨h1,I,E⟩:=ih i h; exact ⟨h1,I,fun e he=>⟨(E e he).1,oG _ (E e he).2⟩⟩
   · rw [jL] at h; subst h; exact ⟨C.2.1,C.2.2.1,fun e he=>⟨(C.2.2.2 e he).1,oG _ (C.2.2.2 e he).2⟩⟩
theorem Ord.ua {l:List Nat} (h:Ord a l):∀ i∈l,∀ e∈(av a i).2,l.idxOf e.2.toNat < l.idxOf i:=by
 induction h with
 | nil=>intro i hi; simp at hi
 | @snoc l i0 _ I _ ih=>
   intro i hi e he;by_cases h:i∈l
   · have h1:=ih i h e he;have C:e.2.toNat∈l:=List.idxOf_lt_length_iff.1<|Nat.lt_trans h1<|xA h;rw [sS,sS,if_pos C,if_pos h]; exact h1
   · rcases gj.1 hi with E | E
     · exact absurd E h
     · rw [jL] at E; subst E;have C:=(I.2.2.2 e he).2;rw [sS,sS,if_pos C,if_neg h];have :=xA C;omega
theorem GL {l:List Nat} (h:Ord a l):∀ (r i f C:Nat),i∈l→l.idxOf i≤r→r < f→r < C→lg a f i=lg a C i:=by
 intro r
 induction r with
 | zero=>
   intro i f C hi hr J L;obtain ⟨g,rfl⟩:∃ g,f=g+1:=⟨f - 1,U⟩
   obtain ⟨E,rfl⟩:∃ E,C=E+1:=⟨C - 1,U⟩
   rw [lg,lg];congr 1;refine zx fun e he=> ?_;have :=h.ua i hi e he; omega
 | succ r ih=>
   intro i f C hi hr J L;obtain ⟨g,rfl⟩:∃ g,f=g+1:=⟨f - 1,U⟩
   obtain ⟨E,rfl⟩:∃ E,C=E+1:=⟨C - 1,U⟩
   rw [lg,lg];congr 1;refine zx fun e he=> ?_;have h1:=h.ua i hi e he;have I:=((h.st i hi).2.2 e he).2;rw [ih _ g E I U U U]
theorem Ord.nd {l:List Nat} (h:Ord a l):l.Nodup:=by
 induction h with
 | nil=>exact List.nodup_nil
 | snoc _ _ hn ih=>exact List.nodup_append.2 ⟨ih,by simp,fun x E y C e=>by rw [jL] at C; subst C; subst e; exact hn E⟩
theorem Ord.length {l:List Nat} (h:Ord a l):l.length≤a.length:=by
 have :=C7 h.nd (l₂:=List.range a.length) fun i hi=>sX.2<|h.lt i hi;simpa using this
variable {l:List Nat}
theorem fE.rk (h:fE a l) {i:Nat} (hi:i < a.length):l.idxOf i < a.length:=Nat.lt_of_lt_of_le (xA<|h.all i hi) h.ord.length
theorem fE.ng (h:fE a l) {i:Nat} (hi:i < a.length) {e:UInt8×Int} (he:e∈(av a i).2):0≤e.2∧e.2.toNat < a.length∧l.idxOf e.2.toNat < l.idxOf i:=
 ⟨((h.ord.st i<|h.all i hi).2.2 e he).1,h.ord.lt _ ((h.ord.st i<|h.all i hi).2.2 e he).2,h.ord.ua i (h.all i hi) e he⟩
theorem fE.vz (h:fE a l) {i:Nat} (hi:i < a.length):eG (av a i).2:=(h.ord.st i<|h.all i hi).1
theorem eG.len {es:List (UInt8×Int)} (h:eG es):es.length≤256:=by
 have h1:(es.map fun e=>e.1.toNat).Pairwise (· < ·):=List.pairwise_map.2 h;have C:(es.map fun e=>e.1.toNat).Nodup:=h1.imp fun h=>Nat.ne_of_lt h;have :=C7 C (l₂:=List.range 256) fun i hi=>by
  obtain ⟨e,_,rfl⟩:=List.mem_map.1 hi;exact sX.2 e.1.toNat_lt
 simpa using this
theorem fE.jE (h:fE a l) {i:Nat} (hi:i < a.length):jE a i=(if (av a i).1=true then [[]] else [])++(av a i).2.flatMap fun e=>(jE a e.2.toNat).map (e.1:: ·):=by
 have hr:=h.rk hi;unfold Hb.jE;rw [GL h.ord (l.idxOf i) i a.length (a.length+1) (h.all i hi) (aZ _) hr U,lg]
theorem wP {f nx:Nat} {mk:List Nat} {n:Int} (h:n≠nx):vs a (f+1) (nx,mk) n=if 0≤n∧n < nx∧mk.getD n.toNat 0=2 then some (nx,mk) else none:=by rw [vs,if_pos h]
theorem B8 {f nx:Nat} {mk:List Nat} {n:Int} (h:n=nx) (C:a.length≤nx):vs a (f+1) (nx,mk) n=none:=by rw [vs,if_neg (fun e=>e h),if_pos C]
theorem sn {f nx:Nat} {mk:List Nat} {n:Int} (h:n=nx) (C:nx < a.length) (E:¬(eG (av a nx).2∧fI a (av a nx)=true)):vs a (f+1) (nx,mk) n=none:=by grind [vs]
theorem B6 {f nx:Nat} {mk:List Nat} {n:Int} (h:n=nx) (C:nx < a.length) (E:eG (av a nx).2) (I:fI a (av a nx)=true):
 vs a (f+1) (nx,mk) n=((av a nx).2.foldlM (fun s e=>vs a f s e.2) (nx+1,mk.set nx 1)).map fun s=>(s.1,s.2.set nx 2):=by grind [vs]
theorem Jy:∀ (f:Nat) {nx C:Nat} {mk mk':List Nat} {n:Int},vs a f (nx,mk) n=some (C,mk')→nx≤a.length→C≤a.length:=by
 intro f
 induction f with
 | zero=>intro nx C mk mk' n h; cases h
 | succ f ih=>
   intro nx C mk mk' n h hle;have E:∀ (es:List (UInt8×Int)) (nx C:Nat) (mk mk':List Nat),es.foldlM (fun s e=>vs a f s e.2) (nx,mk)=some (C,mk')→nx≤a.length→C≤a.length:=by
    intro es
    induction es with
    | nil=>intro nx C mk mk' h; simp only [oz,oL,bD,gk] at h; obtain ⟨rfl,rfl⟩:=h; exact id
    | cons e es I=>
      intro nx C mk mk' h hle;simp only [oy,oI,oJ] at h;obtain ⟨⟨n1,m1⟩,h1,h2⟩:=h;exact I _ _ _ _ h2<|ih h1 hle
   rw [vs] at h;split at h
   · split at h
     · cases h; exact hle
     · cases h
   · split at h
     · cases h
     · split at h
       · simp only [fR] at h;obtain ⟨⟨n1,m1⟩,h1,h2⟩:=h;simp only [gk] at h2;obtain ⟨rfl,rfl⟩:=h2;exact E _ _ _ _ _ h1 U
       · cases h
def eZ (a:List aF) (f nx:Nat) (mk:List Nat) (es:List (UInt8×Int)):Option (Nat×List Nat):=es.foldlM (fun s e=>vs a f s e.2) (nx,mk)
theorem JB {f nx:Nat} {mk:List Nat} {es:List (UInt8×Int)} {e:UInt8×Int} {s:Nat×List Nat} (h:eZ a f nx mk es=some s):eZ a f nx mk (es++ [e])=vs a f s e.2:=by
 unfold eZ at*;rw [Df,h];simp
theorem JA {f nx:Nat} {mk:List Nat} {es es':List (UInt8×Int)} (h:eZ a f nx mk es=none):eZ a f nx mk (es++es')=none:=by grind [eZ,Df]
theorem sr {f nx:Nat} {mk:List Nat} {es:List (UInt8×Int)} {s:Nat×List Nat} (h:eZ a f nx mk es=some s) (hle:nx≤a.length):nx≤s.1∧s.2.length=mk.length∧s.1≤a.length:=by
 unfold eZ at h
 induction es generalizing nx mk with
 | nil=>simp only [oz,oL,bD] at h; subst h; exact ⟨aZ _,rfl,hle⟩
 | cons e es ih=>
   simp only [oy,oI,oJ] at h;obtain ⟨⟨n1,m1⟩,h1,h2⟩:=h;have E:=wO f h1;have C:=ih h2<|Jy f h1 hle;exact ⟨U,U,C.2.2⟩
theorem rO {es:List (UInt8×Int)} {k:Nat} {e:UInt8×Int} (h:eG (es.take k)) (he:es[k]? =some e) (hp:∀ p,0 < k→es[k - 1]? =some p→p.1.toNat < e.1.toNat):eG (es.take<|k+1):=by
 obtain ⟨L,rfl⟩:=cH.1 he;rw [sY L];unfold eG at*;refine List.pairwise_append.2 ⟨h,by simp,fun x O y E=> ?_⟩;rw [jL] at E; subst E;obtain ⟨j,J,rfl⟩:=List.mem_iff_getElem.1 O;simp only [cC] at J;have h1:=hp es[k - 1] U<|bG U;rcases di j (k - 1) with C | C
 · have I:=Dn.1 h j (k - 1) (by rw [cC]; omega) (by rw [cC]; omega) C;rw [sR,sR] at I;rw [sR]; omega
 · have :j=k - 1:=U;subst this;rw [sR]; exact h1
theorem Av {es:List (UInt8×Int)} {k:Nat} {e p:UInt8×Int} (h0:0 < k) (he:es[k]? =some e) (hp:es[k - 1]? =some p) (h:e.1.toNat≤p.1.toNat):¬eG es:=fun hr=>by
 obtain ⟨C,rfl⟩:=cH.1 he;obtain ⟨E,rfl⟩:=cH.1 hp;have :=Dn.1 hr (k - 1) k E C U;omega
theorem B5 {f nx:Nat} {mk:List Nat} {s:Nat×List Nat} (C:nx < a.length) (hr:eG (av a nx).2) (E:eZ a f (nx+1) (mk.set nx 1) (av a nx).2=some s):vs a (f+1) (nx,mk) (nx:Int)=if fI a (av a nx)=true then some (s.1,s.2.set nx 2) else none:=by
 by_cases h:fI a (av a nx)=true
 · rw [B6 rfl C hr h,if_pos h];unfold eZ at E;rw [E]; rfl
 · rw [sn rfl C (fun e=>h e.2),if_neg h]
theorem sp {f nx k:Nat} {mk:List Nat} (E:nx < a.length) (h:eZ a f (nx+1) (mk.set nx 1) ((av a nx).2.take k)=none):vs a (f+1) (nx,mk) (nx:Int)=none:=by
 by_cases C:eG (av a nx).2∧fI a (av a nx)=true
 · rw [B6 rfl E C.1 C.2];have :=JA (es':=(av a nx).2.drop k) h;rw [List.take_append_drop] at this;unfold eZ at this;rw [this]; rfl
 · exact sn J E C
theorem B7 {f nx:Nat} {mk:List Nat} (C:nx < a.length) (h:¬eG (av a nx).2):vs a (f+1) (nx,mk) (nx:Int)=none:=sn rfl C (fun e=>h e.1)
theorem Jw {f nx:Nat} {mk:List Nat} (C:nx < a.length) (h:fI a (av a nx)=false):vs a (f+1) (nx,mk) (nx:Int)=none:=sn rfl C (fun e=>by rw [h] at e; exact Bool.noConfusion e.2)
theorem lb {f nx k:Nat} {mk:List Nat} {es:List (UInt8×Int)} {e:UInt8×Int} {s:Nat×List Nat} (h:eZ a f nx mk (es.take k)=some s) (he:es[k]? =some e):eZ a f nx mk (es.take<|k+1)=vs a f s e.2:=by
 obtain ⟨C,rfl⟩:=cH.1 he;rw [sY C];exact JB h
theorem Ac {q:aF} (h:0 < q.2.length):fI a q=true :=by grind [fI]
theorem Ab {q:aF} (h:q.1=true):fI a q=true :=by
 unfold fI; rw [h,Bool.or_true,Bool.true_or]
theorem uP {q:aF} (h:¬0 < q.2.length) (C:q.1=false):fI a q=decide (a.length=1):=by grind [fI,List.eq_nil_of_length_eq_zero]
theorem getD_set_ne (mk:List Nat) {i j:Nat} (x:Nat) (h:i≠j):(mk.set i x).getD j 0=mk.getD j 0:=by grind
theorem Jz:∀ (f:Nat) {nx C:Nat} {mk mk':List Nat} {n:Int},vs a f (nx,mk) n=some (C,mk')→(∀ i,nx≤i→mk.getD i 0=0)→∀ i,C≤i→mk'.getD i 0=0:=by
 intro f
 induction f with
 | zero=>intro nx C mk mk' n h; cases h
 | succ f ih=>
   intro nx C mk mk' n h E;have J:∀ (es:List (UInt8×Int)) (nx C:Nat) (mk mk':List Nat),es.foldlM (fun s e=>vs a f s e.2) (nx,mk)=some (C,mk')→(∀ i,nx≤i→mk.getD i 0=0)→nx≤C∧∀ i,C≤i→mk'.getD i 0=0:=by
    intro es
    induction es with
    | nil=>intro nx C mk mk' h; simp only [oz,oL,bD,gk] at h; obtain ⟨rfl,rfl⟩:=h; exact fun h=>⟨aZ _,h⟩
    | cons e es L=>
      intro nx C mk mk' h E;simp only [oy,oI,oJ] at h;obtain ⟨⟨n1,m1⟩,h1,h2⟩:=h;have g:=L _ _ _ _ h2<|ih h1 E;exact ⟨cS (wO f h1).1 g.1,g.2⟩
   rw [vs] at h;split at h
   · split at h
     · cases h; exact E
     · cases h
   · split at h
     · cases h
     · split at h
       · simp only [fR] at h;obtain ⟨⟨n1,m1⟩,h1,h2⟩:=h;simp only [gk] at h2;obtain ⟨rfl,rfl⟩:=h2;obtain ⟨O,I⟩:=J _ _ _ _ _ h1 fun i hi=>by rw [getD_set_ne _ _ U]; exact E i U
         exact fun i hi=>by rw [getD_set_ne _ _ U]; exact I i hi
       · cases h
theorem JC {f nx:Nat} {mk:List Nat} {es:List (UInt8×Int)} {s:Nat×List Nat} (h:eZ a f nx mk es=some s) (C:∀ i,nx≤i→mk.getD i 0=0):∀ i,s.1≤i→s.2.getD i 0=0:=by
 unfold eZ at h
 induction es generalizing nx mk with
 | nil=>simp only [oz,oL,bD] at h; subst h; exact C
 | cons e es ih=>
   simp only [oy,oI,oJ] at h;obtain ⟨⟨n1,m1⟩,h1,h2⟩:=h;exact ih h2<|Jz f h1 C
theorem rX (h:¬(0 < a.length∧a.length≤1048576)):shaped a=false :=by grind [shaped]
theorem Br (h:vs a (a.length+1) (0,cZ a.length 0) 0=none):shaped a=false :=by
 unfold shaped; rw [h,Bool.and_false]
theorem rY {s:Nat×List Nat} (h1:0 < a.length) (C:a.length≤1048576) (h:vs a (a.length+1) (0,cZ a.length 0) 0=some s):shaped a=decide (s.1=a.length):=by grind [shaped]
def c8 (a:List aF) (i:Nat):Nat:=min (jE a i).length 1099511627777
def jW (q:aF):Nat:=if q.1=true then 1 else 0
theorem H9 (M:Nat) {es:List (UInt8×Int)} (f g:UInt8×Int→Nat) (h:∀ e∈es,f e=min (g e) M) (x:Nat):min (x+(es.map f).sum) M=min (x+(es.map g).sum) M:=by
 induction es generalizing x with
 | nil=>rfl
 | cons e es ih=>
   simp only [eR,xC];have h1:=ih (fun e he=>h e<|by simp [he]) x;have C:=h e<|by simp
   omega
theorem GH (es:List (UInt8×Int)) (f:UInt8×Int→List (List UInt8)):(es.flatMap f).length=(es.map fun e=>(f e).length).sum:=by simp_all
theorem fE.c8 (h:fE a l) {i:Nat} (hi:i < a.length):c8 a i=min (jW (av a i)+((av a i).2.map fun e=>Hb.c8 a e.2.toNat).sum) 1099511627777:=by
 rw [H9 1099511627777 (fun e=>Hb.c8 a e.2.toNat) (fun e=>(Hb.jE a e.2.toNat).length) (fun e _=>rfl)];unfold Hb.c8;rw [h.jE hi,bQ,GH];simp only [List.length_map];congr 2;unfold jW; split <;> rfl
theorem yt (a:List aF) (i:Nat):c8 a i≤1099511627777:=Nat.min_le_right _ _
def mc (a:List aF) (es:List (UInt8×Int)):Nat:=(es.map fun e=>c8 a e.2.toNat).sum
theorem I8 (a:List aF) (es:List (UInt8×Int)):mc a es≤es.length*1099511627777:=by
 unfold mc
 induction es with
 | nil=>simp
 | cons e es ih=>
   have :=yt a e.2.toNat;simp only [eR,xC,dd]; omega
theorem I9 {es:List (UInt8×Int)} {k:Nat} {e:UInt8×Int} (he:es[k]? =some e):mc a (es.take<|k+1)=mc a (es.take k)+c8 a e.2.toNat:=by
 obtain ⟨C,rfl⟩:=cH.1 he;rw [sY C];unfold mc;rw [List.map_append,List.sum_append];simp only [eR,List.map_nil,xC,List.sum_nil,Nat.add_zero]
end
end Go.Hb
namespace Go.Hb
structure kC (h:Array Obj) (ea:Option Addr) (es:List (UInt8×Int)):Prop where
 ok:0 < es.length→ea=some ⟨bk ea,fo ea,none⟩
 b:∀ k e,es[k]? =some e→au h (bk ea) (fo ea+k*2 +0)=some (.int .u8 e.1.toNat)
 to:∀ k e,es[k]? =some e→au h (bk ea) (fo ea+k*2 +1)=some (.int .i64 e.2)
theorem kC.wk {w w':ah} {C:Option Addr} {es:List (UInt8×Int)} (h:kC w.heap C es) (hm:Wk w w'):kC w'.heap C es:=⟨h.ok,fun k e he=>hm.au (h.b k e he),fun k e he=>hm.au<|h.to k e he⟩
theorem sj {h:Array Obj} {b o:Nat} {u v:ag} (h0:au h b (o+0)=some u) (h1:au h b (o+1)=some v):∀ j,j < 2→au h b (o+j)= [u,v][j]? :=by grind
theorem kC.two {h:Array Obj} {C:Option Addr} {es:List (UInt8×Int)} (E:kC h C es) {k:Nat} {e:UInt8×Int} (he:es[k]? =some e):∀ j,j < 2→au h (bk C) (fo C+k*2 +j)= [Value.int .u8 e.1.toNat,.int .i64 e.2][j]? :=sj (E.b k e he)<|E.to k e he
structure cD (h:Array Obj) (aa:Option Addr) (a:List aF):Prop where
 ok:0 < a.length→aa=some ⟨bk aa,fo aa,none⟩
 st:∀ i,i < a.length→∃ ea ec,au h (bk aa) (fo aa+i*2 +0)=some (.bool (av a i).1)∧au h (bk aa) (fo aa+i*2 +1)=some (.slice ea (av a i).2.length ec)∧kC h ea (av a i).2
theorem cD.wk {w w':ah} {aa:Option Addr} {a:List aF} (h:cD w.heap aa a) (hm:Wk w w'):cD w'.heap aa a:=
 ⟨h.ok,fun i hi=>by
  obtain ⟨C,E,h1,I,J⟩:=h.st i hi;exact ⟨C,E,hm.au h1,hm.au I,J.wk hm⟩⟩
theorem cD.two {h:Array Obj} {aa:Option Addr} {a:List aF} (L:cD h aa a) {i:Nat} (hi:i < a.length):∃ C E,(∀ j,j < 2→au h (bk aa) (fo aa+i*2 +j)= [Value.bool (av a i).1,.slice C (av a i).2.length E][j]?)∧kC h C (av a i).2:=by
 obtain ⟨C,E,h1,I,J⟩:=L.st i hi;exact ⟨C,E,sj h1 I,J⟩
theorem vk {w:ah} {B e size n b:Nat} {xs:List ag} (h:w.ownsRow B e size (.slice (some ⟨b,0,none⟩) n n) n xs):ax w.heap b xs:=by
 rcases h.2 with ⟨hn,_⟩ | ⟨g,cap,cur,E,_,hg,_,_,I,C⟩
 · cases hn
 · simp only [ln,bD,Addr.mk.injEq,and_true,true_and] at E;obtain ⟨rfl,rfl⟩:=E;rw [jj (by rw [iB,I]; exact aZ _)] at C;exact ⟨_,by rw [← C]; simpa using hg⟩
theorem eO {w w':ah} {b o:Nat} {u v:ag} (hm:Wk w w') (h:∀ j,j < 2→au w.heap b (o+j)= [u,v][j]?):∀ j,j < 2→au w'.heap b (o+j)= [u,v][j]? :=sj (hm.au<|h 0 U)<|hm.au<|h 1 U
theorem Md.eT {F:Nat→Prop} {w w':ah} (h:Md F w.drew w'):Md F w w':=⟨h.os,h.output,h.size,h.eW⟩
def iM (n:Nat):ag:= .int .u8 n
theorem m5 {h:Array Obj} {b:Nat} {f:Nat→ag} {mk:List Nat} {i:Nat} (hb:ax h b (mk.map f)) (hi:i < mk.length):au h b (0 +i*1)=some (f<|mk.getD i 0):=by
 rw [Nat.mul_one,Nat.zero_add,hb.au,List.getElem?_map,cr,bG hi]; rfl
end Go.Hb
namespace Go.Hb
abbrev Nr:Type :=List UInt8×Nat
theorem Hx {w:ah} {B t size n cap k:Nat} {ad:Option Addr} {xs:List ag} (h:w.ownsRow B t size (.slice ad n cap) n xs) (V:k≤n) (h0:0 < n):w.ownsRow B t size (.slice ad k cap) k (xs.take<|k*size):=by
 have ae:k*size≤n*size:=iH _ V;obtain ⟨Z,h | ⟨g,ab,cur,h1,C,E,ac,I,L,O⟩⟩:=h
 · have :=h.1;simp only [ln] at this; omega
 · simp only [ln,true_and] at h1;obtain ⟨rfl,rfl⟩:=h1;exact ⟨by rw [cC,Z]; omega,.inr ⟨g,cap,cur,J,C,E,U,I,L,by rw [← O,List.take_take,show min (k*size) (n*size)=k*size from by omega]⟩⟩
theorem AM {w:ah} {B t size n pp t':Nat} {v:ag} {xs:List ag} {cs:Array ag} {z:Nat×Nat} (h:w.ownsRow B t size v n xs) (hp:w.heap[pp]? =some (.cells cs t' z)) (E:t≠t'):v.ownBlock≠some pp:=by
 intro C;rcases h.2 with ⟨h1,_⟩ | ⟨g,cap,cur,h1,_,hg,_⟩
 · rw [h1] at C; simp [eE] at C
 · rw [h1] at C; simp only [eE,bD] at C; subst C;rw [hg] at hp;simp only [bD,sK] at hp;exact E hp.2.1
end Go.Hb
namespace Go.Hb
theorem Jd {α:Type} {l:List α} {m:Nat} {x:α} (h:l[m]? =some x):l.take (m+1)=l.take m++ [x]:=by
 obtain ⟨C,rfl⟩:=cH.1 h;exact sY C
section
variable {P:ar} {N:Fm} {σ:Nat→ag} {w:ah} {ty:aq} {pos :String} {af:Array Edge} {g:Option (Nat×Bool)} {x y:aY} {K:(Nat→ag)→ah→Prop}
end
end Go.Hb
namespace Go.Hb
def Bg (l:List Nr) (c d:Nat):List Nr:=(l.drop c).take<|d - c
end Go.Hb
namespace Go.Hb
end Go.Hb
end
section
namespace Go.Hb
def dv:List UInt8→Nat
 | []=>0
 | b::l=>b.toNat % 128 +128 *dv l
theorem uQ:∀ (l m:List UInt8),dv (l++m)=dv l+128 ^ l.length*dv m
 | [],m=>by simp [dv]
 | b::l,m=>by
   rw [List.cons_append,dv,dv,uQ l m,dd,tc,Nat.mul_add,← Nat.mul_assoc,Nat.mul_comm 128 (128 ^ l.length)]; omega
theorem rq:∀ (l:List UInt8),dv l < 128 ^ l.length
 | []=>by simp [dv]
 | b::l=>by
   have :=rq l;rw [dv,dd,tc]; omega
def fm (l:List UInt8):Nat:=((l.take 10).takeWhile fun b=>decide (128≤b.toNat)).length
theorem BV {f:UInt8→Bool} :∀ {l:List UInt8} {k:Nat},(∀ j,j < k→j < l.length∧f (l.getD j 0)=true)→(l.length≤k∨f (l.getD k 0)=false)→(l.takeWhile f).length=k
 | [],k,h,_=>by
   cases k with
   | zero=>rfl
   | succ k=>have :=(h 0 U).1; simp at this
 | b::l,0,_,C=>by
   rcases C with C | C
   · simp at C
   · simp only [oB] at C;rw [Dr,C]; rfl
 | b::l,k+1,h1,C=>by
   have h0:=(h1 0 U).2;simp only [oB] at h0;rw [Dr,h0,if_pos rfl,dd,BV (k:=k) (fun j E=>by have :=h1 (j+1) U; simpa using this) (by simpa using C)]
theorem BP {l:List UInt8} {n j:Nat} (h:j < n):(l.take n).getD j 0=l.getD j 0:=by
 rw [cr,List.getElem?_take_of_lt h,cr]
theorem yV {l:List UInt8} {n j:Nat} :(l.drop n).getD j 0=l.getD (n+j) 0:=by
 rw [cr,iG,cr]
theorem ja {s:List UInt8} {a k:Nat} (L:k≤10) (h:∀ j,j < k→a+j < s.length∧128≤(s.getD (a+j) 0).toNat) (C:k=10∨s.length≤a+k∨(s.getD (a+k) 0).toNat < 128):fm (s.drop a)=k:=by
 unfold fm;refine BV (fun j I=> ?_) ?_
 · obtain ⟨h1,E⟩:=h j I;refine ⟨by rw [cC,ic]; omega,?_⟩;rw [BP U,yV];exact decide_eq_true E
 · rcases C with C | C | C
   · exact .inl<|by rw [cC]; omega
   · exact .inl<|by rw [cC,ic]; omega
   · by_cases J:k=10
     · exact .inl<|by rw [cC]; omega
     · refine .inr ?_;rw [BP U,yV];exact decide_eq_false U
def a0 (s:List UInt8) (a:Nat):Except Nat (Nat×Nat):=
 if fm (s.drop a)=10 then .error 61 else if s.length≤a+fm (s.drop a) then .error 60
 else if (fm (s.drop a)=9∧1 < (s.getD (a+fm (s.drop a)) 0).toNat)∨(0 < fm (s.drop a)∧(s.getD (a+fm (s.drop a)) 0).toNat=0) then .error 61
 else .ok (dv ((s.drop a).take<|fm (s.drop a)+1),a+fm (s.drop a)+1)
section
variable {s:List UInt8} {a k n p:Nat}
theorem A8 (h:fm (s.drop a)=10):a0 s a= .error 61:=by unfold a0; rw [if_pos h]
theorem rS (h:fm (s.drop a)=k) (C:k≠10) (E:s.length≤a+k):a0 s a= .error 60:=by unfold a0; rw [h,if_neg C,if_pos E]
theorem nP (h:fm (s.drop a)=k) (E:k≠10) (I:a+k < s.length) (C:(k=9∧1 < (s.getD (a+k) 0).toNat)∨(0 < k∧(s.getD (a+k) 0).toNat=0)):a0 s a= .error 61:=by
 unfold a0; rw [h,if_neg E,if_neg U,if_pos C]
theorem rR (h:fm (s.drop a)=k) (E:k≠10) (I:a+k < s.length) (C:¬((k=9∧1 < (s.getD (a+k) 0).toNat)∨(0 < k∧(s.getD (a+k) 0).toNat=0))):a0 s a= .ok (dv ((s.drop a).take<|k+1),a+k+1):=by
 unfold a0; rw [h,if_neg E,if_neg U,if_neg C]
theorem iy (h:a0 s a= .ok (n,p)):a < p∧p≤s.length∧n < 18446744073709551616:=by
 unfold a0 at h;split at h
 · cases h
 · split at h
   · cases h
   · split at h
     · cases h
     · rename_i h1 O V;simp only [Except.ok.injEq,gk] at h;obtain ⟨rfl,rfl⟩:=h;refine ⟨U,U,?_⟩;have ac:fm (s.drop a)≤10:=by
        unfold fm;exact cS (List.takeWhile_sublist _).length_le<|by rw [cC]; omega
       generalize ab:fm (s.drop a)=k at*;have aP:=rq<|(s.drop a).take<|k+1;have hlen:((s.drop a).take<|k+1).length=k+1:=by rw [cC,ic]; omega
       by_cases L:k=9
       · subst L;rw [show (9:Nat)+1=10 from rfl,List.take_add_one,uQ];have C:=rq<|(s.drop a).take 9;have I:((s.drop a).take 9).length=9:=by rw [cC,ic]; omega
         rw [I] at C ⊢;have J:(s.drop a)[9]? =some (s.getD (a+9) 0):=by
          rw [iG,cr,bG U]; rfl
         rw [J];simp only [Option.toList_some,dv];have Z:(s.getD (a+9) 0).toNat≤1:=U;have E:(128:Nat) ^ 9=9223372036854775808:=aM;rw [E] at C ⊢;omega
       · rw [hlen] at aP;have :(128:Nat) ^ (k+1)≤128 ^ 9:=Nat.pow_le_pow_right aM U;have E:(128:Nat) ^ 9=9223372036854775808:=aM;omega
end
def bW {α:Type} (f:Nat→Except Nat (α×Nat)):Nat→Nat→Except Nat (List α×Nat)
 | 0,a=> .ok ([],a)
 | k+1,a=>match bW f k a with
   | .error e=> .error e
   | .ok (l,p)=>match f p with
     | .error e=> .error e
     | .ok (x,q)=> .ok (l++ [x],q)
section
variable {α:Type} {f:Nat→Except Nat (α×Nat)} {k n a p q e:Nat} {l:List α} {x:α}
theorem kR (h:bW f k a= .ok (l,p)) (C:f p= .ok (x,q)):bW f (k+1) a= .ok (l++ [x],q):=by rw [bW,h]; simp only [C]
theorem gx (h:bW f k a= .ok (l,p)) (C:f p= .error e) (hn:k < n):bW f n a= .error e:=by
 have h1:bW f (k+1) a= .error e:=by rw [bW,h]; simp only [C]
 obtain ⟨d,rfl⟩:∃ d,n=k+1 +d:=⟨n - (k+1),U⟩
 clear hn
 induction d with
 | zero=>exact h1
 | succ d ih=>rw [← Nat.add_assoc,bW,ih]
theorem gO:∀ {k:Nat} {l:List α} {p:Nat},bW f k a= .ok (l,p)→l.length=k
 | 0,l,p,h=>by cases h; rfl
 | k+1,l,p,h=>by
   rw [bW] at h;split at h
   · cases h
   · rename_i E p2 C;split at h
     · cases h
     · cases h;rw [bQ,gO C]; rfl
theorem lV {R:Nat→Prop} {S:α→Prop} (I:∀ p x q,R p→f p= .ok (x,q)→R q∧S x):∀ {k:Nat} {l:List α} {p:Nat},R a→bW f k a= .ok (l,p)→R p∧∀ x∈l,S x
 | 0,l,p,ha,h=>by cases h; exact ⟨ha,fun x E=>by simp at E⟩
 | k+1,l,p,ha,h=>by
   rw [bW] at h;split at h
   · cases h
   · rename_i Z p2 J;obtain ⟨L,O⟩:=lV I ha J;split at h
     · cases h
     · rename_i x q E;cases h;obtain ⟨U,V⟩:=I _ _ _ L E;refine ⟨U,fun y C=> ?_⟩;rcases gj.1 C with C | C
       · exact O y C
       · rw [jL.1 C]; exact V
end
def cF (s:List UInt8) (a:Nat):Except Nat (List UInt8×Nat):=match a0 s a with
 | .error e=> .error e
 | .ok (n,p)=>if 255 < n then .error 62 else if s.length < p+n then .error 60 else .ok ((s.drop p).take n,p+n)
def fK (s:List UInt8) (a:Nat):Except Nat ((List UInt8×List UInt8)×Nat):=match cF s a with
 | .error e=> .error e
 | .ok (f,p)=>match cF s p with
   | .error e=> .error e
   | .ok (t,q)=> .ok ((f,t),q)
def dL (s:List UInt8) (n a:Nat):Except Nat ((UInt8×Int)×Nat):=if s.length≤a then .error 60 else match a0 s (a+1) with
 | .error e=> .error e
 | .ok (t,p)=>if n≤t then .error 190 else .ok ((s.getD a 0,(t:Int)),p)
def eN (s:List UInt8) (n a:Nat):Except Nat (aF×Nat):=match a0 s a with
 | .error e=> .error e
 | .ok (v,p)=>if 256 < v / 2 then .error 190 else match bW (dL s n) (v / 2) p with
   | .error e=> .error e
   | .ok (es,q)=> .ok ((decide (v % 2=1),es),q)
def cx (s:List UInt8) (a:Nat):Except Nat (List aF×Nat):=match a0 s a with
 | .error e=> .error e
 | .ok (n,p)=>if n=0∨1048576 < n then .error 190 else match bW (eN s n) n p with
   | .error e=> .error e
   | .ok (l,q)=>if shaped l=true then .ok (l,q) else .error 190
def gd (r:List UInt8×List UInt8):Bool:=decide (r.1≠[]) && (fi r.1 && decide (r.1.length≤32)) && (fi r.2 && decide (r.2.length≤32))
def dM (n:Nat) (t:List UInt8) (rs:List (List UInt8×List UInt8)):Bool:=decide (1≤n∧n≤64∧rs.length≤256) && (decide (t= []) || decide (letE t=(t,0))) && rs.all gd
structure cz where
 least:Nat
 tr:List UInt8
 bE:List (List UInt8×List UInt8)
 aW:List (List aF)
def ei:List UInt8:= [72,66,75,49]
def fj (s:List UInt8) (n:Nat) (t:List UInt8) (rs:List (List UInt8×List UInt8)) (a:Nat):Except Nat cz:=
 if dM n t rs=true then match bW (cx s) 4 a with
  | .error e=> .error e
  | .ok (l,p)=>if p=s.length then .ok ⟨n,t,rs,l⟩ else .error 202
 else .error 201
def bM (s:List UInt8):Except Nat cz:=
 if s.take 4=ei then match a0 s 4 with
  | .error e=> .error e
  | .ok (n,p1)=>match cF s p1 with
    | .error e=> .error e
    | .ok (t,p2)=>match a0 s p2 with
      | .error e=> .error e
      | .ok (m,p3)=>if 256 < m then .error 201 else match bW (fK s) m p3 with
        | .error e=> .error e
        | .ok (rs,p4)=>fj s (if n≤64 then n else 0) t rs p4
 else .error 200
section
variable {s:List UInt8} {a n p:Nat}
theorem nq {f:List UInt8} (h:cF s a= .ok (f,p)):a < p∧p≤s.length∧f.length≤255:=by
 unfold cF at h;split at h
 · cases h
 · rename_i n q C;obtain ⟨h1,E,_⟩:=iy C;split at h
   · cases h
   · split at h
     · cases h
     · cases h;exact ⟨U,U,by rw [cC]; omega⟩
theorem HP {r:List UInt8×List UInt8} (h:fK s a= .ok (r,p)):a < p∧p≤s.length∧r.1.length≤255∧r.2.length≤255:=by
 unfold fK at h;split at h
 · cases h
 · rename_i f q J;obtain ⟨h1,O,C⟩:=nq J;split at h
   · cases h
   · rename_i t Z L;obtain ⟨V,E,I⟩:=nq L;cases h;exact ⟨U,E,C,I⟩
theorem Fj {e:UInt8×Int} (h:dL s n a= .ok (e,p)):a < p∧p≤s.length∧0≤e.2∧e.2 < n:=by
 unfold dL at h;split at h
 · cases h
 · split at h
   · cases h
   · rename_i t q E;obtain ⟨h1,C,_⟩:=iy E;split at h
     · cases h
     · cases h;exact ⟨U,C,by show (0:Int)≤(t:Int); omega,by show (t:Int) < n; omega⟩
theorem pR {x:aF} (h:eN s n a= .ok (x,p)):a < p∧p≤s.length∧x.2.length≤256∧∀ e∈x.2,0≤e.2∧e.2 < n:=by
 unfold eN at h;split at h
 · cases h
 · rename_i v q O;obtain ⟨h1,J,_⟩:=iy O;split at h
   · cases h
   · split at h
     · cases h
     · rename_i es ad C;have ac:=gO C;obtain ⟨⟨ab,L⟩,h5⟩:=lV (R:=fun p=>q≤p∧p≤s.length) (S:=fun e:UInt8×Int=>0≤e.2∧e.2 < n) (fun p x q' hr V=>by
        obtain ⟨Z,E,I⟩:=Fj V;exact ⟨⟨U,E⟩,I⟩) ⟨aZ _,J⟩ C
       cases h;exact ⟨U,L,by show es.length≤256; omega,h5⟩
theorem Bf {l:List aF} (h:cx s a= .ok (l,p)):a < p∧p≤s.length∧shaped l=true∧l.length≤1048576∧∀ x∈l,x.2.length≤256∧∀ e∈x.2,0≤e.2∧e.2 < l.length:=by
 unfold cx at h;split at h
 · cases h
 · rename_i n q V;obtain ⟨h1,J,_⟩:=iy V;split at h
   · cases h
   · split at h
     · cases h
     · rename_i ae ag C;have O:=gO C;obtain ⟨⟨ad,L⟩,h5⟩:=lV (R:=fun p=>q≤p∧p≤s.length) (S:=fun x:aF=>x.2.length≤256∧∀ e∈x.2,0≤e.2∧e.2 < n) (fun p x q' hr ab=>by
        obtain ⟨ac,E,I⟩:=pR ab;exact ⟨⟨U,E⟩,I⟩) ⟨aZ _,J⟩ C
       split at h
       · cases h;rename_i Z;exact ⟨U,L,Z,U,by rw [O]; exact h5⟩
       · cases h
structure cz.Is (s:List UInt8) (b:cz):Prop where
 least:1≤b.least∧b.least≤64
 vf:b.bE.length≤256
 bE:∀ r∈b.bE,r.1≠[]∧r.1.length≤32∧r.2.length≤32
 tr:b.tr.length≤255
 pw:b.aW.length=4
 aW:∀ l∈b.aW,shaped l=true∧l.length≤1048576∧∀ x∈l,x.2.length≤256∧∀ e∈x.2,0≤e.2∧e.2 < l.length
theorem yO {b:cz} (h:bM s= .ok b):b.Is s:=by
 unfold bM at h;split at h
 · split at h
   · cases h
   · rename_i n p1 h1;split at h
     · cases h
     · rename_i t p2 O;split at h
       · cases h
       · rename_i m p3 V;split at h
         · cases h
         · split at h
           · cases h
           · rename_i rs p4 Z;generalize (if n≤64 then n else 0)=n0 at h;unfold fj at h;split at h
             · rename_i C;split at h
               · cases h
               · rename_i l p5 E;split at h
                 · cases h;unfold dM at C;simp only [a9,decide_eq_true_eq,List.all_eq_true] at C;obtain ⟨⟨⟨I,J,L⟩,_⟩,g4⟩:=C;refine ⟨⟨I,J⟩,L,fun r hr=> ?_,(nq O).2.2,gO E,(lV (R:=fun _=>True) (fun p x q _ U=>⟨trivial,(Bf U).2.2⟩) trivial E).2⟩;have :=g4 r hr;unfold gd at this;simp only [a9,decide_eq_true_eq] at this;exact ⟨this.1.1,this.1.2.2,this.2.2⟩
                 · cases h
             · cases h
 · cases h
end
end Go.Hb
end
section
namespace Go.Hb
section
variable {P:ar} {N:Fm} {σ:Nat→ag} {w:ah} {dst:Option Nat} {ty:aq} {pos :String} {af:Array Edge} {g:Option (Nat×Bool)} {x y:aY}
theorem uf (d:Nat) {t e:aq} {a:Option Addr} {n c:Nat} (hu:P.underlying t=some (.slice e)):(Op.equalIn (d+1) t (.slice a n c)<|.slice none 0 0).run P w= .ok a.isNone w:=by
 cases a <;> simp [Op.equalIn,bp hu]
theorem Fu {t e:aq} {a:Option Addr} {n c:Nat} (hu:P.underlying t=some (.slice e)):(Op.equal t (.slice a n c)<|.slice none 0 0).run P w= .ok a.isNone w:=uf 9999 hu
theorem ug {t t' e:aq} {a:Option Addr} {n c:Nat} (hu:P.underlying t=some (.slice e)) (C:ev N σ x= .slice a n c) (E:ev N σ y= .slice none 0 0):
 (execOp (ev N σ) ⟨dst,.binOp .eql t x y t',ty,pos,af,g⟩).run P w= .ok (.value<|.bool a.isNone) w:=by
 have h:(binOp .eql t (.slice a n c)<|.slice none 0 0).run P w= .ok (.bool a.isNone) w:=by
  simp only [binOp]; simp [Fu hu]
 simp [execOp,C,E,eqGuard,h]
end
section
variable {P:ar} {N:Fm} {σ:Nat→ag} {w:ah} {dst:Option Nat} {ty:aq} {pos :String} {af:Array Edge} {g:Option (Nat×Bool)} {x y z u:aY} {K:(Nat→ag)→ah→Prop}
theorem Ix {t n len cap:Nat} {a:Option Addr} {k J L:IntKind} {i j m:Nat} (he:cT P t=some n) (C:ev N σ x= .slice a len cap) (E:ev N σ y= .int k (i:Nat)) (I:ev N σ z= .int J (j:Nat)) (hu:ev N σ u= .int L (m:Nat)) (h:i≤j∧j≤m∧m≤cap):
 (execOp (ev N σ) ⟨dst,.slice t x (some y) (some z) (some u),ty,pos,af,g⟩).run P w= .ok (.value<|.slice (dN a m i n) (j - i)<|m - i) w:=by
 have h1:(0:Int)≤(i:Int):=U;have O:(0:Int)≤(j:Int):=U;have V:(0:Int)≤(m:Int):=U;unfold cT at he;cases hd:P.underlying t with
 | none=>rw [hd] at he; cases he
 | some d=>
   rw [hd] at he;cases d <;> first | (cases he; done) | skip
   rename_i e;cases hi':P.info? e with
   | none=>simp [hi'] at he
   | some q=>
     simp only [hi',eS,bD] at he;subst he;simp only [execOp,mM,Instr.slice,C,E,I,hu,eS,jJ,Instr.sliceBound,asIntOf];simp [bp hd,cU hi',sizeOf,h.1,h.2.1,h.2.2,dN]
end
end Go.Hb
end
section
namespace Go.Hb
theorem AL {w:ah} {B e size n g:Nat} {v:ag} {xs:List ag} {cur:Array ag} {z:Nat×Nat} (h:w.ownsRow B e size v n xs) (E:v.ownBlock=some g) (hg:w.heap[g]? =some (.cells cur e z)):∃ cap,v= .slice (some ⟨g,0,none⟩) n cap∧B≤g∧n≤cap∧cap≤maxLen∧cur.size=cap*size∧cur.toList.take (n*size)=xs:=by
 rcases h.2 with ⟨rfl,_⟩ | ⟨Z,cap,V,rfl,I,C,hle,L,O,U⟩
 · simp [eE] at E
 · simp only [eE,bD] at E;subst E;rw [hg] at C;simp only [bD,sK,true_and] at C;obtain ⟨rfl,_⟩:=C;exact ⟨cap,J,I,hle,L,O,U⟩
section
variable {P:ar} {N:Fm} {σ:Nat→ag} {w:ah} {dst:Option Nat} {ty:aq} {pos :String} {af:Array Edge} {g:Option (Nat×Bool)} {x y z:aY} {K:(Nat→ag)→ah→Prop}
theorem I4 {t B e size n cap off j:Nat} {a:Option Addr} {xs:List ag} {u:ag} (al:w.ownsRow B e size (.slice a n cap) n xs) (ar:bY P t=some 1) (ap:ev N σ x= .pointer (some ⟨bk a,off,none⟩)) (aq:ev N σ y=u) (h1:u.oneCell'=true)
 (ad:off =fo a+j) (ai:j < n*size)
 (k:∀ w',Md (fun k=>(dH a n cap).ownBlock=some k) w w'→(∀ B' I C O,w.ownsRow B' e size C I O→w'.ownsRow B' e size C I O∨w'.ownsRow B' e size C I (O.set j u))→K σ w'):bS P N ⟨none,.store t x y,ty,pos,af,g⟩ σ w K:=by
 obtain ⟨h0,h⟩:=al;rcases h with ⟨h,rfl⟩ | ⟨U,au,cur,h,av,hg,hle,aw,an,ax⟩
 · simp at ai
 · simp only [ln,true_and] at h;obtain ⟨rfl,rfl⟩:=h;have ae:off =j:=by rw [ad]; simp [fo]
   subst ae;have hlen:off < cur.toList.length:=by
    have :=iH size hle;rw [iB,an]; omega
   refine dq (L:=cur.toList) ar ap aq h1 (show w.heap[U]? =_ by simpa using hg) hlen fun w' V ab=>k w' (V.mono fun k _ E=>by subst E; rfl) fun B' I C O h'=> ?_;by_cases E:C.ownBlock=some U
   · obtain ⟨c2,rfl,ac,aj,ak,am,ao⟩:=AL h' E hg;refine .inr ⟨by rw [fy]; exact h'.1,.inr ⟨U,c2,_,J,ac,ab,aj,ak,by simpa using am,?_⟩⟩;rw [← ao];simp only;rw [List.take_set]
   · exact .inl<|cG h' V fun k ah Z=>E<|by rw [ah,Z]; rfl
theorem I5 {t B e size n cap off j:Nat} {a:Option Addr} {xs vs:List ag} (ap:w.ownsRow B e size (.slice a n cap) n xs) (av:bY P t=some size) (ar:ev N σ x= .pointer (some ⟨bk a,off,none⟩)) (au:ev N σ y= .agg vs.toArray) (ae:vs.length=size) (h1:vs.all Value.oneCell'=true)
 (al:off =fo a+j*size) (Z:j < n)
 (k:∀ w',Md (fun k=>(dH a n cap).ownBlock=some k) w w'→(∀ B' E I U,w.ownsRow B' e size I E U→∃ aw,w'.ownsRow B' e size I E aw)→K σ w'):bS P N ⟨none,.store t x y,ty,pos,af,g⟩ σ w K:=by
 obtain ⟨h0,h⟩:=ap;have aB:j*size+size≤n*size:=by rw [← Nat.succ_mul]; exact iH _ Z
 rcases h with ⟨h,rfl⟩ | ⟨O,ax,cur,h,ay,hg,hle,aA,aq,aC⟩
 · simp at Z
 · simp only [ln,true_and] at h;obtain ⟨rfl,rfl⟩:=h;have am:off =j*size:=by rw [al]; simp [fo]
   subst am;have ak:cur.toList.length=cur.size:=iB;have hlen:j*size+size≤cur.toList.length:=by
    have :=iH size hle;rw [ak,aq]; omega
   refine da (L:=cur.toList) av ar au ae h1 (show w.heap[O]? =_ by simpa using hg) hlen fun w' V ai=>k w' (V.mono fun k _ C=>by subst C; rfl) fun B' E I U h'=> ?_;by_cases C:I.ownBlock=some O
   · obtain ⟨c2,rfl,aj,ab,ao,ad,aD⟩:=AL h' C hg;have ac:(cur.toList.take (j*size)++vs++cur.toList.drop (j*size+size)).length=cur.size:=by
      rw [bQ,bQ,cC,ic,ae]; omega
     refine ⟨(cur.toList.take (j*size)++vs++cur.toList.drop (j*size+size)).take (E*size),?_,.inr ⟨O,c2,_,J,aj,ai,ab,ao,by rw [List.size_toArray,ac,ad],J⟩⟩;have :=iH size ab;rw [cC,ac,ad]; omega
   · exact ⟨U,cG h' V fun k an ah=>C<|by rw [an,ah]; rfl⟩
end
end Go.Hb
end
section
namespace Go.Hb
def F5 (f:Nat→Nat) (es:List (UInt8×Int)):Nat:=es.foldl (fun m e=>max m<|f e.2.toNat+1) 0
def hg (a:List aF):Nat→Nat→Nat
 | 0,_=>0
 | f+1,n=>F5 (hg a f) (av a n).2
section
variable {a:List aF} {l:List Nat}
end
end Go.Hb
end
section
namespace Go.Hb
theorem Gj (c:UInt8):∀ l:List UInt8,CV l c=j2 c l:=by
 intro l
 induction l with
 | nil=>rfl
 | cons b l ih=>
   unfold CV;rw [ih];rw [show j2 c (b::l)=if (b::l).idxOf c < (b::l).length then ((b::l).idxOf c:Int) else -1 from rfl,List.idxOf_cons];by_cases h:(b==c)=true
   · rw [if_pos h,h]; rfl
   · have h':(b==c)=false :=by simpa using h
     rw [if_neg h,h'];simp only [cond_false,dd];by_cases h1:l.idxOf c < l.length
     · have C:j2 c l=l.idxOf c:=if_pos h1;rw [C,if_neg (fun hb=>by have :=eq_of_beq hb; omega),if_pos U]; rfl
     · have C:j2 c l= -1:=if_neg h1;rw [C,if_pos aM,if_neg U]
theorem H8 {P:ar} {f:FuncId} {fn:Func} (C:P.funcs[f]? =some fn) (E:(fn.name== "runtime.NumGoroutine")=false) (hb:fn.body.isNone=true) (hn:Extern.findNext fn=none)
 (he:Extern.find fn=some Kp) (l:List UInt8) (c:UInt8) (w:ah):(callFunc f #[str l,.int .u8 c.toNat]).run P w= .ok (.value<|.int .i64<|j2 c l) w:=by
 rw [run_callFunc_extern C E hb hn he];unfold str;rw [Lib.run_indexByteString];have h1:((c.toNat:Int)).toNat.toUInt8=c:=UInt8.toNat_inj.1<|by simp
 rw [h1,Gj];rfl
section
variable {P:ar} {N:Fm} {σ:Nat→ag} {w:ah} {dst:Option Nat} {ty:aq} {pos :String} {af:Array Edge} {g:Option (Nat×Bool)}
end
end Go.Hb
end
section
namespace Go.Hb
section
variable {B B':Nat} {fp fp' fp'':Nat→Prop} {w w' w'':ah}
end
section
variable {F fp:Nat→Prop} {W W':ah} {B:Nat}
end
section
variable {P:ar} {N:Fm} {ops:Array Oper} {Q:Exit→(Nat→ag)→ah→Prop} {rest:List Oper} {σ:Nat→ag} {w:ah} {d':Option Nat} {d:Nat} {op:Op} {ty:aq} {pos :String} {af:Array Edge} {v:ag}
end
section
variable {P:ar} {n:Nat} {F:List Nat} {σ:Nat→ag} {w:ah} {fn:Func} {R:ag→ah→Prop}
end
def um (P:ar) (s f:Nat):Option Nat:=
 match P.underlying s with
 | some (.struct C)=>match C[f]? with
   | some fd=>if cN P fd.type=some none then some fd.offset else none
   | none=>none
 | _=>none
theorem A9 {P:ar} {t:Nat} (hu:cN P t=some none) (w:ah):(isAgg t).run P w= .ok false w:=by
 unfold cN at hu;cases hd:P.underlying t with
 | none=>rw [hd] at hu; cases hu
 | some d=>
   rw [hd] at hu;cases d <;> first
    | (simp only [fR] at hu; obtain ⟨_,_,h⟩:=hu; cases h; done)
    | simp [isAgg,bp hd]
theorem FC {P:ar} {N:Fm} {σ:Nat→ag} {w:ah} {dst:Option Nat} {ty:aq} {pos :String} {af:Array Edge} {g:Option (Nat×Bool)} {x:aY} {s f n:Nat} {cs:Array ag} {v:ag} (C:um P s f=some n) (J:ev N σ x= .agg cs) (I:cs[n]? =some v):
 (execOp (ev N σ) ⟨dst,.field s x f,ty,pos,af,g⟩).run P w= .ok (.value v) w:=by
 unfold um at C;split at C
 · rename_i L hu;split at C
   · rename_i fd E;split at C
     · rename_i ha;cases C;simp [execOp,CO,bp hu,E,J,asAgg,part,A9 ha,I]
     · cases C
   · cases C
 · cases C
section
variable {P:ar} {ops:Array Oper} {Q:Exit→Act→ah→Prop} {S:ah→Prop} {md:mR}
def Cb (P:ar) (md:mR) (ops:Array Oper) (Q:Exit→Act→ah→Prop) (S:ah→Prop):Nat→Array Bool→Act→ah→Prop
 | 0,listed,a,w=>dG md ops listed= []∧Q .normal a w
 | fuel+1,listed,a,w=>
   (dG md ops listed= []→Q .normal a w)∧
   ∀ i∈dG md ops listed,wpOpIn Fence.wide 0 P ops Q i (fun C w'=>S w'∧Cb P md ops Q S fuel (listed.setIfInBounds i true) C w') a w
end
def J8 (P:ar) (N:Fm) (ops:Array Oper) (Q:Exit→(Nat→ag)→ah→Prop) (S:ah→Prop) (fuel:Nat) (listed:Array Bool) (σ:Nat→ag) (w:ah):Prop :=
 Cb P .any ops (lift N Q) S fuel listed (act N σ) w
section
variable {P:ar} {N:Fm} {ops:Array Oper} {Q:Exit→(Nat→ag)→ah→Prop} {σ:Nat→ag} {w:ah} {d':Option Nat} {d:Nat} {op:Op} {ty:aq} {pos :String} {af:Array Edge} {v:ag}
variable {S:ah→Prop} {fuel:Nat} {listed:Array Bool}
end
attribute [irreducible] J8
end Go.Hb
end
section
namespace Go.Hb
theorem Il {L:List ag} {o:Nat} {v:ag} (h:o < L.length):(L.set o v).take (o+1)=L.take o++ [v]:=by grind [List.set_eq_take_append_cons_drop,List.take_append,cC,Nat.min_eq_left,Nat.add_sub_cancel_left,jj]
theorem Ij {L:List ag} {o m:Nat} {v:ag} (h:o < m):(L.set o v).drop m=L.drop m:=by
 rw [List.drop_set,if_pos h]
section
variable {P:ar} {N:Fm} {σ:Nat→ag} {w:ah} {ty:aq} {pos :String} {af:Array Edge} {g:Option (Nat×Bool)} {x:aY} {K:(Nat→ag)→ah→Prop}
end
end Go.Hb
end
section
namespace Go.Hb
section
variable {P:ar} {N:Fm} {σ:Nat→ag} {w:ah} {dst:Option Nat} {ty:aq} {pos :String} {af:Array Edge} {g:Option (Nat×Bool)} {x:aY}
theorem D4 {t n E b:Nat} (he:jO P t=some (n,E)) (C:ev N σ x= .pointer (some ⟨b,0,none⟩)):
 (execOp (ev N σ) ⟨dst,.slice t x none none none,ty,pos,af,g⟩).run P w= .ok (.value<|.slice (some ⟨b,0,none⟩) n n) w:=by
 unfold jO at he;cases hd:P.underlying t with
 | none=>rw [hd] at he; cases he
 | some d=>
   rw [hd] at he;cases d <;> first | (cases he; done) | skip
   rename_i m e;cases hi:P.info? e with
   | none=>simp [hi] at he
   | some j=>
     simp only [hi,eS,bD,gk] at he;obtain ⟨rfl,rfl⟩:=he;simp [execOp,mM,Instr.sureAddr,jJ,C,bp hd,sizeOf,cU hi,fh]
def uo (P:ar) (t f:Nat):Option (Nat×Nat):=
 match P.underlying t with
 | some (.struct C)=>(C[f]?).map fun d=>(d.type,d.offset)
 | _=>none
theorem FL {t f C off n:Nat} {cs vs:List ag} (h:uo P t f=some (C,off)) (ha:cN P C=some (some n)) (J:ev N σ x= .agg cs.toArray) (I:(cs.drop off).take n=vs):
 (execOp (ev N σ) ⟨dst,.field t x f,ty,pos,af,g⟩).run P w= .ok (.value<|.agg vs.toArray) w:=by
 subst I;unfold uo at h;cases hd:P.underlying t with
 | none=>rw [hd] at h; cases h
 | some d=>
   rw [hd] at h;cases d <;> first | (cases h; done) | skip
   rename_i L;simp only [fR] at h;obtain ⟨fd,E,he⟩:=h;cases he;unfold cN at ha;cases hd2:P.underlying fd.type with
   | none=>rw [hd2] at ha; cases ha
   | some d2=>
     rw [hd2] at ha;cases hi:P.info? fd.type with
     | none=>simp [Program.underlying,hi] at hd2
     | some i=>
       rw [hi] at ha;have O:cs.toArray.extract fd.offset (fd.offset+n)=((cs.drop fd.offset).take n).toArray:=by simp
       cases d2 <;> first
        | (cases ha; done)
        | (simp only [eS,bD] at ha; subst ha
           simp [execOp,CO,bp hd,E,J,asAgg,part,isAgg,bp hd2,sizeOf,cU hi])
end
end Go.Hb
end
section
set_option linter.unusedSimpArgs false
namespace Go.Hb
open Classical
structure xK (P:ar) (k:aq) (cO:ag→Prop):Prop where
 key:mX P k cO
 stays:∀ w v,cO v→(qg v v).run P w= .ok v w
def Gh (v:ag):Prop := ∃ s:List UInt8,v=str s
def zT (q:IntKind) (v:ag):Prop := ∃ a:Int,v= .int q a
theorem zu {d:TypeDesc} {cO:ag→Prop} (O:∀ x y,cO x→cO y→∃ C,xm d x y=some C∧(C=true↔x=y)) {x:ag} (U:cO x):∀ (es:List MapEntry) (i:Nat),(∀ e∈es,cO e.key)→
 (mL d x es i=some none∧∀ e∈es,e.key≠x)∨∃ j e,mL d x es i=some (some (i+j,e.val))∧es[j]? =some e∧e.key=x
 | [],i,_=> .inl ⟨rfl,fun _ h=>by simp at h⟩
 | e::es,i,h=>by
   obtain ⟨C,h1,L⟩:=O x e.key U<|h e<|by simp
   cases C with
   | true =>exact .inr ⟨0,e,by simp [mL,h1],rfl,(L.1 rfl).symm⟩
   | false =>
     have ab:e.key≠x:=fun Z=>by cases L.2 Z.symm
     rcases zu O U es (i+1) (fun e he=>h e<|by simp [he]) with ⟨E,I⟩ | ⟨j,e',E,I,V⟩
     · refine .inl ⟨by simp [mL,h1,E],fun e' J=> ?_⟩;rcases fQ.1 J with rfl | J
       · exact ab
       · exact I e' J
     · refine .inr ⟨j+1,e',?_,I,V⟩;simp only [mL,h1,E]; rw [show i+1 +j=i+(j+1) from by omega]
theorem z4 {P:ar} {k:aq} {d:TypeDesc} {cO:ag→Prop} (I:P.underlying k=some d) (O:∀ x y,cO x→cO y→∃ E,xm d x y=some E∧(E=true↔x=y)) (L:∀ em w v,cO v→(jH em 10000 k v).run P w= .ok () w):mX P k cO where
 check:=L
 find w x es hx hes:=by
  rcases zu O hx es 0 hes with ⟨h1,C⟩ | ⟨j,e,h1,C,J⟩
  · exact .inl ⟨by simp [mK,bp I,h1],C⟩
  · exact .inr ⟨j,e,by simp [mK,bp I,h1],C,J⟩
theorem x7 (a b:ByteArray):(a==b)=decide (a=b):=by
 rw [Bool.eq_iff_iff,decide_eq_true_iff];show ((a.data==b.data)=true)↔_;rw [beq_iff_eq];exact ⟨fun h=>by cases a; cases b; cases h; rfl,fun h=>by rw [h]⟩
theorem zZ {P:ar} {k:aq} (C:P.underlying k=some .string):xK P k Gh where
 key:=z4 C (by
  rintro _ _ ⟨a,rfl⟩ ⟨b,rfl⟩;refine ⟨_,J,?_⟩;rw [x7,decide_eq_true_iff];constructor
  · intro h; unfold str; rw [h]
  · intro h; unfold str at h; cases h; rfl) (by rintro em w _ ⟨a,rfl⟩; exact yo (n:=9999) C w)
 stays w v hv:=by obtain ⟨a,rfl⟩:=hv; simp [qg,CS,str,x7]
theorem Es {P:ar} {k:aq} {q r:IntKind} {em:Bool} {n:Nat} {a:Int} (C:P.underlying k=some (.int q)) (w:ah):(jH em (n+1) k<|.int r a).run P w= .ok () w:=by
 simp only [jH,Sem.run_bind,bp C,Result.andThen_ok,Sem.run_pure]
theorem zY {P:ar} {k:aq} {q r:IntKind} (C:P.underlying k=some (.int q)):xK P k (zT r) where
 key:=z4 C (by
  rintro _ _ ⟨a,rfl⟩ ⟨b,rfl⟩;refine ⟨decide (a=b),by simp [xm]; rfl,?_⟩;rw [decide_eq_true_iff];exact ⟨fun h=>by rw [h],fun h=>by cases h; rfl⟩) (by rintro em w _ ⟨a,rfl⟩; exact Es (n:=9999) C w)
 stays w v hv:=by obtain ⟨a,rfl⟩:=hv; simp [qg,CS]
section
variable {P:ar} {N:Fm} {σ:Nat→ag} {w:ah} {dst:Option Nat} {ty:aq} {pos :String} {af:Array Edge} {g:Option (Nat×Bool)} {x y z:aY} {K:(Nat→ag)→ah→Prop}
variable {t k e:aq} {cO:ag→Prop} {b:Nat} {f:ag→Option ag} {kx v zv:ag}
end
end Go.Hb
end
