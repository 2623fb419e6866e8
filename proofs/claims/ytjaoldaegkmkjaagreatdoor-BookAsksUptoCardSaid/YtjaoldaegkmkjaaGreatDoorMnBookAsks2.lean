/-
  Walks and plain laws that the law rests on, laid together. No conditions but those that each theorem names.
-/
import Derived.Test.YtjaoldaegkmkjaaGreatDoorMnBookAsks1
set_option linter.unusedVariables false
open Bool renaming and_eq_true→bg
open Go.Extern.BytealgIndexByte renaming indexByte→Ln
open Go.Instr renaming checkKey→jW,field→Dm,findKey→mY,findNow→mZ,keyThatStays→qH,sameBits→Dr,sameNow→xS,sliceAt→m3,sliceBounds→jY
open Go.Lib renaming indexByte→Dt
open Go renaming Operand→aY,Program→av,TypeId→au,Value→ag,World→ai
open Go.Region renaming Mode→m8,ready→dM
open Go.Value.slice renaming injEq→m9
open Int renaming toNat_natCast→j0
open List.Nodup renaming length_le_of_subset→DI
open List renaming append_assoc→gk,append_nil→j1,flatMap_cons→oU,foldlM_append→DQ,foldlM_cons→oW,foldlM_nil→oX,foldl_cons→kI,getD_cons_zero→tB,getD_eq_getElem?_getD→b9,getElem?_drop→iS,getElem?_eq_getElem→bK,getElem?_eq_none→iT,getElem?_eq_some_iff→cI,getElem?_map→fG,getElem?_set→oY,getElem_take→tD,idxOf_append→tE,idxOf_lt_length_of_mem→ya,length_append→bL,length_cons→dx,length_drop→gM,length_set→im,length_take→cN,map_cons→eA,map_set→DV,mem_append→ff,mem_append_left→o6,mem_cons→fQ,mem_range→qO,mem_singleton→iq,pairwise_iff_getElem→DY,range→ir,replicate→cJ,sum_cons→yc,takeWhile_cons→D4,take_of_length_le→fR,take_succ_eq_append_getElem→tJ
open Nat renaming eq_or_lt_of_le→D8,eq_zero_or_pos→D9,le_refl→aV,le_trans→cX,lt_or_ge→dk,mul_one→kO,pow_succ→tM,strongRecOn→Ee
open Option renaming bind_eq_bind→pd,bind_eq_some_iff→lS,map_eq_some_iff→fg,map_some→eV,pure_def→pj
open Option.some renaming injEq→bH
open Prod.mk renaming injEq→gq
open Go.Proofs.Tryz
open Go.RowKit

section
namespace Go.Hb
def cG {α:Type} (n:Nat) (f:Nat→α):List α:=(ir n).map f
theorem mC {α:Type} (n:Nat) (f:Nat→α):(cG n f).length=n:=by simp [cG]
theorem oH {α:Type} {n i:Nat} (f:Nat→α) (h:i < n):(cG n f)[i]? =some (f i):=by simp [cG,h]
theorem Cd {α:Type} {n:Nat} {f g:Nat→α} (h:∀ i,i < n→f i=g i):cG n f=cG n g:=
 List.map_congr_left fun i hi=>h i<|qO.1 hi
theorem Cf {α:Type} {n i:Nat} {f g:Nat→α} {x:α} (h1:g i=x) (C:∀ j,j < n→j≠i→g j=f j):(cG n f).set i x=cG n g:=by
 refine List.ext_getElem? fun j=> ?_;rw [oY,mC];by_cases A:j < n
 · rw [oH g A,oH f A];by_cases h:i=j
   · subst h; rw [if_pos rfl,if_pos A,h1]
   · rw [if_neg h,C j A (fun e=>h e.symm)]
 · rw [iT (l:=cG n g) (by rw [mC]; omega),iT (l:=cG n f) (by rw [mC]; omega)];split
   · split
     · omega
     · rfl
   · rfl
theorem Ce {α:Type} (n:Nat) (x:α):cJ n x=cG n (fun _=>x):=by simp [cG,List.map_const']
end Go.Hb
namespace Go.Hb
def nv (n:Nat):ag:= .int .i64 n
theorem AT {h:Array Obj} {a:Option Addr} {r:List Nat} {i x:Nat} (A:aU h a (r.map nv)) (hi:r[i]? =some x):az h (bk a) (fo a+i*1)=some (.int .i64 (x:Nat)):=by
 rw [kO]; exact A.az _ _<|by rw [fG,hi]; rfl
theorem lF {h:Array Obj} {a:Option Addr} {n i:Nat} {f:Nat→Nat} (A:aU h a ((cG n f).map nv)) (hi:i < n):az h (bk a) (fo a+i*1)=some (.int .i64 (f i:Nat)):=AT A<|oH f hi
theorem Ii {r:List Nat} (h:0 < r.length):r.map nv≠[]:=nQ h
theorem nR {n:Nat} {f:Nat→Nat} (h:0 < n):(cG n f).map nv≠[]:=nQ<|by rw [mC]; exact h
theorem J6 {n i x:Nat} {f g:Nat→Nat} (h1:g i=x) (A:∀ j,j < n→j≠i→g j=f j):((cG n f).map nv).set i (.int .i64 (x:Nat))=(cG n g).map nv:=by
 rw [← Cf (f:=f) h1 A,DV]; rfl
theorem IS (n:Nat):cJ n (Value.int .i64 0)=(cG n fun _=>0).map nv:=by rw [← Ce,List.map_replicate]; rfl
theorem Jq (r:List Nat) (i x:Nat):(r.map nv).set i (.int .i64 (x:Nat))=(r.set i x).map nv:=by rw [DV]; rfl
section
variable {P:av} {N:Fm} {σ:Nat→ag} {w:ai} {dst:Option Nat} {ty:au} {pos :String} {af:Array Edge} {g:Option (Nat×Bool)} {x y z:aY}
theorem xf {K:(Nat→ag)→ai→Prop} {t B e n cap off i v:Nat} {a:Option Addr} {f:Nat→Nat} (L:w.ownsRow B e 1 (.slice a n cap) n ((cG n f).map nv)) (A:Nat→Nat) (V:cr P t=some 1) (M:ev N σ x= .pointer (some ⟨bk a,off,none⟩)) (O:ev N σ y= .int .i64 (v:Nat))
 (J:off =fo a+i*1) (Z:i < n) (h1:A i=v) (E:∀ j,j < n→j≠i→A j=f j)
 (k:∀ w',Md (fun k=>(Value.slice a n cap).ownBlock=some k) w w'→w'.ownsRow B e 1 (.slice a n cap) n ((cG n A).map nv)→K σ w'):bW P N ⟨none,.store t x y,ty,pos,af,g⟩ σ w K:=
 sO (j:=i) L V M O rfl (by rw [J,kO]) U fun w' I C=>k w' I<|by rw [J6 h1 E] at C; exact C
end
end Go.Hb
namespace Go.Hb
abbrev aG:Type :=Bool×List (UInt8×Int)
def dI:aG:=(false,[])
abbrev aw (a:List aG) (n:Nat):aG:=a.getD n dI
def eN (l:List (UInt8×Int)):Prop :=l.Pairwise fun x y=>x.1.toNat < y.1.toNat
instance (l:List (UInt8×Int)):Decidable (eN l):=by unfold eN; infer_instance
def fL (a:List aG) (p:aG):Bool:=decide (p.2≠[]) || p.1 || decide (a.length=1)
def vs (a:List aG):Nat→Nat×List Nat→Int→Option (Nat×List Nat)
 | 0,_,_=>none
 | f+1,(nx,mk),n=>
   if n≠nx then (if 0≤n∧n < nx∧mk.getD n.toNat 0=2 then some (nx,mk) else none)
   else if a.length≤nx then none
   else if eN (aw a nx).2∧fL a (aw a nx)=true then
    ((aw a nx).2.foldlM (fun s e=>vs a f s e.2) (nx+1,mk.set nx 1)).map fun s=>(s.1,s.2.set nx 2)
   else none
def shaped (a:List aG):Bool:=decide (0 < a.length) && decide (a.length≤1048576) && match vs a (a.length+1) (0,cJ a.length 0) 0 with
 | some s=>decide (s.1=a.length)
 | none=>false
section
variable {a:List aG}
theorem xy:∀ (f:Nat) {nx A:Nat} {mk mk':List Nat} {n:Int},vs a f (nx,mk) n=some (A,mk')→nx≤A∧mk'.length=mk.length:=by
 intro f
 induction f with
 | zero=>intro nx A mk mk' n h; cases h
 | succ f ih=>
   intro nx A mk mk' n h;have C:∀ (es:List (UInt8×Int)) (nx A:Nat) (mk mk':List Nat),es.foldlM (fun s e=>vs a f s e.2) (nx,mk)=some (A,mk')→nx≤A∧mk'.length=mk.length:=by
    intro es
    induction es with
    | nil=>intro nx A mk mk' h; simp only [oX,pj,bH,gq] at h; obtain ⟨rfl,rfl⟩:=h; exact ⟨aV _,rfl⟩
    | cons e es E=>
      intro nx A mk mk' h;simp only [oW,pd,lS] at h;obtain ⟨⟨n1,m1⟩,h1,h2⟩:=h;have I:=ih h1;have J:=E _ _ _ _ h2;exact ⟨U,U⟩
   rw [vs] at h;split at h
   · split at h
     · cases h; exact ⟨aV _,rfl⟩
     · cases h
   · split at h
     · cases h
     · split at h
       · simp only [fg] at h;obtain ⟨⟨n1,m1⟩,h1,h2⟩:=h;simp only [gq] at h2;obtain ⟨rfl,rfl⟩:=h2;have :=C _ _ _ _ _ h1;simp only [im] at this ⊢;exact ⟨U,this.2⟩
       · cases h
def Iu (a:List aG) (l:List Nat) (i:Nat):Prop :=i < a.length∧eN (aw a i).2∧fL a (aw a i)=true∧∀ e∈(aw a i).2,0≤e.2∧e.2.toNat∈l
inductive Ord (a:List aG):List Nat→Prop
 | nil:Ord a []
 | snoc {l i} :Ord a l→Iu a l i→i∉l→Ord a (l++ [i])
def tT (a:List aG) (i:Nat):Prop := ∃ j,j < i∧∃ e∈(aw a j).2,e.2=(i:Int)
structure pn (a:List aG) (nx:Nat) (mk:List Nat) (l:List Nat):Prop where
 ord:Ord a l
 len:mk.length=a.length
 le:nx≤a.length
 done :∀ i,mk.getD i 0=2↔i∈l
 lt:∀ i∈l,i < nx
 zero:∀ i,nx≤i→mk.getD i 0=0
theorem kf (mk:List Nat) (i j x:Nat) (h:i < mk.length):(mk.set i x).getD j 0=if i=j then x else mk.getD j 0:=by grind
theorem Kt:∀ (f:Nat) {nx J:Nat} {mk mk':List Nat} {n:Int} {l:List Nat},vs a f (nx,mk) n=some (J,mk')→pn a nx mk l→
 ∃ C,pn a J mk' (l++C)∧(∀ i,i < nx→mk'.getD i 0=mk.getD i 0)∧(∀ i,nx≤i→i < J→i∈C)∧0≤n∧n.toNat∈l++C∧(∀ i,nx≤i→i < J→(i:Int)=n∨tT a i):=by
 intro f
 induction f with
 | zero=>intro nx J mk mk' n l h; cases h
 | succ f ih=>
   intro nx J mk mk' n l h V;rw [vs] at h;split at h
   · rename_i hn;split at h
     · rename_i L;cases h;exact ⟨[],by rw [j1]; exact V,fun _ _=>rfl,fun i h1 A=>by omega,L.1,by rw [j1]; exact (V.done _).1 L.2.2,fun i h1 A=>by omega⟩
     · cases h
   · rename_i hn;have hn:n=nx:=Classical.not_not.1 hn;split at h
     · cases h
     · rename_i aP;split at h
       · rename_i L;simp only [fg] at h;obtain ⟨⟨n1,m1⟩,h1,A⟩:=h;simp only [gq] at A;obtain ⟨rfl,rfl⟩:=A;have ab:nx < mk.length:=by rw [V.len]; omega
         have aj:pn a (nx+1) (mk.set nx 1) l:=by
          refine ⟨V.ord,by rw [im]; exact V.len,U,fun i=> ?_,fun i hi=>by have :=V.lt i hi; omega,fun i hi=> ?_⟩
          · rw [kf _ _ _ _ ab];by_cases e:nx=i
            · subst e; rw [if_pos rfl];exact ⟨fun h=>by omega,fun h=>by have :=V.lt _ h; omega⟩
            · rw [if_neg e]; exact V.done i
          · rw [kf _ _ _ _ ab,if_neg U]; exact V.zero i U
         have au:∀ (es:List (UInt8×Int)) (k I:Nat) (m M:List Nat) (l:List Nat),(∀ e∈es,e∈(aw a nx).2)→nx+1≤k→es.foldlM (fun s e=>vs a f s e.2) (k,m)=some (I,M)→pn a k m l→
          ∃ C,pn a I M (l++C)∧(∀ i,i < k→M.getD i 0=m.getD i 0)∧(∀ i,k≤i→i < I→i∈C)∧(∀ e∈es,0≤e.2∧e.2.toNat∈l++C)∧(∀ i,k≤i→i < I→tT a i)∧k≤I:=by
          intro es
          induction es with
          | nil=>
            intro k I m M l _ _ h V;simp only [oX,pj,bH,gq] at h;obtain ⟨rfl,rfl⟩:=h;exact ⟨[],by rw [j1]; exact V,fun _ _=>rfl,fun i h1 A=>by omega,fun e he=>by simp at he,fun i h1 A=>by omega,aV _⟩
          | cons e es ax=>
            intro k I m M l ah aA h V;simp only [oW,pd,lS] at h;obtain ⟨⟨ai,m1⟩,g1,g2⟩:=h;obtain ⟨ay,ak,al,am,an,ao,ap⟩:=ih g1 V;have aB:=(xy f g1).1;obtain ⟨az,X1,O,ac,ad,ae,aq⟩:=ax _ _ _ _ _ (fun e he=>ah e<|by simp [he]) U g2 ak;rw [gk] at X1;refine ⟨ay++az,X1,fun i hi=>(O i U).trans (al i hi),fun i h1 A=> ?_,fun ar ag=> ?_,fun i h1 A=> ?_,U⟩
            · rcases dk i ai with h | h
              · exact o6 _<|am i h1 h
              · exact List.mem_append_right _<|ac i h A
            · rcases fQ.1 ag with rfl | ag
              · refine ⟨an,?_⟩;rw [← gk]; exact o6 _ ao
              · have :=ad ar ag;rw [gk] at this; exact this
            · rcases dk i ai with h | h
              · rcases ap i h1 h with E | E
                · exact ⟨nx,U,e,ah e (by simp),E.symm⟩
                · exact E
              · exact ae i h A
         obtain ⟨C,X1,O,ac,ad,ae,aq⟩:=au _ _ _ _ _ _ (fun _ h=>h) (aV _) h1 aj;have jG:nx < m1.length:=by rw [X1.len]; omega
         have av:nx∉l++C:=fun h=>by
          have E:=(X1.done nx).2 h;rw [O nx U,kf _ _ _ _ ab,if_pos rfl] at E; omega
         refine ⟨C++ [nx],?_,fun i hi=> ?_,fun i A E=> ?_,U,?_,fun i A E=> ?_⟩
         · rw [← gk];refine ⟨.snoc X1.ord ⟨U,L.1,L.2,ad⟩ av,by rw [im]; exact X1.len,X1.le,fun i=> ?_,fun i hi=> ?_,fun i hi=> ?_⟩
           · rw [kf _ _ _ _ jG,ff,iq];by_cases e:nx=i
             · subst e; rw [if_pos rfl]; exact ⟨fun _=> .inr rfl,fun _=>rfl⟩
             · rw [if_neg e,X1.done i]; exact ⟨.inl,fun h=>h.elim id fun h=>absurd h.symm e⟩
           · rw [ff,iq] at hi;rcases hi with hi | rfl
             · exact X1.lt i hi
             · omega
           · rw [kf _ _ _ _ jG,if_neg U]; exact X1.zero i hi
         · rw [kf _ _ _ _ jG,if_neg U,O i U,kf _ _ _ _ ab,if_neg U]
         · rw [ff,iq];rcases D8 A with Z | Z
           · exact .inr Z.symm
           · exact .inl<|ac i U E
         · rw [← gk,ff,iq]; right; omega
         · rcases D8 A with Z | Z
           · left; omega
           · exact .inr<|ae i U E
       · cases h
structure dn (a:List aG) (l:List Nat):Prop where
 pos :0 < a.length
 le:a.length≤1048576
 ord:Ord a l
 all:∀ i,i < a.length→i∈l
 met:∀ i,0 < i→i < a.length→tT a i
theorem qo (h:shaped a=true):∃ l,dn a l:=by
 unfold shaped at h;simp only [bg,decide_eq_true_eq] at h;obtain ⟨⟨h1,J⟩,A⟩:=h;split at A
 · rename_i s L;obtain ⟨k,m⟩:=s;have A:=of_decide_eq_true A;simp only at A;subst A;have C:∀ i,(cJ a.length 0).getD i 0=0:=fun i=>by
    rw [b9,List.getElem?_replicate]; split <;> rfl
   obtain ⟨l,V,_,E,_,_,I⟩:=Kt (l:= []) _ L ⟨.nil,by simp,U,fun i=>by rw [C]; simp,fun i hi=>by simp at hi,fun i _=>C i⟩;refine ⟨l,h1,J,by simpa using V.ord,fun i hi=>E i U hi,fun i h0 hi=>(I i U hi).resolve_left U⟩
 · cases A
def lg (a:List aG):Nat→Nat→List (List UInt8)
 | 0,_=> []
 | f+1,n=>(if (aw a n).1=true then [[]] else [])++(aw a n).2.flatMap fun e=>(lg a f e.2.toNat).map (e.1:: ·)
def jT (a:List aG) (n:Nat):List (List UInt8):=lg a a.length n
theorem zU {α β:Type} {l:List α} {f g:α→List β} (h:∀ x∈l,f x=g x):l.flatMap f=l.flatMap g:=by
 induction l with
 | nil=>rfl
 | cons x l ih=>rw [oU,oU,h x (by simp),ih fun y A=>h y (by simp [A])]
theorem Ord.lt {l:List Nat} (h:Ord a l):∀ i∈l,i < a.length:=by
 induction h with
 | nil=>intro i hi; simp at hi
 | snoc _ A _ ih=>intro i hi; rcases ff.1 hi with h | h; exact ih i h; rw [iq] at h; subst h; exact A.1
theorem Ord.st {l:List Nat} (h:Ord a l):∀ i∈l,eN (aw a i).2∧fL a (aw a i)=true∧∀ e∈(aw a i).2,0≤e.2∧e.2.toNat∈l:=by
 induction h with
 | nil=>intro i hi; simp at hi
 | snoc _ A _ ih=>
   intro i hi;rcases ff.1 hi with h | h
   · obtain ⟨h1,E,C⟩:=ih i h; exact ⟨h1,E,fun e he=>⟨(C e he).1,o6 _ (C e he).2⟩⟩
   · rw [iq] at h; subst h; exact ⟨A.2.1,A.2.2.1,fun e he=>⟨(A.2.2.2 e he).1,o6 _ (A.2.2.2 e he).2⟩⟩
theorem Ord.pF {l:List Nat} (h:Ord a l):∀ i∈l,∀ e∈(aw a i).2,l.idxOf e.2.toNat < l.idxOf i:=by
 induction h with
 | nil=>intro i hi; simp at hi
 | @snoc l i0 _ E _ ih=>
   intro i hi e he;by_cases h:i∈l
   · have h1:=ih i h e he;have A:e.2.toNat∈l:=List.idxOf_lt_length_iff.1<|Nat.lt_trans h1<|ya h;rw [tE,tE,if_pos A,if_pos h]; exact h1
   · rcases ff.1 hi with C | C
     · exact absurd C h
     · rw [iq] at C; subst C;have A:=(E.2.2.2 e he).2;rw [tE,tE,if_pos A,if_neg h];have :=ya A;omega
theorem HN {l:List Nat} (h:Ord a l):∀ (r i f A:Nat),i∈l→l.idxOf i≤r→r < f→r < A→lg a f i=lg a A i:=by
 intro r
 induction r with
 | zero=>
   intro i f A hi hr I J;obtain ⟨g,rfl⟩:∃ g,f=g+1:=⟨f - 1,U⟩
   obtain ⟨C,rfl⟩:∃ C,A=C+1:=⟨A - 1,U⟩
   rw [lg,lg];congr 1;refine zU fun e he=> ?_;have :=h.pF i hi e he; omega
 | succ r ih=>
   intro i f A hi hr I J;obtain ⟨g,rfl⟩:∃ g,f=g+1:=⟨f - 1,U⟩
   obtain ⟨C,rfl⟩:∃ C,A=C+1:=⟨A - 1,U⟩
   rw [lg,lg];congr 1;refine zU fun e he=> ?_;have h1:=h.pF i hi e he;have E:=((h.st i hi).2.2 e he).2;rw [ih _ g C E U U U]
theorem Ord.nd {l:List Nat} (h:Ord a l):l.Nodup:=by
 induction h with
 | nil=>exact List.nodup_nil
 | snoc _ _ hn ih=>exact List.nodup_append.2 ⟨ih,by simp,fun x C y A e=>by rw [iq] at A; subst A; subst e; exact hn C⟩
theorem Ord.length {l:List Nat} (h:Ord a l):l.length≤a.length:=by
 have :=DI h.nd (l₂:=ir a.length) fun i hi=>qO.2<|h.lt i hi;simpa using this
variable {l:List Nat}
theorem dn.rk (h:dn a l) {i:Nat} (hi:i < a.length):l.idxOf i < a.length:=Nat.lt_of_lt_of_le (ya<|h.all i hi) h.ord.length
theorem dn.mb (h:dn a l) {i:Nat} (hi:i < a.length) {e:UInt8×Int} (he:e∈(aw a i).2):0≤e.2∧e.2.toNat < a.length∧l.idxOf e.2.toNat < l.idxOf i:=
 ⟨((h.ord.st i<|h.all i hi).2.2 e he).1,h.ord.lt _ ((h.ord.st i<|h.all i hi).2.2 e he).2,h.ord.pF i (h.all i hi) e he⟩
theorem dn.og (h:dn a l) {i:Nat} (hi:i < a.length):eN (aw a i).2:=(h.ord.st i<|h.all i hi).1
theorem eN.len {es:List (UInt8×Int)} (h:eN es):es.length≤256:=by
 have h1:(es.map fun e=>e.1.toNat).Pairwise (· < ·):=List.pairwise_map.2 h;have A:(es.map fun e=>e.1.toNat).Nodup:=h1.imp fun h=>Nat.ne_of_lt h;have :=DI A (l₂:=ir 256) fun i hi=>by
  obtain ⟨e,_,rfl⟩:=List.mem_map.1 hi;exact qO.2 e.1.toNat_lt
 simpa using this
theorem dn.jT (h:dn a l) {i:Nat} (hi:i < a.length):jT a i=(if (aw a i).1=true then [[]] else [])++(aw a i).2.flatMap fun e=>(jT a e.2.toNat).map (e.1:: ·):=by
 have hr:=h.rk hi;unfold Hb.jT;rw [HN h.ord (l.idxOf i) i a.length (a.length+1) (h.all i hi) (aV _) hr U,lg]
theorem xz {f nx:Nat} {mk:List Nat} {n:Int} (h:n≠nx):vs a (f+1) (nx,mk) n=if 0≤n∧n < nx∧mk.getD n.toNat 0=2 then some (nx,mk) else none:=by rw [vs,if_pos h]
theorem CE {f nx:Nat} {mk:List Nat} {n:Int} (h:n=nx) (A:a.length≤nx):vs a (f+1) (nx,mk) n=none:=by rw [vs,if_neg (fun e=>e h),if_pos A]
theorem sT {f nx:Nat} {mk:List Nat} {n:Int} (h:n=nx) (A:nx < a.length) (C:¬(eN (aw a nx).2∧fL a (aw a nx)=true)):vs a (f+1) (nx,mk) n=none:=by grind [vs]
theorem CC {f nx:Nat} {mk:List Nat} {n:Int} (h:n=nx) (A:nx < a.length) (C:eN (aw a nx).2) (E:fL a (aw a nx)=true):
 vs a (f+1) (nx,mk) n=((aw a nx).2.foldlM (fun s e=>vs a f s e.2) (nx+1,mk.set nx 1)).map fun s=>(s.1,s.2.set nx 2):=by grind [vs]
theorem Ku:∀ (f:Nat) {nx A:Nat} {mk mk':List Nat} {n:Int},vs a f (nx,mk) n=some (A,mk')→nx≤a.length→A≤a.length:=by
 intro f
 induction f with
 | zero=>intro nx A mk mk' n h; cases h
 | succ f ih=>
   intro nx A mk mk' n h hle;have C:∀ (es:List (UInt8×Int)) (nx A:Nat) (mk mk':List Nat),es.foldlM (fun s e=>vs a f s e.2) (nx,mk)=some (A,mk')→nx≤a.length→A≤a.length:=by
    intro es
    induction es with
    | nil=>intro nx A mk mk' h; simp only [oX,pj,bH,gq] at h; obtain ⟨rfl,rfl⟩:=h; exact id
    | cons e es E=>
      intro nx A mk mk' h hle;simp only [oW,pd,lS] at h;obtain ⟨⟨n1,m1⟩,h1,h2⟩:=h;exact E _ _ _ _ h2<|ih h1 hle
   rw [vs] at h;split at h
   · split at h
     · cases h; exact hle
     · cases h
   · split at h
     · cases h
     · split at h
       · simp only [fg] at h;obtain ⟨⟨n1,m1⟩,h1,h2⟩:=h;simp only [gq] at h2;obtain ⟨rfl,rfl⟩:=h2;exact C _ _ _ _ _ h1 U
       · cases h
def e9 (a:List aG) (f nx:Nat) (mk:List Nat) (es:List (UInt8×Int)):Option (Nat×List Nat):=es.foldlM (fun s e=>vs a f s e.2) (nx,mk)
theorem Kx {f nx:Nat} {mk:List Nat} {es:List (UInt8×Int)} {e:UInt8×Int} {s:Nat×List Nat} (h:e9 a f nx mk es=some s):e9 a f nx mk (es++ [e])=vs a f s e.2:=by
 unfold e9 at*;rw [DQ,h];simp
theorem Kw {f nx:Nat} {mk:List Nat} {es es':List (UInt8×Int)} (h:e9 a f nx mk es=none):e9 a f nx mk (es++es')=none:=by grind [e9,DQ]
theorem sV {f nx:Nat} {mk:List Nat} {es:List (UInt8×Int)} {s:Nat×List Nat} (h:e9 a f nx mk es=some s) (hle:nx≤a.length):nx≤s.1∧s.2.length=mk.length∧s.1≤a.length:=by
 unfold e9 at h
 induction es generalizing nx mk with
 | nil=>simp only [oX,pj,bH] at h; subst h; exact ⟨aV _,rfl,hle⟩
 | cons e es ih=>
   simp only [oW,pd,lS] at h;obtain ⟨⟨n1,m1⟩,h1,h2⟩:=h;have C:=xy f h1;have A:=ih h2<|Ku f h1 hle;exact ⟨U,U,A.2.2⟩
theorem ss {es:List (UInt8×Int)} {k:Nat} {e:UInt8×Int} (h:eN (es.take k)) (he:es[k]? =some e) (hp:∀ p,0 < k→es[k - 1]? =some p→p.1.toNat < e.1.toNat):eN (es.take<|k+1):=by
 obtain ⟨J,rfl⟩:=cI.1 he;rw [tJ J];unfold eN at*;refine List.pairwise_append.2 ⟨h,by simp,fun x L y C=> ?_⟩;rw [iq] at C; subst C;obtain ⟨j,I,rfl⟩:=List.mem_iff_getElem.1 L;simp only [cN] at I;have h1:=hp es[k - 1] U<|bK U;rcases dk j (k - 1) with A | A
 · have E:=DY.1 h j (k - 1) (by rw [cN]; omega) (by rw [cN]; omega) A;rw [tD,tD] at E;rw [tD]; omega
 · have :j=k - 1:=U;subst this;rw [tD]; exact h1
theorem AR {es:List (UInt8×Int)} {k:Nat} {e p:UInt8×Int} (h0:0 < k) (he:es[k]? =some e) (hp:es[k - 1]? =some p) (h:e.1.toNat≤p.1.toNat):¬eN es:=fun hr=>by
 obtain ⟨A,rfl⟩:=cI.1 he;obtain ⟨C,rfl⟩:=cI.1 hp;have :=DY.1 hr (k - 1) k C A U;omega
theorem CA {f nx:Nat} {mk:List Nat} {s:Nat×List Nat} (A:nx < a.length) (hr:eN (aw a nx).2) (C:e9 a f (nx+1) (mk.set nx 1) (aw a nx).2=some s):vs a (f+1) (nx,mk) (nx:Int)=if fL a (aw a nx)=true then some (s.1,s.2.set nx 2) else none:=by
 by_cases h:fL a (aw a nx)=true
 · rw [CC rfl A hr h,if_pos h];unfold e9 at C;rw [C]; rfl
 · rw [sT rfl A (fun e=>h e.2),if_neg h]
theorem sU {f nx k:Nat} {mk:List Nat} (C:nx < a.length) (h:e9 a f (nx+1) (mk.set nx 1) ((aw a nx).2.take k)=none):vs a (f+1) (nx,mk) (nx:Int)=none:=by
 by_cases A:eN (aw a nx).2∧fL a (aw a nx)=true
 · rw [CC rfl C A.1 A.2];have :=Kw (es':=(aw a nx).2.drop k) h;rw [List.take_append_drop] at this;unfold e9 at this;rw [this]; rfl
 · exact sT J C A
theorem CD {f nx:Nat} {mk:List Nat} (A:nx < a.length) (h:¬eN (aw a nx).2):vs a (f+1) (nx,mk) (nx:Int)=none:=sT rfl A (fun e=>h e.1)
theorem Ks {f nx:Nat} {mk:List Nat} (A:nx < a.length) (h:fL a (aw a nx)=false):vs a (f+1) (nx,mk) (nx:Int)=none:=sT rfl A (fun e=>by rw [h] at e; exact Bool.noConfusion e.2)
theorem lI {f nx k:Nat} {mk:List Nat} {es:List (UInt8×Int)} {e:UInt8×Int} {s:Nat×List Nat} (h:e9 a f nx mk (es.take k)=some s) (he:es[k]? =some e):e9 a f nx mk (es.take<|k+1)=vs a f s e.2:=by
 obtain ⟨A,rfl⟩:=cI.1 he;rw [tJ A];exact Kx h
theorem Ax {q:aG} (h:0 < q.2.length):fL a q=true :=by grind [fL]
theorem Aw {q:aG} (h:q.1=true):fL a q=true :=by
 unfold fL; rw [h,Bool.or_true,Bool.true_or]
theorem vp {q:aG} (h:¬0 < q.2.length) (A:q.1=false):fL a q=decide (a.length=1):=by grind [fL,List.eq_nil_of_length_eq_zero]
theorem getD_set_ne (mk:List Nat) {i j:Nat} (x:Nat) (h:i≠j):(mk.set i x).getD j 0=mk.getD j 0:=by grind
theorem Kv:∀ (f:Nat) {nx A:Nat} {mk mk':List Nat} {n:Int},vs a f (nx,mk) n=some (A,mk')→(∀ i,nx≤i→mk.getD i 0=0)→∀ i,A≤i→mk'.getD i 0=0:=by
 intro f
 induction f with
 | zero=>intro nx A mk mk' n h; cases h
 | succ f ih=>
   intro nx A mk mk' n h C;have I:∀ (es:List (UInt8×Int)) (nx A:Nat) (mk mk':List Nat),es.foldlM (fun s e=>vs a f s e.2) (nx,mk)=some (A,mk')→(∀ i,nx≤i→mk.getD i 0=0)→nx≤A∧∀ i,A≤i→mk'.getD i 0=0:=by
    intro es
    induction es with
    | nil=>intro nx A mk mk' h; simp only [oX,pj,bH,gq] at h; obtain ⟨rfl,rfl⟩:=h; exact fun h=>⟨aV _,h⟩
    | cons e es J=>
      intro nx A mk mk' h C;simp only [oW,pd,lS] at h;obtain ⟨⟨n1,m1⟩,h1,h2⟩:=h;have g:=J _ _ _ _ h2<|ih h1 C;exact ⟨cX (xy f h1).1 g.1,g.2⟩
   rw [vs] at h;split at h
   · split at h
     · cases h; exact C
     · cases h
   · split at h
     · cases h
     · split at h
       · simp only [fg] at h;obtain ⟨⟨n1,m1⟩,h1,h2⟩:=h;simp only [gq] at h2;obtain ⟨rfl,rfl⟩:=h2;obtain ⟨L,E⟩:=I _ _ _ _ _ h1 fun i hi=>by rw [getD_set_ne _ _ U]; exact C i U
         exact fun i hi=>by rw [getD_set_ne _ _ U]; exact E i hi
       · cases h
theorem Ky {f nx:Nat} {mk:List Nat} {es:List (UInt8×Int)} {s:Nat×List Nat} (h:e9 a f nx mk es=some s) (A:∀ i,nx≤i→mk.getD i 0=0):∀ i,s.1≤i→s.2.getD i 0=0:=by
 unfold e9 at h
 induction es generalizing nx mk with
 | nil=>simp only [oX,pj,bH] at h; subst h; exact A
 | cons e es ih=>
   simp only [oW,pd,lS] at h;obtain ⟨⟨n1,m1⟩,h1,h2⟩:=h;exact ih h2<|Kv f h1 A
theorem sE (h:¬(0 < a.length∧a.length≤1048576)):shaped a=false :=by grind [shaped]
theorem BI (h:vs a (a.length+1) (0,cJ a.length 0) 0=none):shaped a=false :=by
 unfold shaped; rw [h,Bool.and_false]
theorem sF {s:Nat×List Nat} (h1:0 < a.length) (A:a.length≤1048576) (h:vs a (a.length+1) (0,cJ a.length 0) 0=some s):shaped a=decide (s.1=a.length):=by grind [shaped]
def bT (a:List aG) (i:Nat):Nat:=min (jT a i).length 1099511627777
def eb (q:aG):Nat:=if q.1=true then 1 else 0
theorem Jh (M:Nat) {es:List (UInt8×Int)} (f g:UInt8×Int→Nat) (h:∀ e∈es,f e=min (g e) M) (x:Nat):min (x+(es.map f).sum) M=min (x+(es.map g).sum) M:=by
 induction es generalizing x with
 | nil=>rfl
 | cons e es ih=>
   simp only [eA,yc];have h1:=ih (fun e he=>h e<|by simp [he]) x;have A:=h e<|by simp
   omega
theorem HJ (es:List (UInt8×Int)) (f:UInt8×Int→List (List UInt8)):(es.flatMap f).length=(es.map fun e=>(f e).length).sum:=by simp_all
theorem dn.bT (h:dn a l) {i:Nat} (hi:i < a.length):bT a i=min (eb (aw a i)+((aw a i).2.map fun e=>Hb.bT a e.2.toNat).sum) 1099511627777:=by
 rw [Jh 1099511627777 (fun e=>Hb.bT a e.2.toNat) (fun e=>(Hb.jT a e.2.toNat).length) (fun e _=>rfl)];unfold Hb.bT;rw [h.jT hi,bL,HJ];simp only [List.length_map];congr 2;unfold eb; split <;> rfl
theorem uq (a:List aG) (i:Nat):bT a i≤1099511627777:=Nat.min_le_right _ _
def gf (a:List aG) (es:List (UInt8×Int)):Nat:=(es.map fun e=>bT a e.2.toNat).sum
theorem B8 (a:List aG) (es:List (UInt8×Int)):gf a es≤es.length*1099511627777:=by
 unfold gf
 induction es with
 | nil=>simp
 | cons e es ih=>
   have :=uq a e.2.toNat;simp only [eA,yc,dx]; omega
theorem B9 {es:List (UInt8×Int)} {k:Nat} {e:UInt8×Int} (he:es[k]? =some e):gf a (es.take<|k+1)=gf a (es.take k)+bT a e.2.toNat:=by
 obtain ⟨A,rfl⟩:=cI.1 he;rw [tJ A];unfold gf;rw [List.map_append,List.sum_append];simp only [eA,List.map_nil,yc,List.sum_nil,Nat.add_zero]
end
end Go.Hb
namespace Go.Hb
structure kQ (h:Array Obj) (ea:Option Addr) (es:List (UInt8×Int)):Prop where
 ok:0 < es.length→ea=some ⟨bk ea,fo ea,none⟩
 b:∀ k e,es[k]? =some e→az h (bk ea) (fo ea+k*2 +0)=some (.int .u8 e.1.toNat)
 to:∀ k e,es[k]? =some e→az h (bk ea) (fo ea+k*2 +1)=some (.int .i64 e.2)
theorem kQ.wk {w w':ai} {A:Option Addr} {es:List (UInt8×Int)} (h:kQ w.heap A es) (hm:Wk w w'):kQ w'.heap A es:=⟨h.ok,fun k e he=>hm.az (h.b k e he),fun k e he=>hm.az<|h.to k e he⟩
theorem xm {h:Array Obj} {b o:Nat} {u v:ag} (h0:az h b (o+0)=some u) (h1:az h b (o+1)=some v):∀ j,j < 2→az h b (o+j)= [u,v][j]? :=by grind
theorem kQ.two {h:Array Obj} {A:Option Addr} {es:List (UInt8×Int)} (C:kQ h A es) {k:Nat} {e:UInt8×Int} (he:es[k]? =some e):∀ j,j < 2→az h (bk A) (fo A+k*2 +j)= [Value.int .u8 e.1.toNat,.int .i64 e.2][j]? :=xm (C.b k e he)<|C.to k e he
structure cU (h:Array Obj) (aa:Option Addr) (a:List aG):Prop where
 ok:0 < a.length→aa=some ⟨bk aa,fo aa,none⟩
 st:∀ i,i < a.length→∃ ea ec,az h (bk aa) (fo aa+i*2 +0)=some (.bool (aw a i).1)∧az h (bk aa) (fo aa+i*2 +1)=some (.slice ea (aw a i).2.length ec)∧kQ h ea (aw a i).2
theorem cU.wk {w w':ai} {aa:Option Addr} {a:List aG} (h:cU w.heap aa a) (hm:Wk w w'):cU w'.heap aa a:=
 ⟨h.ok,fun i hi=>by
  obtain ⟨A,C,h1,E,I⟩:=h.st i hi;exact ⟨A,C,hm.az h1,hm.az E,I.wk hm⟩⟩
theorem cU.two {h:Array Obj} {aa:Option Addr} {a:List aG} (J:cU h aa a) {i:Nat} (hi:i < a.length):∃ A C,(∀ j,j < 2→az h (bk aa) (fo aa+i*2 +j)= [Value.bool (aw a i).1,.slice A (aw a i).2.length C][j]?)∧kQ h A (aw a i).2:=by
 obtain ⟨A,C,h1,E,I⟩:=J.st i hi;exact ⟨A,C,xm h1 E,I⟩
theorem vR {w:ai} {B e size n b:Nat} {xs:List ag} (h:w.ownsRow B e size (.slice (some ⟨b,0,none⟩) n n) n xs):aA w.heap b xs:=by
 rcases h.2 with ⟨hn,_⟩ | ⟨g,cap,cur,C,_,hg,_,_,E,A⟩
 · cases hn
 · simp only [m9,bH,Addr.mk.injEq,and_true,true_and] at C;obtain ⟨rfl,rfl⟩:=C;rw [fR (by rw [Array.length_toList,E]; exact aV _)] at A;exact ⟨_,by rw [← A]; simpa using hg⟩
theorem jS {w w':ai} {b o:Nat} {u v:ag} (hm:Wk w w') (h:∀ j,j < 2→az w.heap b (o+j)= [u,v][j]?):∀ j,j < 2→az w'.heap b (o+j)= [u,v][j]? :=xm (hm.az<|h 0 U)<|hm.az<|h 1 U
theorem Md.gA {F:Nat→Prop} {w w':ai} (h:Md F w.drew w'):Md F w w':=⟨h.os,h.output,h.size,h.eY⟩
def iZ (n:Nat):ag:= .int .u8 n
theorem np {h:Array Obj} {b:Nat} {f:Nat→ag} {mk:List Nat} {i:Nat} (hb:aA h b (mk.map f)) (hi:i < mk.length):az h b (0 +i*1)=some (f<|mk.getD i 0):=by
 rw [kO,Nat.zero_add,hb.az,fG,b9,bK hi]; rfl
end Go.Hb
namespace Go.Hb
abbrev Nr:Type :=List UInt8×Nat
theorem IF {w:ai} {B t size n cap k:Nat} {ad:Option Addr} {xs:List ag} (h:w.ownsRow B t size (.slice ad n cap) n xs) (M:k≤n) (h0:0 < n):w.ownsRow B t size (.slice ad k cap) k (xs.take<|k*size):=by
 have ab:k*size≤n*size:=Nat.mul_le_mul_right _ M;obtain ⟨O,h | ⟨g,V,cur,h1,A,C,Z,E,I,L⟩⟩:=h
 · have :=h.1;simp only [m9] at this; omega
 · simp only [m9,true_and] at h1;obtain ⟨rfl,rfl⟩:=h1;exact ⟨by rw [cN,O]; omega,.inr ⟨g,cap,cur,J,A,C,U,E,I,by rw [← L,List.take_take,show min (k*size) (n*size)=k*size from by omega]⟩⟩
end Go.Hb
namespace Go.Hb
theorem qx {α:Type} {l:List α} {m:Nat} {x:α} (h:l[m]? =some x):l.take (m+1)=l.take m++ [x]:=by
 obtain ⟨A,rfl⟩:=cI.1 h;exact tJ A
section
variable {P:av} {N:Fm} {σ:Nat→ag} {w:ai} {ty:au} {pos :String} {af:Array Edge} {g:Option (Nat×Bool)} {x y:aY} {K:(Nat→ag)→ai→Prop}
end
end Go.Hb
namespace Go.Hb
def Bx (l:List Nr) (c d:Nat):List Nr:=(l.drop c).take<|d - c
end Go.Hb
namespace Go.Hb
end Go.Hb
end
section
namespace Go.Hb
def dA:List UInt8→Nat
 | []=>0
 | b::l=>b.toNat % 128 +128 *dA l
theorem vq:∀ (l m:List UInt8),dA (l++m)=dA l+128 ^ l.length*dA m
 | [],m=>by simp [dA]
 | b::l,m=>by
   rw [List.cons_append,dA,dA,vq l m,dx,tM,Nat.mul_add,← Nat.mul_assoc,Nat.mul_comm 128 (128 ^ l.length)]; omega
theorem rS:∀ (l:List UInt8),dA l < 128 ^ l.length
 | []=>by simp [dA]
 | b::l=>by
   have :=rS l;rw [dA,dx,tM]; omega
def fv (l:List UInt8):Nat:=((l.take 10).takeWhile fun b=>decide (128≤b.toNat)).length
theorem Cq {f:UInt8→Bool} :∀ {l:List UInt8} {k:Nat},(∀ j,j < k→j < l.length∧f (l.getD j 0)=true)→(l.length≤k∨f (l.getD k 0)=false)→(l.takeWhile f).length=k
 | [],k,h,_=>by
   cases k with
   | zero=>rfl
   | succ k=>have :=(h 0 U).1; simp at this
 | b::l,0,_,A=>by
   rcases A with A | A
   · simp at A
   · simp only [tB] at A;rw [D4,A]; rfl
 | b::l,k+1,h1,A=>by
   have h0:=(h1 0 U).2;simp only [tB] at h0;rw [D4,h0,if_pos rfl,dx,Cq (k:=k) (fun j C=>by have :=h1 (j+1) U; simpa using this) (by simpa using A)]
theorem Ch {l:List UInt8} {n j:Nat} (h:j < n):(l.take n).getD j 0=l.getD j 0:=by
 rw [b9,List.getElem?_take_of_lt h,b9]
theorem zr {l:List UInt8} {n j:Nat} :(l.drop n).getD j 0=l.getD (n+j) 0:=by
 rw [b9,iS,b9]
theorem jm {s:List UInt8} {a k:Nat} (J:k≤10) (h:∀ j,j < k→a+j < s.length∧128≤(s.getD (a+j) 0).toNat) (A:k=10∨s.length≤a+k∨(s.getD (a+k) 0).toNat < 128):fv (s.drop a)=k:=by
 unfold fv;refine Cq (fun j E=> ?_) ?_
 · obtain ⟨h1,C⟩:=h j E;refine ⟨by rw [cN,gM]; omega,?_⟩;rw [Ch U,zr];exact decide_eq_true C
 · rcases A with A | A | A
   · exact .inl<|by rw [cN]; omega
   · exact .inl<|by rw [cN,gM]; omega
   · by_cases I:k=10
     · exact .inl<|by rw [cN]; omega
     · refine .inr ?_;rw [Ch U,zr];exact decide_eq_false U
def bf (s:List UInt8) (a:Nat):Except Nat (Nat×Nat):=
 if fv (s.drop a)=10 then .error 61 else if s.length≤a+fv (s.drop a) then .error 60
 else if (fv (s.drop a)=9∧1 < (s.getD (a+fv (s.drop a)) 0).toNat)∨(0 < fv (s.drop a)∧(s.getD (a+fv (s.drop a)) 0).toNat=0) then .error 61
 else .ok (dA ((s.drop a).take<|fv (s.drop a)+1),a+fv (s.drop a)+1)
section
variable {s:List UInt8} {a k n p:Nat}
theorem Bo (h:fv (s.drop a)=10):bf s a= .error 61:=by unfold bf; rw [if_pos h]
theorem sy (h:fv (s.drop a)=k) (A:k≠10) (C:s.length≤a+k):bf s a= .error 60:=by unfold bf; rw [h,if_neg A,if_pos C]
theorem oo (h:fv (s.drop a)=k) (C:k≠10) (E:a+k < s.length) (A:(k=9∧1 < (s.getD (a+k) 0).toNat)∨(0 < k∧(s.getD (a+k) 0).toNat=0)):bf s a= .error 61:=by
 unfold bf; rw [h,if_neg C,if_neg U,if_pos A]
theorem sx (h:fv (s.drop a)=k) (C:k≠10) (E:a+k < s.length) (A:¬((k=9∧1 < (s.getD (a+k) 0).toNat)∨(0 < k∧(s.getD (a+k) 0).toNat=0))):bf s a= .ok (dA ((s.drop a).take<|k+1),a+k+1):=by
 unfold bf; rw [h,if_neg C,if_neg U,if_neg A]
theorem iJ (h:bf s a= .ok (n,p)):a < p∧p≤s.length∧n < 18446744073709551616:=by
 unfold bf at h;split at h
 · cases h
 · split at h
   · cases h
   · split at h
     · cases h
     · rename_i h1 L M;simp only [Except.ok.injEq,gq] at h;obtain ⟨rfl,rfl⟩:=h;refine ⟨U,U,?_⟩;have Z:fv (s.drop a)≤10:=by
        unfold fv;exact cX (List.takeWhile_sublist _).length_le<|by rw [cN]; omega
       generalize V:fv (s.drop a)=k at*;have aP:=rS<|(s.drop a).take<|k+1;have hlen:((s.drop a).take<|k+1).length=k+1:=by rw [cN,gM]; omega
       by_cases J:k=9
       · subst J;rw [show (9:Nat)+1=10 from rfl,List.take_add_one,vq];have A:=rS<|(s.drop a).take 9;have E:((s.drop a).take 9).length=9:=by rw [cN,gM]; omega
         rw [E] at A ⊢;have I:(s.drop a)[9]? =some (s.getD (a+9) 0):=by
          rw [iS,b9,bK U]; rfl
         rw [I];simp only [Option.toList_some,dA];have O:(s.getD (a+9) 0).toNat≤1:=U;have C:(128:Nat) ^ 9=9223372036854775808:=aX;rw [C] at A ⊢;omega
       · rw [hlen] at aP;have :(128:Nat) ^ (k+1)≤128 ^ 9:=Nat.pow_le_pow_right aX U;have C:(128:Nat) ^ 9=9223372036854775808:=aX;omega
end
def cm {α:Type} (f:Nat→Except Nat (α×Nat)):Nat→Nat→Except Nat (List α×Nat)
 | 0,a=> .ok ([],a)
 | k+1,a=>match cm f k a with
   | .error e=> .error e
   | .ok (l,p)=>match f p with
     | .error e=> .error e
     | .ok (x,q)=> .ok (l++ [x],q)
section
variable {α:Type} {f:Nat→Except Nat (α×Nat)} {k n a p q e:Nat} {l:List α} {x:α}
theorem ll (h:cm f k a= .ok (l,p)) (A:f p= .ok (x,q)):cm f (k+1) a= .ok (l++ [x],q):=by rw [cm,h]; simp only [A]
theorem gD (h:cm f k a= .ok (l,p)) (A:f p= .error e) (hn:k < n):cm f n a= .error e:=by
 have h1:cm f (k+1) a= .error e:=by rw [cm,h]; simp only [A]
 obtain ⟨d,rfl⟩:∃ d,n=k+1 +d:=⟨n - (k+1),U⟩
 clear hn
 induction d with
 | zero=>exact h1
 | succ d ih=>rw [← Nat.add_assoc,cm,ih]
theorem gW:∀ {k:Nat} {l:List α} {p:Nat},cm f k a= .ok (l,p)→l.length=k
 | 0,l,p,h=>by cases h; rfl
 | k+1,l,p,h=>by
   rw [cm] at h;split at h
   · cases h
   · rename_i C p2 A;split at h
     · cases h
     · cases h;rw [bL,gW A]; rfl
theorem mj {R:Nat→Prop} {S:α→Prop} (E:∀ p x q,R p→f p= .ok (x,q)→R q∧S x):∀ {k:Nat} {l:List α} {p:Nat},R a→cm f k a= .ok (l,p)→R p∧∀ x∈l,S x
 | 0,l,p,ha,h=>by cases h; exact ⟨ha,fun x C=>by simp at C⟩
 | k+1,l,p,ha,h=>by
   rw [cm] at h;split at h
   · cases h
   · rename_i U p2 I;obtain ⟨J,L⟩:=mj E ha I;split at h
     · cases h
     · rename_i x q C;cases h;obtain ⟨M,O⟩:=E _ _ _ J C;refine ⟨M,fun y A=> ?_⟩;rcases ff.1 A with A | A
       · exact L y A
       · rw [iq.1 A]; exact O
end
def cP (s:List UInt8) (a:Nat):Except Nat (List UInt8×Nat):=match bf s a with
 | .error e=> .error e
 | .ok (n,p)=>if 255 < n then .error 62 else if s.length < p+n then .error 60 else .ok ((s.drop p).take n,p+n)
def fM (s:List UInt8) (a:Nat):Except Nat ((List UInt8×List UInt8)×Nat):=match cP s a with
 | .error e=> .error e
 | .ok (f,p)=>match cP s p with
   | .error e=> .error e
   | .ok (t,q)=> .ok ((f,t),q)
def dO (s:List UInt8) (n a:Nat):Except Nat ((UInt8×Int)×Nat):=if s.length≤a then .error 60 else match bf s (a+1) with
 | .error e=> .error e
 | .ok (t,p)=>if n≤t then .error 190 else .ok ((s.getD a 0,(t:Int)),p)
def eT (s:List UInt8) (n a:Nat):Except Nat (aG×Nat):=match bf s a with
 | .error e=> .error e
 | .ok (v,p)=>if 256 < v / 2 then .error 190 else match cm (dO s n) (v / 2) p with
   | .error e=> .error e
   | .ok (es,q)=> .ok ((decide (v % 2=1),es),q)
def cM (s:List UInt8) (a:Nat):Except Nat (List aG×Nat):=match bf s a with
 | .error e=> .error e
 | .ok (n,p)=>if n=0∨1048576 < n then .error 190 else match cm (eT s n) n p with
   | .error e=> .error e
   | .ok (l,q)=>if shaped l=true then .ok (l,q) else .error 190
def gd (r:List UInt8×List UInt8):Bool:=decide (r.1≠[]) && (fj r.1 && decide (r.1.length≤32)) && (fj r.2 && decide (r.2.length≤32))
def dR (n:Nat) (t:List UInt8) (rs:List (List UInt8×List UInt8)):Bool:=decide (1≤n∧n≤64∧rs.length≤256) && (decide (t= []) || decide (letE t=(t,0))) && rs.all gd
structure cY where
 least:Nat
 tr:List UInt8
 jP:List (List UInt8×List UInt8)
 fC:List (List aG)
def ew:List UInt8:= [72,66,75,49]
def fk (s:List UInt8) (n:Nat) (t:List UInt8) (rs:List (List UInt8×List UInt8)) (a:Nat):Except Nat cY:=
 if dR n t rs=true then match cm (cM s) 4 a with
  | .error e=> .error e
  | .ok (l,p)=>if p=s.length then .ok ⟨n,t,rs,l⟩ else .error 202
 else .error 201
def bS (s:List UInt8):Except Nat cY:=
 if s.take 4=ew then match bf s 4 with
  | .error e=> .error e
  | .ok (n,p1)=>match cP s p1 with
    | .error e=> .error e
    | .ok (t,p2)=>match bf s p2 with
      | .error e=> .error e
      | .ok (m,p3)=>if 256 < m then .error 201 else match cm (fM s) m p3 with
        | .error e=> .error e
        | .ok (rs,p4)=>fk s (if n≤64 then n else 0) t rs p4
 else .error 200
section
variable {s:List UInt8} {a n p:Nat}
theorem nH {f:List UInt8} (h:cP s a= .ok (f,p)):a < p∧p≤s.length∧f.length≤255:=by
 unfold cP at h;split at h
 · cases h
 · rename_i n q A;obtain ⟨h1,C,_⟩:=iJ A;split at h
   · cases h
   · split at h
     · cases h
     · cases h;exact ⟨U,U,by rw [cN]; omega⟩
theorem I3 {r:List UInt8×List UInt8} (h:fM s a= .ok (r,p)):a < p∧p≤s.length∧r.1.length≤255∧r.2.length≤255:=by
 unfold fM at h;split at h
 · cases h
 · rename_i f q I;obtain ⟨h1,L,A⟩:=nH I;split at h
   · cases h
   · rename_i t O J;obtain ⟨M,C,E⟩:=nH J;cases h;exact ⟨U,C,A,E⟩
theorem Gg {e:UInt8×Int} (h:dO s n a= .ok (e,p)):a < p∧p≤s.length∧0≤e.2∧e.2 < n:=by
 unfold dO at h;split at h
 · cases h
 · split at h
   · cases h
   · rename_i t q C;obtain ⟨h1,A,_⟩:=iJ C;split at h
     · cases h
     · cases h;exact ⟨U,A,by show (0:Int)≤(t:Int); omega,by show (t:Int) < n; omega⟩
theorem qt {x:aG} (h:eT s n a= .ok (x,p)):a < p∧p≤s.length∧x.2.length≤256∧∀ e∈x.2,0≤e.2∧e.2 < n:=by
 unfold eT at h;split at h
 · cases h
 · rename_i v q L;obtain ⟨h1,I,_⟩:=iJ L;split at h
   · cases h
   · split at h
     · cases h
     · rename_i es ab A;have Z:=gW A;obtain ⟨⟨V,J⟩,h5⟩:=mj (R:=fun p=>q≤p∧p≤s.length) (S:=fun e:UInt8×Int=>0≤e.2∧e.2 < n) (fun p x q' hr M=>by
        obtain ⟨O,C,E⟩:=Gg M;exact ⟨⟨U,C⟩,E⟩) ⟨aV _,I⟩ A
       cases h;exact ⟨U,J,by show es.length≤256; omega,h5⟩
theorem Bu {l:List aG} (h:cM s a= .ok (l,p)):a < p∧p≤s.length∧shaped l=true∧l.length≤1048576∧∀ x∈l,x.2.length≤256∧∀ e∈x.2,0≤e.2∧e.2 < l.length:=by
 unfold cM at h;split at h
 · cases h
 · rename_i n q M;obtain ⟨h1,I,_⟩:=iJ M;split at h
   · cases h
   · split at h
     · cases h
     · rename_i ac ad A;have L:=gW A;obtain ⟨⟨ab,J⟩,h5⟩:=mj (R:=fun p=>q≤p∧p≤s.length) (S:=fun x:aG=>x.2.length≤256∧∀ e∈x.2,0≤e.2∧e.2 < n) (fun p x q' hr V=>by
        obtain ⟨Z,C,E⟩:=qt V;exact ⟨⟨U,C⟩,E⟩) ⟨aV _,I⟩ A
       split at h
       · cases h;rename_i O;exact ⟨U,J,O,U,by rw [L]; exact h5⟩
       · cases h
structure cY.Is (s:List UInt8) (b:cY):Prop where
 least:1≤b.least∧b.least≤64
 Lw:b.jP.length≤256
 jP:∀ r∈b.jP,r.1≠[]∧r.1.length≤32∧r.2.length≤32
 tr:b.tr.length≤255
 AS:b.fC.length=4
 fC:∀ l∈b.fC,shaped l=true∧l.length≤1048576∧∀ x∈l,x.2.length≤256∧∀ e∈x.2,0≤e.2∧e.2 < l.length
theorem zj {b:cY} (h:bS s= .ok b):b.Is s:=by
 unfold bS at h;split at h
 · split at h
   · cases h
   · rename_i n p1 h1;split at h
     · cases h
     · rename_i t p2 L;split at h
       · cases h
       · rename_i m p3 O;split at h
         · cases h
         · split at h
           · cases h
           · rename_i rs p4 U;generalize (if n≤64 then n else 0)=n0 at h;unfold fk at h;split at h
             · rename_i A;split at h
               · cases h
               · rename_i l p5 C;split at h
                 · cases h;unfold dR at A;simp only [bg,decide_eq_true_eq,List.all_eq_true] at A;obtain ⟨⟨⟨E,I,J⟩,_⟩,g4⟩:=A;refine ⟨⟨E,I⟩,J,fun r hr=> ?_,(nH L).2.2,gW C,(mj (R:=fun _=>True) (fun p x q _ M=>⟨trivial,(Bu M).2.2⟩) trivial C).2⟩;have :=g4 r hr;unfold gd at this;simp only [bg,decide_eq_true_eq] at this;exact ⟨this.1.1,this.1.2.2,this.2.2⟩
                 · cases h
             · cases h
 · cases h
end
end Go.Hb
end
section
namespace Go.Hb
section
variable {P:av} {N:Fm} {σ:Nat→ag} {w:ai} {dst:Option Nat} {ty:au} {pos :String} {af:Array Edge} {g:Option (Nat×Bool)} {x y:aY}
theorem zL (d:Nat) {t e:au} {a:Option Addr} {n c:Nat} (hu:P.underlying t=some (.slice e)):(Op.equalIn (d+1) t (.slice a n c)<|.slice none 0 0).run P w= .ok a.isNone w:=by
 cases a <;> simp [Op.equalIn,bu hu]
end
section
variable {P:av} {N:Fm} {σ:Nat→ag} {w:ai} {dst:Option Nat} {ty:au} {pos :String} {af:Array Edge} {g:Option (Nat×Bool)} {x y z u:aY} {K:(Nat→ag)→ai→Prop}
theorem JA {t n len cap:Nat} {a:Option Addr} {k I J:IntKind} {i j m:Nat} (he:cV P t=some n) (A:ev N σ x= .slice a len cap) (C:ev N σ y= .int k (i:Nat)) (E:ev N σ z= .int I (j:Nat)) (hu:ev N σ u= .int J (m:Nat)) (h:i≤j∧j≤m∧m≤cap):
 (execOp (ev N σ) ⟨dst,.slice t x (some y) (some z) (some u),ty,pos,af,g⟩).run P w= .ok (.value<|.slice (dS a m i n) (j - i)<|m - i) w:=by
 have h1:(0:Int)≤(i:Int):=U;have L:(0:Int)≤(j:Int):=U;have M:(0:Int)≤(m:Int):=U;unfold cV at he;cases hd:P.underlying t with
 | none=>rw [hd] at he; cases he
 | some d=>
   rw [hd] at he;cases d <;> first | (cases he; done) | skip
   rename_i e;cases hi':P.info? e with
   | none=>simp [hi'] at he
   | some q=>
     simp only [hi',eV,bH] at he;subst he;simp only [execOp,m3,Instr.slice,A,C,E,hu,eV,jY,Instr.sliceBound,asIntOf];simp [bu hd,c9 hi',sizeOf,h.1,h.2.1,h.2.2,dS]
end
end Go.Hb
end
section
namespace Go.Hb
def k9 (f:Nat→Nat) (es:List (UInt8×Int)):Nat:=es.foldl (fun m e=>max m<|f e.2.toNat+1) 0
def hg (a:List aG):Nat→Nat→Nat
 | 0,_=>0
 | f+1,n=>k9 (hg a f) (aw a n).2
def bA (a:List aG) (n:Nat):Nat:=hg a a.length n
theorem Ab (f:Nat→Nat) (es:List (UInt8×Int)) (e:UInt8×Int):k9 f (es++ [e])=max (k9 f es) (f e.2.toNat+1):=by
 unfold k9; rw [List.foldl_append]; rfl
theorem foldl_max {f:Nat→Nat} :∀ (es:List (UInt8×Int)) (m:Nat),m≤es.foldl (fun m e=>max m<|f e.2.toNat+1) m∧∀ e∈es,f e.2.toNat+1≤es.foldl (fun m e=>max m<|f e.2.toNat+1) m
 | [],m=>⟨aV _,fun e he=>by simp at he⟩
 | e::es,m=>by
   obtain ⟨h1,C⟩:=foldl_max (f:=f) es<|max m<|f e.2.toNat+1;rw [kI];refine ⟨U,fun A he=> ?_⟩;rcases fQ.1 he with rfl | he
   · omega
   · exact C A he
theorem G7 {f:Nat→Nat} {es:List (UInt8×Int)} {e:UInt8×Int} (he:e∈es):f e.2.toNat < k9 f es:=(foldl_max es 0).2 e he
theorem foldl_congr {f g:Nat→Nat} :∀ (es:List (UInt8×Int)) (m:Nat),(∀ e∈es,f e.2.toNat=g e.2.toNat)→es.foldl (fun m e=>max m<|f e.2.toNat+1) m=es.foldl (fun m e=>max m<|g e.2.toNat+1) m
 | [],_,_=>rfl
 | e::es,m,h=>by rw [kI,kI,h e (by simp)]; exact foldl_congr es _ fun A he=>h A<|by simp [he]
section
variable {a:List aG} {l:List Nat}
theorem G8:∀ (f n:Nat),hg a f n≤f:=by
 intro f
 induction f with
 | zero=>intro n; exact aV _
 | succ f ih=>
   intro n;rw [hg];unfold k9;have key:∀ (es:List (UInt8×Int)) (m:Nat),m≤f+1→es.foldl (fun m e=>max m<|hg a f e.2.toNat+1) m≤f+1:=by
    intro es
    induction es with
    | nil=>intro m h; exact h
    | cons e es A=>intro m h; rw [kI]; have :=ih e.2.toNat; exact A _ U
   exact key _ 0 U
theorem G9 (h:Ord a l):∀ (r i f A:Nat),i∈l→l.idxOf i≤r→r < f→r < A→hg a f i=hg a A i:=by
 intro r
 induction r with
 | zero=>
   intro i f A hi hr E I;obtain ⟨g,rfl⟩:∃ g,f=g+1:=⟨f - 1,U⟩
   obtain ⟨C,rfl⟩:∃ C,A=C+1:=⟨A - 1,U⟩
   rw [hg,hg];exact foldl_congr _ _ fun e he=>by have :=h.pF i hi e he; omega
 | succ r ih=>
   intro i f A hi hr E I;obtain ⟨g,rfl⟩:∃ g,f=g+1:=⟨f - 1,U⟩
   obtain ⟨C,rfl⟩:∃ C,A=C+1:=⟨A - 1,U⟩
   rw [hg,hg];exact foldl_congr _ _ fun e he=>by
    have h1:=h.pF i hi e he;exact ih _ g C ((h.st i hi).2.2 e he).2 U U U
theorem dn.bA (h:dn a l) {i:Nat} (hi:i < a.length):bA a i=k9 (Hb.bA a) (aw a i).2:=by
 have hr:=h.rk hi;unfold Hb.bA;rw [G9 h.ord (l.idxOf i) i a.length (a.length+1) (h.all i hi) (aV _) hr U,hg]
theorem va (a:List aG) (i:Nat):bA a i≤a.length:=G8 _ _
theorem dn.aP (h:dn a l) {i:Nat} (hi:i < a.length) {e:UInt8×Int} (he:e∈(aw a i).2):Hb.bA a e.2.toNat < Hb.bA a i:=by
 rw [h.bA hi]; exact G7 he
theorem dn.Ad (h:dn a l):∀ i,i < a.length→Hb.bA a i≤Hb.bA a 0:=by
 intro i
 induction i using Ee with
 | ind i ih=>
   intro hi;rcases D9 i with rfl | h0
   · exact aV _
   · obtain ⟨j,C,e,he,A⟩:=h.met i h0 hi;have h1:=h.aP (show j < a.length by omega) he;rw [A,j0] at h1;have E:=ih j C U;omega
structure HI (a:List aG) (hs:List Int):Prop where
 len:hs.length=a.length
 ok:∀ i,i < a.length→hs.getD i 0= -1∨(hs.getD i 0=(Hb.bA a i:Nat)∧∀ e∈(aw a i).2,hs.getD e.2.toNat 0≠ -1)
theorem HI.all (h:dn a l) {A:List Int} (C:HI a A) (h0:A.getD 0 0≠ -1):∀ i,i < a.length→A.getD i 0=(Hb.bA a i:Nat):=by
 have key:∀ i,i < a.length→A.getD i 0≠ -1:=by
  intro i
  induction i using Ee with
  | ind i ih=>
    intro hi;rcases D9 i with rfl | hp
    · exact h0
    · obtain ⟨j,I,e,he,E⟩:=h.met i hp hi;rcases C.ok j U with h1 | ⟨_,h1⟩
      · exact absurd h1<|ih j I U
      · have :=h1 e he;rw [E,j0] at this; exact this
 intro i hi;exact ((C.ok i hi).resolve_left<|key i hi).1
theorem nI (A:List Int) (i j:Nat) (x:Int) (h:i < A.length):(A.set i x).getD j 0=if i=j then x else A.getD j 0:=by
 simp only [b9,oY];by_cases e:i=j
 · subst e; rw [if_pos rfl,if_pos h,if_pos rfl]; rfl
 · rw [if_neg e,if_neg e]
theorem HI.put {A:List Int} (E:HI a A) {i:Nat} (hi:i < a.length) (O:∀ e∈(aw a i).2,A.getD e.2.toNat 0≠ -1):HI a (A.set i (Hb.bA a i:Nat))∧(∀ j,A.getD j 0≠ -1→(A.set i (Hb.bA a i:Nat)).getD j 0≠ -1)∧(A.set i (Hb.bA a i:Nat)).getD i 0≠ -1:=by
 have C:i < A.length:=by rw [E.len]; exact hi
 have L:∀ j,A.getD j 0≠ -1→(A.set i (Hb.bA a i:Nat)).getD j 0≠ -1:=fun j I=>by
  rw [nI _ _ _ _ C];split
  · omega
  · exact I
 refine ⟨⟨by rw [im]; exact E.len,fun j I=> ?_⟩,L,by rw [nI _ _ _ _ C,if_pos J]; omega⟩;by_cases e:i=j
 · subst e;exact .inr ⟨by rw [nI _ _ _ _ C,if_pos J],fun e he=>L _<|O e he⟩
 · rcases E.ok j I with h1 | ⟨h1,M⟩
   · left; rw [nI _ _ _ _ C,if_neg e]; exact h1
   · right; exact ⟨by rw [nI _ _ _ _ C,if_neg e]; exact h1,fun e he=>L _<|M e he⟩
end
end Go.Hb
end
section
namespace Go.Hb
theorem Hn (c:UInt8):∀ l:List UInt8,Dt l c=ki c l:=by
 intro l
 induction l with
 | nil=>rfl
 | cons b l ih=>
   unfold Dt;rw [ih];rw [show ki c (b::l)=if (b::l).idxOf c < (b::l).length then ((b::l).idxOf c:Int) else -1 from rfl,List.idxOf_cons];by_cases h:(b==c)=true
   · rw [if_pos h,h]; rfl
   · have h':(b==c)=false :=by simpa using h
     rw [if_neg h,h'];simp only [cond_false,dx];by_cases h1:l.idxOf c < l.length
     · have A:ki c l=l.idxOf c:=if_pos h1;rw [A,if_neg (fun hb=>by have :=eq_of_beq hb; omega),if_pos U]; rfl
     · have A:ki c l= -1:=if_neg h1;rw [A,if_pos aX,if_neg U]
theorem Jg {P:av} {f:FuncId} {fn:Func} (A:P.funcs[f]? =some fn) (C:(fn.name== "runtime.NumGoroutine")=false) (hb:fn.body.isNone=true) (hn:Extern.findNext fn=none)
 (he:Extern.find fn=some Ln) (l:List UInt8) (c:UInt8) (w:ai):(callFunc f #[str l,.int .u8 c.toNat]).run P w= .ok (.value<|.int .i64<|ki c l) w:=by
 rw [run_callFunc_extern A C hb hn he];unfold str;rw [Lib.run_indexByteString];have h1:((c.toNat:Int)).toNat.toUInt8=c:=UInt8.toNat_inj.1<|by simp
 rw [h1,Hn];rfl
section
variable {P:av} {N:Fm} {σ:Nat→ag} {w:ai} {dst:Option Nat} {ty:au} {pos :String} {af:Array Edge} {g:Option (Nat×Bool)}
end
end Go.Hb
end
section
namespace Go.Hb
section
variable {B B':Nat} {fp fp' fp'':Nat→Prop} {w w' w'':ai}
end
section
variable {F fp:Nat→Prop} {W W':ai} {B:Nat}
end
section
variable {P:av} {N:Fm} {ops:Array Oper} {Q:Exit→(Nat→ag)→ai→Prop} {rest:List Oper} {σ:Nat→ag} {w:ai} {d':Option Nat} {d:Nat} {op:Op} {ty:au} {pos :String} {af:Array Edge} {v:ag}
end
section
variable {P:av} {n:Nat} {F:List Nat} {σ:Nat→ag} {w:ai} {fn:Func} {R:ag→ai→Prop}
end
def uJ (P:av) (s f:Nat):Option Nat:=
 match P.underlying s with
 | some (.struct A)=>match A[f]? with
   | some fd=>if cZ P fd.type=some none then some fd.offset else none
   | none=>none
 | _=>none
theorem Bp {P:av} {t:Nat} (hu:cZ P t=some none) (w:ai):(isAgg t).run P w= .ok false w:=by
 unfold cZ at hu;cases hd:P.underlying t with
 | none=>rw [hd] at hu; cases hu
 | some d=>
   rw [hd] at hu;cases d <;> first
    | (simp only [fg] at hu; obtain ⟨_,_,h⟩:=hu; cases h; done)
    | simp [isAgg,bu hd]
theorem Gx {P:av} {N:Fm} {σ:Nat→ag} {w:ai} {dst:Option Nat} {ty:au} {pos :String} {af:Array Edge} {g:Option (Nat×Bool)} {x:aY} {s f n:Nat} {cs:Array ag} {v:ag} (A:uJ P s f=some n) (I:ev N σ x= .agg cs) (E:cs[n]? =some v):
 (execOp (ev N σ) ⟨dst,.field s x f,ty,pos,af,g⟩).run P w= .ok (.value v) w:=by
 unfold uJ at A;split at A
 · rename_i J hu;split at A
   · rename_i fd C;split at A
     · rename_i ha;cases A;simp [execOp,Dm,bu hu,C,I,asAgg,part,Bp ha,E]
     · cases A
   · cases A
 · cases A
section
variable {P:av} {ops:Array Oper} {Q:Exit→Act→ai→Prop} {S:ai→Prop} {md:m8}
def CH (P:av) (md:m8) (ops:Array Oper) (Q:Exit→Act→ai→Prop) (S:ai→Prop):Nat→Array Bool→Act→ai→Prop
 | 0,listed,a,w=>dM md ops listed= []∧Q .normal a w
 | fuel+1,listed,a,w=>
   (dM md ops listed= []→Q .normal a w)∧
   ∀ i∈dM md ops listed,wpOpIn Fence.wide 0 P ops Q i (fun A w'=>S w'∧CH P md ops Q S fuel (listed.setIfInBounds i true) A w') a w
end
def K7 (P:av) (N:Fm) (ops:Array Oper) (Q:Exit→(Nat→ag)→ai→Prop) (S:ai→Prop) (fuel:Nat) (listed:Array Bool) (σ:Nat→ag) (w:ai):Prop :=
 CH P .any ops (lift N Q) S fuel listed (act N σ) w
section
variable {P:av} {N:Fm} {ops:Array Oper} {Q:Exit→(Nat→ag)→ai→Prop} {σ:Nat→ag} {w:ai} {d':Option Nat} {d:Nat} {op:Op} {ty:au} {pos :String} {af:Array Edge} {v:ag}
variable {S:ai→Prop} {fuel:Nat} {listed:Array Bool}
end
attribute [irreducible] K7
end Go.Hb
end
section
namespace Go.Hb
theorem Jr {L:List ag} {o:Nat} {v:ag} (h:o < L.length):(L.set o v).take (o+1)=L.take o++ [v]:=by grind [List.set_eq_take_append_cons_drop,List.take_append,cN,Nat.min_eq_left,Nat.add_sub_cancel_left,fR]
theorem Jo {L:List ag} {o m:Nat} {v:ag} (h:o < m):(L.set o v).drop m=L.drop m:=by
 rw [List.drop_set,if_pos h]
section
variable {P:av} {N:Fm} {σ:Nat→ag} {w:ai} {ty:au} {pos :String} {af:Array Edge} {g:Option (Nat×Bool)} {x:aY} {K:(Nat→ag)→ai→Prop}
end
end Go.Hb
end
section
namespace Go.Hb
section
variable {P:av} {N:Fm} {σ:Nat→ag} {w:ai} {dst:Option Nat} {ty:au} {pos :String} {af:Array Edge} {g:Option (Nat×Bool)} {x:aY}
theorem ES {t n C b:Nat} (he:j5 P t=some (n,C)) (A:ev N σ x= .pointer (some ⟨b,0,none⟩)):
 (execOp (ev N σ) ⟨dst,.slice t x none none none,ty,pos,af,g⟩).run P w= .ok (.value<|.slice (some ⟨b,0,none⟩) n n) w:=by
 unfold j5 at he;cases hd:P.underlying t with
 | none=>rw [hd] at he; cases he
 | some d=>
   rw [hd] at he;cases d <;> first | (cases he; done) | skip
   rename_i m e;cases hi:P.info? e with
   | none=>simp [hi] at he
   | some j=>
     simp only [hi,eV,bH,gq] at he;obtain ⟨rfl,rfl⟩:=he;simp [execOp,m3,Instr.sureAddr,jY,A,bu hd,sizeOf,c9 hi,dY]
def uK (P:av) (t f:Nat):Option (Nat×Nat):=
 match P.underlying t with
 | some (.struct A)=>(A[f]?).map fun d=>(d.type,d.offset)
 | _=>none
theorem GK {t f A off n:Nat} {cs vs:List ag} (h:uK P t f=some (A,off)) (ha:cZ P A=some (some n)) (I:ev N σ x= .agg cs.toArray) (E:(cs.drop off).take n=vs):
 (execOp (ev N σ) ⟨dst,.field t x f,ty,pos,af,g⟩).run P w= .ok (.value<|.agg vs.toArray) w:=by
 subst E;unfold uK at h;cases hd:P.underlying t with
 | none=>rw [hd] at h; cases h
 | some d=>
   rw [hd] at h;cases d <;> first | (cases h; done) | skip
   rename_i J;simp only [fg] at h;obtain ⟨fd,C,he⟩:=h;cases he;unfold cZ at ha;cases hd2:P.underlying fd.type with
   | none=>rw [hd2] at ha; cases ha
   | some d2=>
     rw [hd2] at ha;cases hi:P.info? fd.type with
     | none=>simp [Program.underlying,hi] at hd2
     | some i=>
       rw [hi] at ha;have L:cs.toArray.extract fd.offset (fd.offset+n)=((cs.drop fd.offset).take n).toArray:=by simp
       cases d2 <;> first
        | (cases ha; done)
        | (simp only [eV,bH] at ha; subst ha
           simp [execOp,Dm,bu hd,C,I,asAgg,part,isAgg,bu hd2,sizeOf,c9 hi])
end
end Go.Hb
end
section
set_option linter.unusedSimpArgs false
namespace Go.Hb
open Classical
structure yj (P:av) (k:au) (cW:ag→Prop):Prop where
 key:ni P k cW
 stays:∀ w v,cW v→(qH v v).run P w= .ok v w
def Hl (v:ag):Prop := ∃ s:List UInt8,v=str s
def Ag (q:IntKind) (v:ag):Prop := ∃ a:Int,v= .int q a
theorem zS {d:TypeDesc} {cW:ag→Prop} (M:∀ x y,cW x→cW y→∃ A,xS d x y=some A∧(A=true↔x=y)) {x:ag} (O:cW x):∀ (es:List MapEntry) (i:Nat),(∀ e∈es,cW e.key)→
 (mZ d x es i=some none∧∀ e∈es,e.key≠x)∨∃ j e,mZ d x es i=some (some (i+j,e.val))∧es[j]? =some e∧e.key=x
 | [],i,_=> .inl ⟨rfl,fun _ h=>by simp at h⟩
 | e::es,i,h=>by
   obtain ⟨A,h1,L⟩:=M x e.key O<|h e<|by simp
   cases A with
   | true =>exact .inr ⟨0,e,by simp [mZ,h1],rfl,(L.1 rfl).symm⟩
   | false =>
     have Z:e.key≠x:=fun V=>by cases L.2 V.symm
     rcases zS M O es (i+1) (fun e he=>h e<|by simp [he]) with ⟨E,I⟩ | ⟨j,C,E,I,U⟩
     · refine .inl ⟨by simp [mZ,h1,E],fun C J=> ?_⟩;rcases fQ.1 J with rfl | J
       · exact Z
       · exact I C J
     · refine .inr ⟨j+1,C,?_,I,U⟩;simp only [mZ,h1,E]; rw [show i+1 +j=i+(j+1) from by omega]
theorem Ao {P:av} {k:au} {d:TypeDesc} {cW:ag→Prop} (E:P.underlying k=some d) (L:∀ x y,cW x→cW y→∃ C,xS d x y=some C∧(C=true↔x=y)) (J:∀ em w v,cW v→(jW em 10000 k v).run P w= .ok () w):ni P k cW where
 check:=J
 find w x es hx hes:=by
  rcases zS L hx es 0 hes with ⟨h1,A⟩ | ⟨j,e,h1,A,I⟩
  · exact .inl ⟨by simp [mY,bu E,h1],A⟩
  · exact .inr ⟨j,e,by simp [mY,bu E,h1],A,I⟩
theorem yE (a b:ByteArray):(a==b)=decide (a=b):=by
 rw [Bool.eq_iff_iff,decide_eq_true_iff];show ((a.data==b.data)=true)↔_;rw [beq_iff_eq];exact ⟨fun h=>by cases a; cases b; cases h; rfl,fun h=>by rw [h]⟩
theorem An {P:av} {k:au} (A:P.underlying k=some .string):yj P k Hl where
 key:=Ao A (by
  rintro _ _ ⟨a,rfl⟩ ⟨b,rfl⟩;refine ⟨_,J,?_⟩;rw [yE,decide_eq_true_iff];constructor
  · intro h; unfold str; rw [h]
  · intro h; unfold str at h; cases h; rfl) (by rintro em w _ ⟨a,rfl⟩; exact yP (n:=9999) A w)
 stays w v hv:=by obtain ⟨a,rfl⟩:=hv; simp [qH,Dr,str,yE]
theorem Fi {P:av} {k:au} {q r:IntKind} {em:Bool} {n:Nat} {a:Int} (A:P.underlying k=some (.int q)) (w:ai):(jW em (n+1) k<|.int r a).run P w= .ok () w:=by
 simp only [jW,Sem.run_bind,bu A,Result.andThen_ok,Sem.run_pure]
theorem Am {P:av} {k:au} {q r:IntKind} (A:P.underlying k=some (.int q)):yj P k (Ag r) where
 key:=Ao A (by
  rintro _ _ ⟨a,rfl⟩ ⟨b,rfl⟩;refine ⟨decide (a=b),by simp [xS]; rfl,?_⟩;rw [decide_eq_true_iff];exact ⟨fun h=>by rw [h],fun h=>by cases h; rfl⟩) (by rintro em w _ ⟨a,rfl⟩; exact Fi (n:=9999) A w)
 stays w v hv:=by obtain ⟨a,rfl⟩:=hv; simp [qH,Dr]
section
variable {P:av} {N:Fm} {σ:Nat→ag} {w:ai} {dst:Option Nat} {ty:au} {pos :String} {af:Array Edge} {g:Option (Nat×Bool)} {x y z:aY} {K:(Nat→ag)→ai→Prop}
variable {t k e:au} {cW:ag→Prop} {b:Nat} {f:ag→Option ag} {kx v zv:ag}
end
end Go.Hb
end
