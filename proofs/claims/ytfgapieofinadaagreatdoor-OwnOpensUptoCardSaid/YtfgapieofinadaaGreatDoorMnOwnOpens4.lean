/-
  Walks and plain laws that the law rests on, laid together. No conditions but those that each theorem names.
-/
import Derived.Test.YtfgapieofinadaaGreatDoorMnOwnOpens3
set_option linter.unusedVariables false
set_option maxRecDepth 100000000
set_option maxHeartbeats 1000000
open Array renaming getElem?_eq_some_iff→cr
open BitVec renaming ofInt→jV,ofInt_natCast→HV,toNat_ofNat→HW
open Bool renaming and_eq_true→bO,noConfusion→dw,or_eq_true→lI
open Classical renaming not_not→mD
open Go renaming Addr→ba,Operand→bA,Program→av,TypeId→au,Value→ah,World→ai
open Go.Calls renaming mono→jv
open Go.IntKind renaming u64→qe,u8→sC
open Go.Proofs.Tryz renaming prog→aq
open Go.Value renaming bool→bB,func→qh,int→bh,oneCell'→kW,ownBlock→dM,pointer→cZ,slice→eY,tuple→kq
open Go.Value.slice renaming injEq→mI
open Go.World renaming ownsRow→b9,ownsRow_nil→eL
open List renaming append_assoc→iC,drop_eq_nil_of_le→iT,drop_take→IF,eq_nil_of_length_eq_zero→ku,filter_nil→II,foldlM_append→IM,foldlM_cons→uF,foldlM_nil→uG,getD_cons_zero→oE,getD_eq_getElem?_getD→cW,getElem?_drop→kz,getElem?_eq_getElem→cI,getElem?_eq_some_iff→dX,getElem?_map→ij,getElem_take→yb,length_append→bp,length_cons→cn,length_drop→fY,length_mergeSort→IQ,length_set→qp,length_singleton→dC,length_take→bX,map_cons→fZ,map_replicate→IT,mem_append→dz,mem_cons→ew,mem_filter→ye,mem_iff_getElem→IX,mem_singleton→fu,nodup_append→yh,nodup_nil→yi,not_mem_nil→BO,pairwise_cons→yj,pairwise_iff_getElem→IZ,replicate→eM,takeWhile_cons→I4,take_add_one→I6,take_length→ym,take_of_length_le→iV,take_succ_eq_append_getElem→I8,toArray→bd
open Nat renaming add_assoc→jy,add_zero→lO,blt→aZ,le_refl→bf,le_trans→cQ,lt_or_ge→dN,min_eq_left→sI,mod_eq_of_lt→BR,mul_comm→BS,mul_le_mul_left→Jc,mul_one→oK,pow_le_pow_right→sJ,pow_succ→yp,zero_add→dx
open Option renaming bind_eq_bind→uQ,bind_eq_some_iff→uR,getD_some→jz,isSome_iff_exists→oL,map_eq_some_iff→iW,pure_def→uS,toList_some→Jg
open Option.some renaming inj→gF,injEq→bR
open Prod renaming fst→dj
open Prod.mk renaming injEq→kY
open UInt8 renaming lt_irrefl→BU,toNat_lt→oM
open Go.Proofs.Tryz
open Go.RowKit Go.Proofs

section
namespace Go.Hb
abbrev Tl:=List<|List UInt8
def zC:Tl→List (UInt8×Tl)
 | []=> []
 | []::ts=>zC ts
 | (c::t)::ts=>match zC ts with
   | []=> [(c,[t])]
   | (c',g)::r=>if c=c' then (c,t::g)::r else (c,[t])::(c',g)::r
def Mw (A:Tl):Bool:=match A with | []::_=>true | _=>false
def Ln (A:Tl):Tl:=match A with | []::r=>r | r=>r
structure VS where
 known:List Tl
 fM:List (Bool×List (UInt8×Nat))
def VS.add (s:VS) (A:Tl):VS:=⟨s.known++ [A],s.fM++ [(false,[])]⟩
end Go.Hb
namespace Go.Hb
theorem Ee {α:Type} {l:List α} {i:Nat} (d:α) (h:i < l.length):l.getD i d=l[i]:=by grind
end Go.Hb
namespace Go.Hb
abbrev Jj:=Bool×List (UInt8×Nat)
end Go.Hb
namespace Go.Hb
end Go.Hb
namespace Go.Hb
def Lx (A:List Tl) (p:UInt8×Tl):UInt8×Nat:=(p.1,A.idxOf p.2+1)
def enc (A:List Tl) (L:Tl):Jj:=(Mw L,(zC<|Ln L).map (Lx A))
end Go.Hb
namespace Go.Hb
def nm (A:List Tl) (i:Nat):Tl:=A.getD (i - 1) []
end Go.Hb
namespace Go.Hb
end Go.Hb
namespace Go.Hb
theorem xz {l:Tl} (h:l.Pairwise (fun x y=>cm x y=true)):l.Nodup:=h.imp fun {a b} A he=>by rw [he,tW] at A; cases A
theorem uh:∀ {l C:Tl},l.Pairwise (fun x y=>cm x y=true)→C.Pairwise (fun x y=>cm x y=true)→(∀ x,x∈l↔x∈C)→l=C
 | [],[],_,_,_=>rfl
 | [],y::C,_,_,h=>absurd ((h y).2<|by simp)<|by simp
 | x::l,[],_,_,h=>absurd ((h x).1<|by simp)<|by simp
 | x::l,y::C,h1,h2,h=>by
   rw [yj] at h1 h2;have e:x=y:=by
    rcases ew.1 ((h x).1<|by simp) with e | L
    · exact e
    · rcases ew.1 ((h y).2<|by simp) with e | M
      · exact e.symm
      · have J:=h1.1 y M;have I:=h2.1 x L;rw [Pq J] at I; cases I
   subst e;rw [uh h1.2 h2.2 fun z=> ?_];constructor
   · intro A;rcases ew.1 ((h z).1<|by simp [A]) with e | E
     · subst e; have :=h1.1 z A; rw [tW] at this; cases this
     · exact E
   · intro A;rcases ew.1 ((h z).2<|by simp [A]) with e | E
     · subst e; have :=h2.1 z A; rw [tW] at this; cases this
     · exact E
def nY (x:List UInt8):Tl→Tl
 | []=> [x]
 | y::l=>if cm x y then x::y::l else if x=y then y::l else y::nY x l
def bP (l:Tl):Tl:=l.foldr nY []
theorem Ad {x y:List UInt8} :∀ {l:Tl},y∈nY x l↔y=x∨y∈l
 | []=>by simp [nY]
 | z::l=>by
   simp only [nY];split
   · simp
   · split
     · rename_i h; subst h; simp
     · simp only [ew,Ad (l:=l)];constructor
       · rintro (h | h | h)
         · exact .inr<|.inl h
         · exact .inl h
         · exact .inr<|.inr h
       · rintro (h | h | h)
         · exact .inr<|.inl h
         · exact .inl h
         · exact .inr<|.inr h
theorem Eo {x:List UInt8} :∀ {l:Tl},l.Pairwise (fun x y=>cm x y=true)→(nY x l).Pairwise (fun x y=>cm x y=true)
 | [],_=>List.pairwise_singleton _ _
 | y::l,h=>by
   simp only [nY];have I:=yj.1 h;split
   · rename_i E;refine yj.2 ⟨fun z A=> ?_,h⟩;rcases ew.1 A with rfl | A
     · exact E
     · exact pL E<|I.1 z A
   · rename_i E;split
     · exact h
     · rename_i he;refine yj.2 ⟨fun z A=> ?_,Eo I.2⟩;rcases Ad.1 A with rfl | A
       · rcases GG z y with C | C | C
         · exact absurd C E
         · exact absurd C he
         · exact C
       · exact I.1 z A
theorem iO (l:Tl):(bP l).Pairwise (fun x y=>cm x y=true):=by
 induction l with
 | nil=>exact List.Pairwise.nil
 | cons x l ih=>exact Eo ih
theorem ix {x:List UInt8} {l:Tl} :x∈bP l↔x∈l:=by
 induction l with
 | nil=>rfl
 | cons y l ih=>
   show x∈nY y (bP l)↔_;rw [Ad,ih,ew]
theorem Pb {l m:Tl} (h:m.Pairwise (fun x y=>cm x y=true)) (hm:∀ x,x∈m↔x∈l):m=bP l:=uh h (iO l) fun x=>(hm x).trans ix.symm
theorem ot (l:Tl):(bP l).length≤l.length:=List.Nodup.length_le_of_subset (xz<|iO l) fun _ A=>ix.1 A
theorem Hu {l:Tl} {x:List UInt8} (h:l.Pairwise (fun x y=>cm x y=true)) (A:∀ t∈l,cm t x=true):(l++ [x]).Pairwise (fun x y=>cm x y=true):=by grind
theorem Ae {l:Tl} {i:Nat} (hi:i < l.length) {x:List UInt8} :x∈l.take (i+1)↔x∈l.take i∨x=l.getD i []:=by
 rw [ib l i [] hi]; simp
theorem Ek {l:Tl} {w:List UInt8} {p:Nat} (I:∀ i,i < p→cm (l.getD i []) w=true) (J:∀ i,p≤i→i < l.length→cm (l.getD i []) w=false) (hu:l.Pairwise (fun x y=>cm x y=true)):w∈l↔p < l.length∧l.getD p []=w:=by
 constructor
 · intro hm;obtain ⟨j,E,he⟩:=IX.1 hm;have C:l.getD j []=w:=by rw [Ee [] E]; exact he
   rcases Nat.lt_trichotomy j p with h | h | h
   · have :=I j h; rw [C,tW] at this; cases this
   · subst h; exact ⟨E,C⟩
   · have A:=rJ hu h E;rw [C,J p (bf _) ag] at A; cases A
 · rintro ⟨A,L⟩;rw [← L,Ee [] A]; exact List.getElem_mem A
structure MG (la lb:Tl) (i j:Nat) (m:Tl):Prop where
 up:m.Pairwise (fun x y=>cm x y=true)
 mem:∀ x,x∈m↔x∈la.take i∨x∈lb.take j
 ma:∀ x∈m,i < la.length→cm x (la.getD i [])=true
 mb:∀ x∈m,j < lb.length→cm x (lb.getD j [])=true
 len:m.length≤i+j
theorem MG.zero (la lb:Tl):MG la lb 0 0 []:=⟨List.Pairwise.nil,fun x=>by simp,fun x h=>by simp at h,fun x h=>by simp at h,by simp⟩
theorem MG.a {la lb m:Tl} {i j:Nat} (h:MG la lb i j m) (J:la.Pairwise (fun x y=>cm x y=true)) (hi:i < la.length) (hb:j < lb.length→cm (la.getD i []) (lb.getD j [])=true):MG la lb (i+1) j (m++ [la.getD i []]):=by
 refine ⟨Hu h.up (fun t I=>h.ma t I hi),fun x=> ?_,fun x A C=> ?_,fun x A C=> ?_,by have :=h.len; simp; omega⟩
 · rw [dz,h.mem,Ae hi,fu];constructor
   · rintro ((h | h) | h)
     · exact .inl<|.inl h
     · exact .inr h
     · exact .inl<|.inr h
   · rintro ((h | h) | h)
     · exact .inl<|.inl h
     · exact .inr h
     · exact .inl<|.inr h
 · have E:=rJ J (show i < i+1 by omega) C;rcases dz.1 A with A | A
   · exact pL (h.ma x A hi) E
   · simp only [fu] at A; subst A; exact E
 · rcases dz.1 A with A | A
   · exact h.mb x A C
   · simp only [fu] at A; subst A; exact hb C
theorem MG.b {la lb m:Tl} {i i2 j:Nat} (h:MG la lb i j m) (Z:la.Pairwise (fun x y=>cm x y=true)) (aa:lb.Pairwise (fun x y=>cm x y=true)) (O:j < lb.length) (U:i < la.length→cm (la.getD i []) (lb.getD j [])=false)
 (J:(i2=i∧(i < la.length→la.getD i []≠lb.getD j []))∨(i2=i+1∧i < la.length∧la.getD i []=lb.getD j [])):MG la lb i2 (j+1) (m++ [lb.getD j []]):=by
 refine ⟨Hu h.up (fun t V=>h.mb t V O),fun x=> ?_,fun x A E=> ?_,fun x A E=> ?_,by have :=h.len; simp; rcases J with J | J <;> omega⟩
 · rw [dz,h.mem,Ae O,fu];rcases J with ⟨rfl,_⟩ | ⟨rfl,L,M⟩
   · exact or_assoc
   · rw [Ae L,M];constructor
     · rintro ((h | h) | h)
       · exact .inl<|.inl h
       · exact .inr<|.inl h
       · exact .inr<|.inr h
     · rintro ((h | h) | h | h)
       · exact .inl<|.inl h
       · exact .inr h
       · exact .inl<|.inr h
       · exact .inr h
 · rcases J with ⟨rfl,L⟩ | ⟨rfl,L,M⟩
   · rcases dz.1 A with A | A
     · exact h.ma x A E
     · simp only [fu] at A; subst A;rcases GG (lb.getD j []) (la.getD i2 []) with C | C | C
       · exact C
       · exact absurd C.symm<|L E
       · rw [U E] at C; cases C
   · have I:=rJ Z (show i < i+1 by omega) E;rcases dz.1 A with A | A
     · exact pL (h.ma x A L) I
     · simp only [fu] at A; subst A; rw [← M]; exact I
 · have I:=rJ aa (show j < j+1 by omega) E;rcases dz.1 A with A | A
   · exact pL (h.mb x A O) I
   · simp only [fu] at A; subst A; exact I
theorem MG.done {la lb m:Tl} {i j:Nat} (h:MG la lb i j m) (hi:la.length≤i) (A:lb.length≤j):m=bP (la++lb):=
 Pb h.up fun x=>by rw [h.mem,iV hi,iV A,dz]
end Go.Hb
end
section
namespace Go.Hb
end Go.Hb
namespace Go.Hb
section
variable {P:av} {N:Fm} {σ:Nat→ah} {w:ai} {dst:Option Nat} {ty:au} {pos :String} {af:Array Edge} {g:Option (Nat×Bool)} {x y z:bA}
end
end Go.Hb
namespace Go.Hb
abbrev bH:Type :=Bool×List (UInt8×Int)
def dI:bH:=(false,[])
abbrev bu (a:List bH) (n:Nat):bH:=a.getD n dI
def jE (l:List (UInt8×Int)):Prop :=l.Pairwise fun x y=>x.1.toNat < y.1.toNat
instance (l:List (UInt8×Int)):Decidable (jE l):=by unfold jE; infer_instance
def jR (a:List bH) (p:bH):Bool:=decide (p.2≠[]) || p.1 || decide (a.length=1)
def vs (a:List bH):Nat→Nat×List Nat→Int→Option (Nat×List Nat)
 | 0,_,_=>none
 | f+1,(nx,mk),n=>
   if n≠nx then (if 0≤n∧n < nx∧mk.getD n.toNat 0=2 then some (nx,mk) else none)
   else if a.length≤nx then none
   else if jE (bu a nx).2∧jR a (bu a nx)=true then
    ((bu a nx).2.foldlM (fun s e=>vs a f s e.2) (nx+1,mk.set nx 1)).map fun s=>(s.1,s.2.set nx 2)
   else none
def shaped (a:List bH):Bool:=decide (0 < a.length) && decide (a.length≤1048576) && match vs a (a.length+1) (0,eM a.length 0) 0 with
 | some s=>decide (s.1=a.length)
 | none=>false
section
variable {a:List bH}
theorem Hz:∀ (f:Nat) {nx A:Nat} {mk mk':List Nat} {n:Int},vs a f (nx,mk) n=some (A,mk')→nx≤A∧mk'.length=mk.length:=by
 intro f
 induction f with
 | zero=>intro nx A mk mk' n h; cases h
 | succ f ih=>
   intro nx A mk mk' n h;have C:∀ (es:List (UInt8×Int)) (nx A:Nat) (mk mk':List Nat),es.foldlM (fun s e=>vs a f s e.2) (nx,mk)=some (A,mk')→nx≤A∧mk'.length=mk.length:=by
    intro es
    induction es with
    | nil=>intro nx A mk mk' h; simp only [uG,uS,bR,kY] at h; obtain ⟨rfl,rfl⟩:=h; exact ⟨bf _,rfl⟩
    | cons e es E=>
      intro nx A mk mk' h;simp only [uF,uQ,uR] at h;obtain ⟨⟨I,m1⟩,h1,h2⟩:=h;have g1:=ih h1;have g2:=E _ _ _ _ h2;exact ⟨ag,ag⟩
   rw [vs] at h;split at h
   · split at h
     · cases h; exact ⟨bf _,rfl⟩
     · cases h
   · split at h
     · cases h
     · split at h
       · simp only [iW] at h;obtain ⟨⟨I,m1⟩,h1,h2⟩:=h;simp only [kY] at h2;obtain ⟨rfl,rfl⟩:=h2;have :=C _ _ _ _ _ h1;simp only [qp] at this ⊢;exact ⟨ag,this.2⟩
       · cases h
def lg (a:List bH):Nat→Nat→List (List UInt8)
 | 0,_=> []
 | f+1,n=>(if (bu a n).1=true then [[]] else [])++(bu a n).2.flatMap fun e=>(lg a f e.2.toNat).map (e.1:: ·)
def QU (a:List bH) (n:Nat):List (List UInt8):=lg a a.length n
variable {l:List Nat}
theorem Bj {f nx:Nat} {mk:List Nat} {n:Int} (h:n≠nx):vs a (f+1) (nx,mk) n=if 0≤n∧n < nx∧mk.getD n.toNat 0=2 then some (nx,mk) else none:=by rw [vs,if_pos h]
theorem HB {f nx:Nat} {mk:List Nat} {n:Int} (h:n=nx) (A:a.length≤nx):vs a (f+1) (nx,mk) n=none:=by rw [vs,if_neg (fun e=>e h),if_pos A]
theorem xA {f nx:Nat} {mk:List Nat} {n:Int} (h:n=nx) (A:nx < a.length) (C:¬(jE (bu a nx).2∧jR a (bu a nx)=true)):vs a (f+1) (nx,mk) n=none:=by grind [vs]
theorem Hy {f nx:Nat} {mk:List Nat} {n:Int} (h:n=nx) (A:nx < a.length) (C:jE (bu a nx).2) (E:jR a (bu a nx)=true):
 vs a (f+1) (nx,mk) n=((bu a nx).2.foldlM (fun s e=>vs a f s e.2) (nx+1,mk.set nx 1)).map fun s=>(s.1,s.2.set nx 2):=by grind [vs]
theorem QC:∀ (f:Nat) {nx A:Nat} {mk mk':List Nat} {n:Int},vs a f (nx,mk) n=some (A,mk')→nx≤a.length→A≤a.length:=by
 intro f
 induction f with
 | zero=>intro nx A mk mk' n h; cases h
 | succ f ih=>
   intro nx A mk mk' n h hle;have C:∀ (es:List (UInt8×Int)) (nx A:Nat) (mk mk':List Nat),es.foldlM (fun s e=>vs a f s e.2) (nx,mk)=some (A,mk')→nx≤a.length→A≤a.length:=by
    intro es
    induction es with
    | nil=>intro nx A mk mk' h; simp only [uG,uS,bR,kY] at h; obtain ⟨rfl,rfl⟩:=h; exact id
    | cons e es E=>
      intro nx A mk mk' h hle;simp only [uF,uQ,uR] at h;obtain ⟨⟨I,m1⟩,h1,h2⟩:=h;exact E _ _ _ _ h2<|ih h1 hle
   rw [vs] at h;split at h
   · split at h
     · cases h; exact hle
     · cases h
   · split at h
     · cases h
     · split at h
       · simp only [iW] at h;obtain ⟨⟨I,m1⟩,h1,h2⟩:=h;simp only [kY] at h2;obtain ⟨rfl,rfl⟩:=h2;exact C _ _ _ _ _ h1 ag
       · cases h
def ic (a:List bH) (f nx:Nat) (mk:List Nat) (es:List (UInt8×Int)):Option (Nat×List Nat):=es.foldlM (fun s e=>vs a f s e.2) (nx,mk)
theorem QF {f nx:Nat} {mk:List Nat} {es:List (UInt8×Int)} {e:UInt8×Int} {s:Nat×List Nat} (h:ic a f nx mk es=some s):ic a f nx mk (es++ [e])=vs a f s e.2:=by
 unfold ic at*;rw [IM,h];simp
theorem QE {f nx:Nat} {mk:List Nat} {es es':List (UInt8×Int)} (h:ic a f nx mk es=none):ic a f nx mk (es++es')=none:=by grind [ic,IM]
theorem xC {f nx:Nat} {mk:List Nat} {es:List (UInt8×Int)} {s:Nat×List Nat} (h:ic a f nx mk es=some s) (hle:nx≤a.length):nx≤s.1∧s.2.length=mk.length∧s.1≤a.length:=by
 unfold ic at h
 induction es generalizing nx mk with
 | nil=>simp only [uG,uS,bR] at h; subst h; exact ⟨bf _,rfl,hle⟩
 | cons e es ih=>
   simp only [uF,uQ,uR] at h;obtain ⟨⟨A,m1⟩,h1,h2⟩:=h;have g1:=Hz f h1;have g2:=ih h2<|QC f h1 hle;exact ⟨ag,ag,g2.2.2⟩
theorem wV {es:List (UInt8×Int)} {k:Nat} {e:UInt8×Int} (h:jE (es.take k)) (he:es[k]? =some e) (hp:∀ p,0 < k→es[k - 1]? =some p→p.1.toNat < e.1.toNat):jE (es.take<|k+1):=by
 obtain ⟨L,rfl⟩:=dX.1 he;rw [I8 L];unfold jE at*;refine List.pairwise_append.2 ⟨h,by simp,fun x M y C=> ?_⟩;rw [fu] at C; subst C;obtain ⟨j,J,rfl⟩:=IX.1 M;simp only [bX] at J;have E:=hp es[k - 1] ag<|cI ag;rcases dN j (k - 1) with A | A
 · have I:=IZ.1 h j (k - 1) (by rw [bX]; omega) (by rw [bX]; omega) A;rw [yb,yb] at I;rw [yb]; omega
 · have :j=k - 1:=ag;subst this;rw [yb]; exact E
theorem Fg {es:List (UInt8×Int)} {k:Nat} {e p:UInt8×Int} (h0:0 < k) (he:es[k]? =some e) (hp:es[k - 1]? =some p) (h:e.1.toNat≤p.1.toNat):¬jE es:=fun hr=>by
 obtain ⟨A,rfl⟩:=dX.1 he;obtain ⟨C,rfl⟩:=dX.1 hp;have :=IZ.1 hr (k - 1) k C A ag;omega
theorem Hx {f nx:Nat} {mk:List Nat} {s:Nat×List Nat} (A:nx < a.length) (hr:jE (bu a nx).2) (C:ic a f (nx+1) (mk.set nx 1) (bu a nx).2=some s):vs a (f+1) (nx,mk) (nx:Int)=if jR a (bu a nx)=true then some (s.1,s.2.set nx 2) else none:=by
 by_cases h:jR a (bu a nx)=true
 · rw [Hy rfl A hr h,if_pos h];unfold ic at C;rw [C]; rfl
 · rw [xA rfl A (fun e=>h e.2),if_neg h]
theorem xB {f nx k:Nat} {mk:List Nat} (C:nx < a.length) (h:ic a f (nx+1) (mk.set nx 1) ((bu a nx).2.take k)=none):vs a (f+1) (nx,mk) (nx:Int)=none:=by
 by_cases A:jE (bu a nx).2∧jR a (bu a nx)=true
 · rw [Hy rfl C A.1 A.2];have :=QE (es':=(bu a nx).2.drop k) h;rw [List.take_append_drop] at this;unfold ic at this;rw [this]; rfl
 · exact xA U C A
theorem HA {f nx:Nat} {mk:List Nat} (A:nx < a.length) (h:¬jE (bu a nx).2):vs a (f+1) (nx,mk) (nx:Int)=none:=xA rfl A (fun e=>h e.1)
theorem QB {f nx:Nat} {mk:List Nat} (A:nx < a.length) (h:jR a (bu a nx)=false):vs a (f+1) (nx,mk) (nx:Int)=none:=xA rfl A (fun e=>by rw [h] at e; exact dw e.2)
theorem oA {f nx k:Nat} {mk:List Nat} {es:List (UInt8×Int)} {e:UInt8×Int} {s:Nat×List Nat} (h:ic a f nx mk (es.take k)=some s) (he:es[k]? =some e):ic a f nx mk (es.take<|k+1)=vs a f s e.2:=by
 obtain ⟨A,rfl⟩:=dX.1 he;rw [I8 A];exact QF h
theorem EI {q:bH} (h:0 < q.2.length):jR a q=true :=by grind [jR]
theorem EH {q:bH} (h:q.1=true):jR a q=true :=by
 unfold jR; rw [h,Bool.or_true,Bool.true_or]
theorem zP {q:bH} (h:¬0 < q.2.length) (A:q.1=false):jR a q=decide (a.length=1):=by grind [jR,ku]
theorem getD_set_ne (mk:List Nat) {i j:Nat} (x:Nat) (h:i≠j):(mk.set i x).getD j 0=mk.getD j 0:=by grind
theorem QD:∀ (f:Nat) {nx A:Nat} {mk mk':List Nat} {n:Int},vs a f (nx,mk) n=some (A,mk')→(∀ i,nx≤i→mk.getD i 0=0)→∀ i,A≤i→mk'.getD i 0=0:=by
 intro f
 induction f with
 | zero=>intro nx A mk mk' n h; cases h
 | succ f ih=>
   intro nx A mk mk' n h C;have E:∀ (es:List (UInt8×Int)) (nx A:Nat) (mk mk':List Nat),es.foldlM (fun s e=>vs a f s e.2) (nx,mk)=some (A,mk')→(∀ i,nx≤i→mk.getD i 0=0)→nx≤A∧∀ i,A≤i→mk'.getD i 0=0:=by
    intro es
    induction es with
    | nil=>intro nx A mk mk' h; simp only [uG,uS,bR,kY] at h; obtain ⟨rfl,rfl⟩:=h; exact fun h=>⟨bf _,h⟩
    | cons e es I=>
      intro nx A mk mk' h C;simp only [uF,uQ,uR] at h;obtain ⟨⟨J,m1⟩,h1,h2⟩:=h;have g:=I _ _ _ _ h2<|ih h1 C;exact ⟨cQ (Hz f h1).1 g.1,g.2⟩
   rw [vs] at h;split at h
   · split at h
     · cases h; exact C
     · cases h
   · split at h
     · cases h
     · split at h
       · simp only [iW] at h;obtain ⟨⟨J,m1⟩,h1,h2⟩:=h;simp only [kY] at h2;obtain ⟨rfl,rfl⟩:=h2;obtain ⟨g1,g2⟩:=E _ _ _ _ _ h1 fun i hi=>by rw [getD_set_ne _ _ ag]; exact C i ag
         exact fun i hi=>by rw [getD_set_ne _ _ ag]; exact g2 i hi
       · cases h
theorem QG {f nx:Nat} {mk:List Nat} {es:List (UInt8×Int)} {s:Nat×List Nat} (h:ic a f nx mk es=some s) (A:∀ i,nx≤i→mk.getD i 0=0):∀ i,s.1≤i→s.2.getD i 0=0:=by
 unfold ic at h
 induction es generalizing nx mk with
 | nil=>simp only [uG,uS,bR] at h; subst h; exact A
 | cons e es ih=>
   simp only [uF,uQ,uR] at h;obtain ⟨⟨C,m1⟩,h1,h2⟩:=h;exact ih h2<|QD f h1 A
theorem xg (h:¬(0 < a.length∧a.length≤1048576)):shaped a=false :=by grind [shaped]
theorem Gy (h:vs a (a.length+1) (0,eM a.length 0) 0=none):shaped a=false :=by
 unfold shaped; rw [h,Bool.and_false]
theorem xh {s:Nat×List Nat} (A:0 < a.length) (C:a.length≤1048576) (h:vs a (a.length+1) (0,eM a.length 0) 0=some s):shaped a=decide (s.1=a.length):=by grind [shaped]
def eT (a:List bH) (i:Nat):Nat:=min (QU a i).length 1099511627777
end
end Go.Hb
namespace Go.Hb
structure nI (h:Array Obj) (ea:Option ba) (es:List (UInt8×Int)):Prop where
 ok:0 < es.length→ea=some ⟨bk ea,fo ea,none⟩
 b:∀ k e,es[k]? =some e→aO h (bk ea) (fo ea+k*2 +0)=some (.int .u8 e.1.toNat)
 to:∀ k e,es[k]? =some e→aO h (bk ea) (fo ea+k*2 +1)=some (.int .i64 e.2)
theorem nI.wk {w w':ai} {A:Option ba} {es:List (UInt8×Int)} (h:nI w.heap A es) (hm:Wk w w'):nI w'.heap A es:=⟨h.ok,fun k e he=>hm.aO (h.b k e he),fun k e he=>hm.aO<|h.to k e he⟩
theorem xq {h:Array Obj} {b o:Nat} {u v:ah} (h0:aO h b (o+0)=some u) (A:aO h b (o+1)=some v):∀ j,j < 2→aO h b (o+j)= [u,v][j]? :=by grind
theorem nI.two {h:Array Obj} {A:Option ba} {es:List (UInt8×Int)} (C:nI h A es) {k:Nat} {e:UInt8×Int} (he:es[k]? =some e):∀ j,j < 2→aO h (bk A) (fo A+k*2 +j)= [bh .u8 e.1.toNat,.int .i64 e.2][j]? :=xq (C.b k e he)<|C.to k e he
structure gh (h:Array Obj) (aa:Option ba) (a:List bH):Prop where
 ok:0 < a.length→aa=some ⟨bk aa,fo aa,none⟩
 st:∀ i,i < a.length→∃ ea ec,aO h (bk aa) (fo aa+i*2 +0)=some (.bool (bu a i).1)∧aO h (bk aa) (fo aa+i*2 +1)=some (.slice ea (bu a i).2.length ec)∧nI h ea (bu a i).2
theorem gh.wk {w w':ai} {A:Option ba} {a:List bH} (h:gh w.heap A a) (hm:Wk w w'):gh w'.heap A a:=
 ⟨h.ok,fun i hi=>by
  obtain ⟨C,E,I,J,L⟩:=h.st i hi;exact ⟨C,E,hm.aO I,hm.aO J,L.wk hm⟩⟩
theorem gh.two {h:Array Obj} {C:Option ba} {a:List bH} (M:gh h C a) {i:Nat} (hi:i < a.length):∃ A E,(∀ j,j < 2→aO h (bk C) (fo C+i*2 +j)= [bB (bu a i).1,.slice A (bu a i).2.length E][j]?)∧nI h A (bu a i).2:=by
 obtain ⟨A,E,I,J,L⟩:=M.st i hi;exact ⟨A,E,xq I J,L⟩
theorem FG {w:ai} {B e size n b:Nat} {xs:List ah} (h:w.ownsRow B e size (.slice (some ⟨b,0,none⟩) n n) n xs):aD w.heap b xs:=by
 rcases h.2 with ⟨hn,_⟩ | ⟨g,cap,cur,C,_,E,_,_,I,A⟩
 · cases hn
 · simp only [mI,bR,Addr.mk.injEq,and_true,true_and] at C;obtain ⟨rfl,rfl⟩:=C;rw [iV (by rw [Array.length_toList,I]; exact bf _)] at A;exact ⟨_,by rw [← A]; simpa using E⟩
theorem mz {w w':ai} {b o:Nat} {u v:ah} (hm:Wk w w') (h:∀ j,j < 2→aO w.heap b (o+j)= [u,v][j]?):∀ j,j < 2→aO w'.heap b (o+j)= [u,v][j]? :=xq (hm.aO<|h 0 ag)<|hm.aO<|h 1 ag
theorem Md.gI {F:Nat→Prop} {w w':ai} (h:Md F w.drew w'):Md F w w':=⟨h.os,h.output,h.size,h.dA⟩
def lf (n:Nat):ah:= .int .u8 n
theorem Ct {h:Array Obj} {b:Nat} {f:Nat→ah} {mk:List Nat} {i:Nat} (hb:aD h b (mk.map f)) (hi:i < mk.length):aO h b (0 +i*1)=some (f<|mk.getD i 0):=by
 rw [oK,dx,hb.aO,ij,cW,cI hi]; rfl
end Go.Hb
namespace Go.Hb
abbrev Nr:Type :=List UInt8×Nat
end Go.Hb
namespace Go.Hb
section
variable {P:av} {N:Fm} {σ:Nat→ah} {w:ai} {ty:au} {pos :String} {af:Array Edge} {g:Option (Nat×Bool)} {x y:bA} {K:(Nat→ah)→ai→Prop}
end
end Go.Hb
namespace Go.Hb
def Gm (l:List Nr) (c d:Nat):List Nr:=(l.drop c).take<|d - c
end Go.Hb
namespace Go.Hb
end Go.Hb
end
section
namespace Go.Hb
def eW:List UInt8→Nat
 | []=>0
 | b::l=>b.toNat % 128 +128 *eW l
theorem zQ:∀ (l m:List UInt8),eW (l++m)=eW l+128 ^ l.length*eW m
 | [],m=>by simp [eW]
 | b::l,m=>by
   rw [List.cons_append,eW,eW,zQ l m,cn,yp,Nat.mul_add,← Nat.mul_assoc,BS 128 (128 ^ l.length)]; omega
theorem vU:∀ (l:List UInt8),eW l < 128 ^ l.length
 | []=>by simp [eW]
 | b::l=>by
   have :=vU l;rw [eW,cn,yp]; omega
def iu (l:List UInt8):Nat:=((l.take 10).takeWhile fun b=>decide (128≤b.toNat)).length
theorem Hf {f:UInt8→Bool} :∀ {l:List UInt8} {k:Nat},(∀ j,j < k→j < l.length∧f (l.getD j 0)=true)→(l.length≤k∨f (l.getD k 0)=false)→(l.takeWhile f).length=k
 | [],k,h,_=>by
   cases k with
   | zero=>rfl
   | succ k=>have :=(h 0 ag).1; simp at this
 | b::l,0,_,A=>by
   rcases A with A | A
   · simp at A
   · simp only [oE] at A;rw [I4,A]; rfl
 | b::l,k+1,h1,A=>by
   have h0:=(h1 0 ag).2;simp only [oE] at h0;rw [I4,h0,if_pos rfl,cn,Hf (k:=k) (fun j C=>by have :=h1 (j+1) ag; simpa using this) (by simpa using A)]
theorem G8 {l:List UInt8} {n j:Nat} (h:j < n):(l.take n).getD j 0=l.getD j 0:=by
 rw [cW,List.getElem?_take_of_lt h,cW]
theorem Dd {l:List UInt8} {n j:Nat} :(l.drop n).getD j 0=l.getD (n+j) 0:=by
 rw [cW,kz,cW]
theorem lB {s:List UInt8} {a k:Nat} (L:k≤10) (h:∀ j,j < k→a+j < s.length∧128≤(s.getD (a+j) 0).toNat) (A:k=10∨s.length≤a+k∨(s.getD (a+k) 0).toNat < 128):iu (s.drop a)=k:=by
 unfold iu;refine Hf (fun j E=> ?_) ?_
 · obtain ⟨I,C⟩:=h j E;refine ⟨by rw [bX,fY]; omega,?_⟩;rw [G8 ag,Dd];exact decide_eq_true C
 · rcases A with A | A | A
   · exact .inl<|by rw [bX]; omega
   · exact .inl<|by rw [bX,fY]; omega
   · by_cases J:k=10
     · exact .inl<|by rw [bX]; omega
     · refine .inr ?_;rw [G8 ag,Dd];exact decide_eq_false ag
def bJ (s:List UInt8) (a:Nat):Except Nat (Nat×Nat):=
 if iu (s.drop a)=10 then .error 61 else if s.length≤a+iu (s.drop a) then .error 60
 else if (iu (s.drop a)=9∧1 < (s.getD (a+iu (s.drop a)) 0).toNat)∨(0 < iu (s.drop a)∧(s.getD (a+iu (s.drop a)) 0).toNat=0) then .error 61
 else .ok (eW ((s.drop a).take<|iu (s.drop a)+1),a+iu (s.drop a)+1)
section
variable {s:List UInt8} {a k n p:Nat}
theorem Gc (h:iu (s.drop a)=10):bJ s a= .error 61:=by unfold bJ; rw [if_pos h]
theorem wZ (h:iu (s.drop a)=k) (A:k≠10) (C:s.length≤a+k):bJ s a= .error 60:=by unfold bJ; rw [h,if_neg A,if_pos C]
theorem rN (h:iu (s.drop a)=k) (C:k≠10) (E:a+k < s.length) (A:(k=9∧1 < (s.getD (a+k) 0).toNat)∨(0 < k∧(s.getD (a+k) 0).toNat=0)):bJ s a= .error 61:=by
 unfold bJ; rw [h,if_neg C,if_neg ag,if_pos A]
theorem wY (h:iu (s.drop a)=k) (C:k≠10) (E:a+k < s.length) (A:¬((k=9∧1 < (s.getD (a+k) 0).toNat)∨(0 < k∧(s.getD (a+k) 0).toNat=0))):bJ s a= .ok (eW ((s.drop a).take<|k+1),a+k+1):=by
 unfold bJ; rw [h,if_neg C,if_neg ag,if_neg A]
theorem kS (h:bJ s a= .ok (n,p)):a < p∧p≤s.length∧n < 18446744073709551616:=by
 unfold bJ at h;split at h
 · cases h
 · split at h
   · cases h
   · split at h
     · cases h
     · rename_i M O U;simp only [Except.ok.injEq,kY] at h;obtain ⟨rfl,rfl⟩:=h;refine ⟨ag,ag,?_⟩;have aa:iu (s.drop a)≤10:=by
        unfold iu;exact cQ (List.takeWhile_sublist _).length_le<|by rw [bX]; omega
       generalize Z:iu (s.drop a)=k at*;have L:=vU<|(s.drop a).take<|k+1;have hlen:((s.drop a).take<|k+1).length=k+1:=by rw [bX,fY]; omega
       by_cases J:k=9
       · subst J;rw [show (9:Nat)+1=10 from rfl,I6,zQ];have A:=vU<|(s.drop a).take 9;have E:((s.drop a).take 9).length=9:=by rw [bX,fY]; omega
         rw [E] at A ⊢;have I:(s.drop a)[9]? =some (s.getD (a+9) 0):=by
          rw [kz,cW,cI ag]; rfl
         rw [I];simp only [Jg,eW];have V:(s.getD (a+9) 0).toNat≤1:=ag;have C:(128:Nat) ^ 9=9223372036854775808:=aI;rw [C] at A ⊢;omega
       · rw [hlen] at L;have :(128:Nat) ^ (k+1)≤128 ^ 9:=sJ aI ag;have C:(128:Nat) ^ 9=9223372036854775808:=aI;omega
end
def cY {α:Type} (f:Nat→Except Nat (α×Nat)):Nat→Nat→Except Nat (List α×Nat)
 | 0,a=> .ok ([],a)
 | k+1,a=>match cY f k a with
   | .error e=> .error e
   | .ok (l,p)=>match f p with
     | .error e=> .error e
     | .ok (x,q)=> .ok (l++ [x],q)
section
variable {α:Type} {f:Nat→Except Nat (α×Nat)} {k n a p q e:Nat} {l:List α} {x:α}
theorem n5 (h:cY f k a= .ok (l,p)) (A:f p= .ok (x,q)):cY f (k+1) a= .ok (l++ [x],q):=by rw [cY,h]; simp only [A]
theorem jQ (h:cY f k a= .ok (l,p)) (C:f p= .error e) (hn:k < n):cY f n a= .error e:=by
 have A:cY f (k+1) a= .error e:=by rw [cY,h]; simp only [C]
 obtain ⟨d,rfl⟩:∃ d,n=k+1 +d:=⟨n - (k+1),ag⟩
 clear hn
 induction d with
 | zero=>exact A
 | succ d ih=>rw [← jy,cY,ih]
theorem ke:∀ {k:Nat} {l:List α} {p:Nat},cY f k a= .ok (l,p)→l.length=k
 | 0,l,p,h=>by cases h; rfl
 | k+1,l,p,h=>by
   rw [cY] at h;split at h
   · cases h
   · rename_i C p2 A;split at h
     · cases h
     · cases h;rw [bp,ke A]; rfl
theorem ph {R:Nat→Prop} {S:α→Prop} (E:∀ p x q,R p→f p= .ok (x,q)→R q∧S x):∀ {k:Nat} {l:List α} {p:Nat},R a→cY f k a= .ok (l,p)→R p∧∀ x∈l,S x
 | 0,l,p,ha,h=>by cases h; exact ⟨ha,fun x C=>by simp at C⟩
 | k+1,l,p,ha,h=>by
   rw [cY] at h;split at h
   · cases h
   · rename_i U p2 I;obtain ⟨J,L⟩:=ph E ha I;split at h
     · cases h
     · rename_i x q C;cases h;obtain ⟨M,O⟩:=E _ _ _ J C;refine ⟨M,fun y A=> ?_⟩;rcases dz.1 A with A | A
       · exact L y A
       · rw [fu.1 A]; exact O
end
def dK (s:List UInt8) (a:Nat):Except Nat (List UInt8×Nat):=match bJ s a with
 | .error e=> .error e
 | .ok (n,p)=>if 255 < n then .error 62 else if s.length < p+n then .error 60 else .ok ((s.drop p).take n,p+n)
def iM (s:List UInt8) (a:Nat):Except Nat ((List UInt8×List UInt8)×Nat):=match dK s a with
 | .error e=> .error e
 | .ok (f,p)=>match dK s p with
   | .error e=> .error e
   | .ok (t,q)=> .ok ((f,t),q)
def fI (s:List UInt8) (n a:Nat):Except Nat ((UInt8×Int)×Nat):=if s.length≤a then .error 60 else match bJ s (a+1) with
 | .error e=> .error e
 | .ok (t,p)=>if n≤t then .error 190 else .ok ((s.getD a 0,(t:Int)),p)
def gO (s:List UInt8) (n a:Nat):Except Nat (bH×Nat):=match bJ s a with
 | .error e=> .error e
 | .ok (v,p)=>if 256 < v / 2 then .error 190 else match cY (fI s n) (v / 2) p with
   | .error e=> .error e
   | .ok (es,q)=> .ok ((decide (v % 2=1),es),q)
def dy (s:List UInt8) (a:Nat):Except Nat (List bH×Nat):=match bJ s a with
 | .error e=> .error e
 | .ok (n,p)=>if n=0∨1048576 < n then .error 190 else match cY (gO s n) n p with
   | .error e=> .error e
   | .ok (l,q)=>if shaped l=true then .ok (l,q) else .error 190
def jr (r:List UInt8×List UInt8):Bool:=decide (r.1≠[]) && (gG r.1 && decide (r.1.length≤32)) && (gG r.2 && decide (r.2.length≤32))
def fL (n:Nat) (t:List UInt8) (rs:List (List UInt8×List UInt8)):Bool:=decide (1≤n∧n≤64∧rs.length≤256) && (decide (t= []) || decide (letE t=(t,0))) && rs.all jr
structure eS where
 least:Nat
 tr:List UInt8
 kP:List (List UInt8×List UInt8)
 jq:List (List bH)
def gn:List UInt8:= [72,66,75,49]
def iq (s:List UInt8) (n:Nat) (t:List UInt8) (rs:List (List UInt8×List UInt8)) (a:Nat):Except Nat eS:=
 if fL n t rs=true then match cY (dy s) 4 a with
  | .error e=> .error e
  | .ok (l,p)=>if p=s.length then .ok ⟨n,t,rs,l⟩ else .error 202
 else .error 201
def cC (s:List UInt8):Except Nat eS:=
 if s.take 4=gn then match bJ s 4 with
  | .error e=> .error e
  | .ok (n,p1)=>match dK s p1 with
    | .error e=> .error e
    | .ok (t,p2)=>match bJ s p2 with
      | .error e=> .error e
      | .ok (m,p3)=>if 256 < m then .error 201 else match cY (iM s) m p3 with
        | .error e=> .error e
        | .ok (rs,p4)=>iq s (if n≤64 then n else 0) t rs p4
 else .error 200
section
variable {s:List UInt8} {a n p:Nat}
theorem qV {f:List UInt8} (h:dK s a= .ok (f,p)):a < p∧p≤s.length∧f.length≤255:=by
 unfold dK at h;split at h
 · cases h
 · rename_i n q A;obtain ⟨C,E,_⟩:=kS A;split at h
   · cases h
   · split at h
     · cases h
     · cases h;exact ⟨ag,ag,by rw [bX]; omega⟩
theorem OE {r:List UInt8×List UInt8} (h:iM s a= .ok (r,p)):a < p∧p≤s.length∧r.1.length≤255∧r.2.length≤255:=by
 unfold iM at h;split at h
 · cases h
 · rename_i f q I;obtain ⟨L,M,A⟩:=qV I;split at h
   · cases h
   · rename_i t U J;obtain ⟨O,C,E⟩:=qV J;cases h;exact ⟨ag,C,A,E⟩
theorem Lv {e:UInt8×Int} (h:fI s n a= .ok (e,p)):a < p∧p≤s.length∧0≤e.2∧e.2 < n:=by
 unfold fI at h;split at h
 · cases h
 · split at h
   · cases h
   · rename_i t q C;obtain ⟨E,A,_⟩:=kS C;split at h
     · cases h
     · cases h;exact ⟨ag,A,by show (0:Int)≤(t:Int); omega,by show (t:Int) < n; omega⟩
theorem uc {x:bH} (h:gO s n a= .ok (x,p)):a < p∧p≤s.length∧x.2.length≤256∧∀ e∈x.2,0≤e.2∧e.2 < n:=by
 unfold gO at h;split at h
 · cases h
 · rename_i v q I;obtain ⟨L,C,_⟩:=kS I;split at h
   · cases h
   · split at h
     · cases h
     · rename_i es U A;have O:=ke A;obtain ⟨⟨M,E⟩,h5⟩:=ph (R:=fun p=>q≤p∧p≤s.length) (S:=fun e:UInt8×Int=>0≤e.2∧e.2 < n) (fun p x q' hr J=>by
        obtain ⟨g1,g2,g3⟩:=Lv J;exact ⟨⟨ag,g2⟩,g3⟩) ⟨bf _,C⟩ A
       cases h;exact ⟨ag,E,by show es.length≤256; omega,h5⟩
theorem Gl {l:List bH} (h:dy s a= .ok (l,p)):a < p∧p≤s.length∧shaped l=true∧l.length≤1048576∧∀ x∈l,x.2.length≤256∧∀ e∈x.2,0≤e.2∧e.2 < l.length:=by
 unfold dy at h;split at h
 · cases h
 · rename_i n q J;obtain ⟨O,C,_⟩:=kS J;split at h
   · cases h
   · split at h
     · cases h
     · rename_i V Z A;have I:=ke A;obtain ⟨⟨U,E⟩,h5⟩:=ph (R:=fun p=>q≤p∧p≤s.length) (S:=fun x:bH=>x.2.length≤256∧∀ e∈x.2,0≤e.2∧e.2 < n) (fun p x q' hr M=>by
        obtain ⟨g1,g2,g3⟩:=uc M;exact ⟨⟨ag,g2⟩,g3⟩) ⟨bf _,C⟩ A
       split at h
       · cases h;rename_i L;exact ⟨ag,E,L,ag,by rw [I]; exact h5⟩
       · cases h
structure eS.Is (s:List UInt8) (b:eS):Prop where
 least:1≤b.least∧b.least≤64
 Rk:b.kP.length≤256
 kP:∀ r∈b.kP,r.1≠[]∧r.1.length≤32∧r.2.length≤32
 tr:b.tr.length≤255
 Fh:b.jq.length=4
 jq:∀ l∈b.jq,shaped l=true∧l.length≤1048576∧∀ x∈l,x.2.length≤256∧∀ e∈x.2,0≤e.2∧e.2 < l.length
theorem C5 {b:eS} (h:cC s= .ok b):b.Is s:=by
 unfold cC at h;split at h
 · split at h
   · cases h
   · rename_i n p1 J;split at h
     · cases h
     · rename_i t p2 E;split at h
       · cases h
       · rename_i m p3 L;split at h
         · cases h
         · split at h
           · cases h
           · rename_i rs p4 M;generalize (if n≤64 then n else 0)=n0 at h;unfold iq at h;split at h
             · rename_i A;split at h
               · cases h
               · rename_i l p5 C;split at h
                 · cases h;unfold fL at A;simp only [bO,decide_eq_true_eq,List.all_eq_true] at A;obtain ⟨⟨⟨g1,g2,g3⟩,_⟩,g4⟩:=A;refine ⟨⟨g1,g2⟩,g3,fun r hr=> ?_,(qV E).2.2,ke C,(ph (R:=fun _=>True) (fun p x q _ I=>⟨trivial,(Gl I).2.2⟩) trivial C).2⟩;have :=g4 r hr;unfold jr at this;simp only [bO,decide_eq_true_eq] at this;exact ⟨this.1.1,this.1.2.2,this.2.2⟩
                 · cases h
             · cases h
 · cases h
end
end Go.Hb
end
section
namespace Go.Hb
def dm (f:List (List UInt8)):Nat:=((f.getD 0 []).getD 0 0).toNat
def dS (f:List (List UInt8)):u6:=iA<|(f.getD 0 []).drop 1
def eN (f:List (List UInt8)):Except Nat (List UInt8×Int):=
 if f.length≠1 then .error 111 else if dm f≠43∧dm f≠45 then .error 281 else
 if (dS f).2.2.2≠0 then .error (dS f).2.2.2 else if (dS f).2.2.1=true then .error 114 else if dL (dS f).1=false then .error 21 else .ok ((dS f).1,if dm f=43 then 1 else -1)
theorem Du {f:List (List UInt8)} (h:f.length≠1):eN f= .error 111:=if_pos h
theorem Dw {f:List (List UInt8)} (h:f.length=1) (A:dm f≠43) (C:dm f≠45):eN f= .error 281:=(if_neg fun e=>e h).trans<|if_pos ⟨A,C⟩
theorem vB {f:List (List UInt8)} (h:f.length=1) (A:dm f=43∨dm f=45):eN f=if (dS f).2.2.2≠0 then .error (dS f).2.2.2 else if (dS f).2.2.1=true then .error 114 else if dL (dS f).1=false then .error 21 else .ok ((dS f).1,if dm f=43 then 1 else -1):=(if_neg fun e=>e h).trans<|if_neg ag
theorem Dt {f:List (List UInt8)} (h:f.length=1) (A:dm f=43∨dm f=45) (C:(dS f).2.2.2≠0):eN f= .error (dS f).2.2.2:=(vB h A).trans<|if_pos C
theorem Ds {f:List (List UInt8)} (h:f.length=1) (A:dm f=43∨dm f=45) (C:(dS f).2.2.2=0) (E:(dS f).2.2.1=true):eN f= .error 114:=(vB h A).trans<|(if_neg fun e=>e C).trans<|if_pos E
theorem Dr {f:List (List UInt8)} (h:f.length=1) (A:dm f=43∨dm f=45) (C:(dS f).2.2.2=0) (E:(dS f).2.2.1=false) (I:dL (dS f).1=false):eN f= .error 21:=
 (vB h A).trans ((if_neg fun e=>e C).trans<|(if_neg<|by rw [E]; decide).trans<|if_pos I)
theorem Dv {f:List (List UInt8)} (h:f.length=1) (A:dm f=43∨dm f=45) (C:(dS f).2.2.2=0) (E:(dS f).2.2.1=false) (I:dL (dS f).1=true):eN f= .ok ((dS f).1,if dm f=43 then 1 else -1):=
 (vB h A).trans ((if_neg fun e=>e C).trans<|(if_neg<|by rw [E]; decide).trans<|if_neg<|by rw [I]; decide)
theorem Dx {f:List (List UInt8)} {x:List UInt8} {o:Int} (h:eN f= .ok (x,o)):dL x=true∧((o=1∧dm f=43)∨(o= -1∧dm f≠43))∧f.length=1:=by
 unfold eN at h
 repeat' split at h
 all_goals first | cases h | skip
 · rename_i E I J L A C;exact ⟨by simpa using A,.inl ⟨U,C⟩,ag⟩
 · rename_i E I J L A C;exact ⟨by simpa using A,.inr ⟨U,C⟩,ag⟩
theorem QS:∀ (l acc:List UInt8),(fm acc l).2.2.2=0∨(fm acc l).2.2.2=20:=by
 intro l
 induction hn:l.length using Nat.strongRecOn generalizing l with
 | _ n ih=>
   intro acc
   match l with
   | []=>exact .inl rfl
   | b::l=>
     by_cases h:b.toNat=47
     · rw [xK h]; exact .inl rfl
     · by_cases A:b.toNat=92
       · match l with
         | []=>rw [xG A]; exact .inr rfl
         | c::l=>
           cases hc:jN c with
           | false =>rw [xH A hc]; exact .inr rfl
           | true =>rw [si A hc]; exact ih l.length (by simp only [cn] at hn; omega) l rfl _
       · rw [xI h A]; exact ih l.length (by simp only [cn] at hn; omega) l rfl _
theorem zb {f:List (List UInt8)} {e:Nat} (h:eN f= .error e):e≠0∧e≤281:=by
 have :=QS ((f.getD 0 []).drop 1) [];unfold eN at h
 repeat' split at h
 all_goals first | (cases h; done) | (cases h; omega) | skip
 rename_i C E A;cases h;exact ⟨A,by unfold dS iA; omega⟩
def fD (rs:List (Nat×List (List UInt8))):Nat→Except (Nat×Nat) (List UInt8→Option Int)
 | 0=> .ok fun _=>none
 | k+1=>match fD rs k with
   | .error e=> .error e
   | .ok g=>match eN (rs.getD k (0,[])).2 with
     | .error e=> .error ((rs.getD k (0,[])).1,e)
     | .ok (x,o)=>if g x≠none then .error ((rs.getD k (0,[])).1,112) else if k=500 then .error ((rs.getD k (0,[])).1,280) else .ok fun y=>if y=x then some o else g y
def gZ (t:List UInt8):Except (Nat×Nat) (List UInt8→Option Int):=if 65536 < t.length then .error (0,10) else fD (et t) (et t).length
section
variable {rs:List (Nat×List (List UInt8))} {k:Nat} {g:List UInt8→Option Int} {x:List UInt8} {o:Int} {e:Nat}
theorem FB (h:fD rs k= .ok g) (A:eN (rs.getD k (0,[])).2= .error e):fD rs (k+1)= .error ((rs.getD k (0,[])).1,e):=by rw [fD,h]; simp only [A]
theorem FF (h:fD rs k= .ok g) (A:eN (rs.getD k (0,[])).2= .ok (x,o)) (C:g x≠none):fD rs (k+1)= .error ((rs.getD k (0,[])).1,112):=by rw [fD,h]; simp only [A]; rw [if_pos C]
theorem FE (h:fD rs k= .ok g) (A:eN (rs.getD k (0,[])).2= .ok (x,o)) (C:g x=none) (E:k=500):fD rs (k+1)= .error ((rs.getD k (0,[])).1,280):=by
 rw [fD,h]; simp only [A]; rw [if_neg fun e=>e C,if_pos E]
theorem FD (h:fD rs k= .ok g) (A:eN (rs.getD k (0,[])).2= .ok (x,o)) (C:g x=none) (E:k≠500):fD rs (k+1)= .ok fun y=>if y=x then some o else g y:=by
 rw [fD,h]; simp only [A]; rw [if_neg fun e=>e C,if_neg E]
theorem tN {q:Nat×Nat} (h:fD rs k= .error q):∀ {n:Nat},k≤n→fD rs n= .error q
 | 0,hn=>by obtain rfl :k=0:=ag
            exact h
 | n+1,hn=>by
   rcases Nat.eq_or_lt_of_le hn with rfl | hn
   · exact h
   · rw [fD,tN h (n:=n) ag]
theorem wO:∀ {k:Nat} {g:List UInt8→Option Int},fD rs k= .ok g→eA g∧dh g k∧k≤500
 | 0,g,h=>by cases h; exact ⟨eA.nil,by unfold dh; rw [q8]; exact fG.nil,ag⟩
 | k+1,g,h=>by
   rw [fD] at h;split at h
   · cases h
   · rename_i g0 h0;split at h
     · cases h
     · rename_i x o E;obtain ⟨i1,i2,i3⟩:=wO h0;obtain ⟨v1,v2,v3⟩:=Dx E;split at h
       · cases h
       · rename_i C;have C:=mD.1 C;split at h
         · cases h
         · cases h;refine ⟨⟨fun y p A=> ?_,fun y p A=> ?_⟩,by unfold dh; rw [← q9]; exact fG.new i2 (by rw [iK,C]; rfl),ag⟩
           · split at A
             · cases A; omega
             · exact i1.val y p A
           · split at A
             · rename_i e; rw [e]; exact v1
             · exact i1.wd y p A
end
end Go.Hb
end
section
namespace Go.Hb
theorem GF:∀ {a b:List UInt8},cm a b=true→a≤b
 | [],b,_=>List.nil_le b
 | x::a,[],h=>absurd (show false =true from h) aI
 | x::a,y::b,h=>by
   rw [xi] at h;intro A;rw [List.cons_lt_cons_iff] at A;simp only [lI,decide_eq_true_eq,bO,beq_iff_eq] at h;rcases h with h | ⟨rfl,h⟩
   · rcases A with A | ⟨rfl,A⟩
     · exact absurd (UInt8.lt_trans h A)<|BU _
     · exact BU _ h
   · rcases A with A | ⟨_,A⟩
     · exact BU _ A
     · exact GF h A
abbrev mN (l:List (List UInt8)):Prop :=l.Pairwise fun x y=>cm x y=true
structure dd (g:List UInt8→Option Int) (a b:List (List UInt8)):Prop where
 ua:mN a
 ub:mN b
 ma:∀ x,x∈a↔g x=some 1
 mb:∀ x,x∈b↔g x=some (-1)
def iy (a s:List (List UInt8)):List (List UInt8):=a.filter fun x=>decide (x∉s)
theorem E5 {a s:List (List UInt8)} {i:Nat} (h:i < a.length):iy (a.take<|i+1) s=if a.getD i []∈s then iy (a.take i) s else iy (a.take i) s++ [a.getD i []]:=by
 unfold iy;rw [ib a i [] h,List.filter_append];by_cases hm:a.getD i []∈s
 · rw [if_pos hm,List.filter_cons_of_neg (by simpa using hm),II,List.append_nil]
 · rw [if_neg hm,List.filter_cons_of_pos (by simpa using hm),II]
theorem Af (a s:List (List UInt8)):(iy a s).length≤a.length:=List.length_filter_le _ _
theorem dd.nil:dd (fun _=>none) [] []:=⟨List.Pairwise.nil,List.Pairwise.nil,fun x=>by simp,fun x=>by simp⟩
section
variable {g g':List UInt8→Option Int} {a b a' b' l:List (List UInt8)}
theorem vp {A:Int} (hw:A≠0) (x:List UInt8):eD A (c8 A g l) g x=if x∈l then some A else g x:=by
 unfold eD c8 gk fl;by_cases C:x∈l
 · rw [if_pos C];cases hg:g x with
   | none=>
     simp only [C,if_true,Option.getD_none];rw [if_neg fun e=>hw e.symm]
   | some o=>
     simp only [C,if_true,jz];by_cases h0:o=A
     · rw [if_pos h0,h0]
     · rw [if_neg h0]
 · simp only [C,if_false]
theorem dd.add (h:dd g a b):dd (eD 1 (c8 1 g l) g) (bP<|a++bP l) (iy b<|bP l):=by
 refine ⟨iO _,h.ub.filter _,fun x=> ?_,fun x=> ?_⟩
 · rw [vp aI,ix,dz,ix,h.ma];by_cases A:x∈l <;> simp [A]
 · rw [vp aI];unfold iy;rw [ye,h.mb];by_cases A:x∈l <;> simp [A,ix]
theorem dd.JN (h:dd g a b):dd (eD (-1) (c8 (-1) g l) g) (iy a<|bP l) (bP<|b++bP l):=by
 refine ⟨h.ua.filter _,iO _,fun x=> ?_,fun x=> ?_⟩
 · rw [vp aI];unfold iy;rw [ye,h.ma];by_cases A:x∈l <;> simp [A,ix]
 · rw [vp aI,ix,dz,ix,h.mb];by_cases A:x∈l <;> simp [A]
theorem dd.row {x:List UInt8} {o:Int} (h:dd g a b) (hn:g x=none):dd (fun y=>if y=x then some o else g y) (if o=1 then bP (a++ [x]) else a) (if o=1 then b else bP (b++ [x]))∨¬(o=1∨o= -1):=by
 by_cases C:o=1
 · subst C;refine .inl ?_;rw [if_pos rfl,if_pos rfl];refine ⟨iO _,h.ub,fun y=> ?_,fun y=> ?_⟩
   · rw [ix,dz,fu,h.ma];by_cases A:y=x <;> simp [A]
   · rw [h.mb];by_cases A:y=x <;> simp [A,hn]
 · by_cases E:o= -1
   · subst E;refine .inl ?_;rw [if_neg C,if_neg C];refine ⟨h.ua,iO _,fun y=> ?_,fun y=> ?_⟩
     · rw [h.ma];by_cases A:y=x <;> simp [A,hn]
     · rw [ix,dz,fu,h.mb];by_cases A:y=x <;> simp [A]
   · exact .inr ag
theorem dd.has (h:dd g a b) (E:eA g) (x:List UInt8):(g x).getD 0=if x∈a then 1 else if x∈b then -1 else 0:=by
 by_cases A:x∈a
 · rw [if_pos A,(h.ma x).1 A]; rfl
 · rw [if_neg A];by_cases C:x∈b
   · rw [if_pos C,(h.mb x).1 C]; rfl
   · rw [if_neg C];cases hx:g x with
     | none=>rfl
     | some o=>
       rcases E.val x o hx with rfl | rfl
       · exact absurd ((h.ma x).2 hx) A
       · exact absurd ((h.mb x).2 hx) C
theorem dd.fin (h:dd g a b) (C:eA g):gU g (bP<|a++b):=by
 refine ⟨xz (iO _),fun y=> ?_⟩;rw [ix,dz,h.ma,h.mb];constructor
 · rintro (h | h) <;> exact ⟨_,h⟩
 · rintro ⟨o,A⟩;rcases C.val y o A with rfl | rfl
   · exact .inl A
   · exact .inr A
theorem dd.Qb (h:dd g a b) (A:eA g):gQ g (bP<|a++b)=se g:=A8 (h.fin A)<|(iO _).imp GF
theorem dd.len (h:dd g a b) (L:eA g):(bP<|a++b).length=a.length+b.length:=by
 have I:(a++b).Nodup:=yh.2 ⟨xz h.ua,xz h.ub,fun x A y J e=>by
  subst e;have :=((h.ma x).1 A).symm.trans<|(h.mb x).1 J;cases this⟩
 have C:=wo I (b:=bP<|a++b) fun x A=>ix.2 A;have E:=ot<|a++b;rw [bp] at C E;omega
theorem dd.eT {n:Nat} (h:dd g a b) (A:eA g) (C:dh g n):a.length+b.length=n:=by
 rw [← h.len A]; exact (h.fin A).eT C
theorem dd.ext (h:dd g a b) (A:dd g' a' b') (C:eA g) (I:eA g'):(a=a'∧b=b')↔g=g':=by
 constructor
 · rintro ⟨rfl,rfl⟩;funext x;have k:∀ {g g':List UInt8→Option Int},dd g a b→dd g' a b→eA g→∀ o,g x=some o→g' x=some o:=fun {g g'} h A C o E=>by
    rcases C.val x o E with rfl | rfl
    · exact (A.ma x).1<|(h.ma x).2 E
    · exact (A.mb x).1<|(h.mb x).2 E
   cases hx:g x with
   | some o=>exact (k h A C o hx).symm
   | none=>
     cases hx':g' x with
     | none=>rfl
     | some o=>rw [k A h I o hx'] at hx; cases hx
 · rintro rfl;exact ⟨uh h.ua A.ua fun x=>(h.ma x).trans (A.ma x).symm,uh h.ub A.ub fun x=>(h.mb x).trans (A.mb x).symm⟩
end
end Go.Hb
end
section
namespace Go.Hb
open Go Go.ChangeShapes
theorem O7 {P:av} {n:String} {W:ai} {g:Nat} {cs:Array ah} (C:P.globalNamed n=some g) (A:W.var? P n=some cs):∃ e z,W.heap[g]? =some (.cells cs e z):=by
 unfold World.var? at A;rw [C] at A;simp only [Option.bind_some] at A;split at A
 · rename_i c e z h;cases A;exact ⟨e,z,h⟩
 · cases A
theorem kj {P:av} {n nm:String} {text:List UInt8} {r:List (String×DataW Unit)} {W:ai} {g:Nat} {L E te I:au} {ms:Array (String×au)} {f:Field}
 (h:laidMet P ((n,.iface nm (.ptr<|.agg [.lit (.string text)]))::r) W)
 (A:P.globalNamed n=some g) (ae:(P.globals[g]?).map (·.type)=some L) (hi:P.underlying L=some (.interface ms)) (ac:∀ u,P.typeName? 3 u=some nm→u=E)
 (hp:P.underlying E=some (.pointer te)) (he:P.underlying te=some (.struct #[f])) (aa:f.type=I) (Z:f.offset=0) (ad:P.underlying I=some .string) (O:P.cellsOf te=1) (V:P.cellsOf I=1):
 ∃ (a:ba) (e:Nat),a.spot=none∧W.heap[g]? =some (.cells #[.iface E (.pointer<|some a)] e (0,0)):=by
 obtain ⟨a,s,J,U,_,_⟩:=laid_sentinel h A ae hi ac hp he aa Z ad O V;obtain ⟨e,z,hw⟩:=O7 A J;obtain ⟨ps,⟨g0,t0,aj,f0,am,an,ab,al,ag,ak,_,M⟩,_,hrows⟩:=h;obtain rfl :=gF<|A.symm.trans ab;subst M;have ah:=gF<|J.symm.trans ag;subst ah;obtain ⟨⟨c,t,C⟩,_⟩:=hrows g 0<|by simp [MemPlace.row]
 rw [hw] at C;simp only [bR,Obj.cells.injEq] at C;obtain ⟨_,_,rfl⟩:=C;exact ⟨a,e,World.cell?_spot U,hw⟩
theorem dY.nil {T:Nat} {w:ai} :dY T [] w:=fun g h=>by cases h
theorem dY.cons {T g:Nat} {l:List Nat} {w:ai} (h:∃ (a:ba) (e:Nat),a.spot=none∧w.heap[g]? =some (.cells #[.iface T (.pointer<|some a)] e (0,0))) (C:dY T l w):dY T (g::l) w:=fun k A=>by
 rcases ew.1 A with rfl | A
 · exact h
 · exact C k A
theorem dY.sub {T:Nat} {l m:List Nat} {w:ai} (h:dY T l w) (C:∀ g∈m,g∈l):dY T m w:=fun g A=>h g<|C g A
end Go.Hb
end
section
namespace Go.Hb
abbrev aQ (n:Nat):ah:= .int .i64 (n:Nat)
abbrev aA (b:Nat):ah:= .pointer<|some ⟨b,0,none⟩
variable {P:av} {N:Fm} {ops:Array Oper} {Q:Exit→(Nat→ah)→ai→Prop} {σ:Nat→ah} {w:ai} {S:ai→Prop} {r fuel:Nat} {listed:Array Bool} {d:Nat} {op:Op} {ty:au} {pos :String} {af:Array Edge} {v:ah}
theorem gL (i:Nat) (hi:ops[i]? =some ⟨some d,op,ty,pos,af,none⟩) (E:∀ w,S w→(execOp (ev N σ) ⟨some d,op,ty,pos,af,none⟩).run P w= .ok (.value v) w) (A:S w) (k:dr P N ops Q S fuel (listed.setIfInBounds i true) (bI σ d v) w) (C:fU N.F ops listed i=true :=by kernel_rfl):dr P N ops Q S (fuel+1) listed σ w:=hp i hi C E A k
theorem tD (i:Nat) (hi:ops[i]? =some ⟨some d,op,ty,pos,af,none⟩) (E:∀ w,S w→(execOp (ev N σ) ⟨some d,op,ty,pos,af,none⟩).run P w= .ok (.value v) w) (A:S w) (k:db P N ops Q S r fuel (listed.setIfInBounds i true) (bI σ d v) w) (C:zy N.F ops listed r i=true :=by kernel_rfl):db P N ops Q S r (fuel+1) listed σ w:=ET i hi C E A k
theorem Nh (i:Nat) (hi:ops[i]? =some ⟨some d,op,ty,pos,af,none⟩) (E:∀ w,(execOp (ev N σ) ⟨some d,op,ty,pos,af,none⟩).run P w= .ok (.value v) w) (A:listed.getD r false =false→S w) (k:db P N ops Q S r fuel (listed.setIfInBounds i true) (bI σ d v) w) (C:o9 N.F ops listed r i=true :=by kernel_rfl):db P N ops Q S r (fuel+1) listed σ w:=tE i hi C E A k
theorem cz (i:Nat) (hi:ops[i]? =some ⟨some d,op,ty,pos,af,none⟩) (E:∀ {w},(execOp (ev N σ) ⟨some d,op,ty,pos,af,none⟩).run P w= .ok (.value v) w) (A:S w) (k:dr P N ops Q S fuel (listed.setIfInBounds i true) (bI σ d v) w) (C:fU N.F ops listed i=true :=by kernel_rfl):dr P N ops Q S (fuel+1) listed σ w:=hp i hi C (fun _ _=>E) A k
theorem Ng (i:Nat) (hi:ops[i]? =some ⟨some d,op,ty,pos,af,none⟩) (E:∀ {w},(execOp (ev N σ) ⟨some d,op,ty,pos,af,none⟩).run P w= .ok (.value v) w) (A:S w) (k:db P N ops Q S r fuel (listed.setIfInBounds i true) (bI σ d v) w) (C:qW N.F ops listed r i=true :=by kernel_rfl):db P N ops Q S r (fuel+1) listed σ w:=lq i hi C (fun _ _=>E) A k
theorem zY (i:Nat) (hi:ops[i]? =some ⟨some d,op,ty,pos,af,none⟩) (E:∀ {w},(execOp (ev N σ) ⟨some d,op,ty,pos,af,none⟩).run P w= .ok (.value v) w) (A:S w) (k:db P N ops Q S r fuel (listed.setIfInBounds i true) (bI σ d v) w) (C:o9 N.F ops listed r i=true :=by kernel_rfl):db P N ops Q S r (fuel+1) listed σ w:=tE i hi C (fun _=>E) (fun _=>A) k
theorem zF {x:bA} (i:Nat) (hi:ops[i]? =some ⟨some d,.move x,ty,pos,af,none⟩) (v:ah) (A:S w) (k:dr P N ops Q S fuel (listed.setIfInBounds i true) (bI σ d v) w) (E:ev N σ x=v:=by exact U) (C:fU N.F ops listed i=true :=by kernel_rfl):dr P N ops Q S (fuel+1) listed σ w:=hp i hi C (fun _ _=>pC v E) A k
theorem Rj {x:bA} (i:Nat) (hi:ops[i]? =some ⟨some d,.move x,ty,pos,af,none⟩) (v:ah) (A:S w) (k:db P N ops Q S r fuel (listed.setIfInBounds i true) (bI σ d v) w) (E:ev N σ x=v:=by exact U) (C:o9 N.F ops listed r i=true :=by kernel_rfl):db P N ops Q S r (fuel+1) listed σ w:=tE i hi C (fun _=>pC v E) (fun _=>A) k
theorem lj {P:av} {f:FuncId} {fn:Func} (A:P.funcs[f]? =some fn) (hn:(fn.name== "runtime.NumGoroutine")=false :=by kernel_rfl) (hb:fn.body.isNone=false :=by kernel_rfl):gv P f:=yN A hn hb
section
variable {rest:List Oper} {x:bA} {K:(Nat→ah)→ai→Prop} {l:List Oper} {id:Nat} {y z:Code} {j t:Nat} {want b:Bool} {fn:Func} {R:ah→ai→Prop}
theorem Rp (h:∀ {K:(Nat→ah)→ai→Prop},(∀ {σ w},bU P N y Q σ w→iP K Q .normal σ w)→bU P N z (iP K Q) σ w):bU P N (.seq z y) Q σ w:=sq fun K A=>h fun hw=>A _ _ hw
theorem Rq (h:∀ {K:(Nat→ah)→ai→Prop},(∀ {σ w},bU P N y Q σ w→iP K Q .normal σ w)→cG P N l.toArray (iP K Q) l σ w) (hr:mi N.r l=true :=by exact U):bU P N (.seq (.region id l.toArray false) y) Q σ w:=sq fun K A=>rg hr<|h fun hw=>A _ _ hw
theorem Rh (h:Q .normal (bI σ d<|ev N σ x) w):cG P N ops Q [⟨some d,.assign x,ty,pos,af,none⟩] σ w:=p aT<|nl h
theorem cg {id:Nat} (h:Q (.exit id) σ w):iP K Q (.exit id) σ w:=h
theorem Rl (h:(fg ops j,aZ t N.n,σ t,b==want)=(some t,true,.bool b,false)) (k:cG P N ops Q rest (bI σ d undef) w):cG P N ops Q (⟨some d,op,ty,pos,af,some (j,want)⟩::rest) σ w:=sk (congrArg dj h) (congrArg (·.2.1) h) (congrArg (·.2.2.1) h) (congrArg (·.2.2.2) h) k
theorem Rm (h:(fg ops j,aZ t N.n,σ t)=(some t,true,undef)) (k:cG P N ops Q rest (bI σ d undef) w):cG P N ops Q (⟨some d,op,ty,pos,af,some (j,want)⟩::rest) σ w:=GB (congrArg dj h) (congrArg (·.2.1) h) (congrArg (·.2.2) h) k
theorem bo (h:(fg ops j,aZ t N.n,σ t)=(some t,true,.bool want)) (A:(execOp (ev N σ) ⟨some d,op,ty,pos,af,some (j,want)⟩).run P w= .ok (.value v) w) (k:cG P N ops Q rest (bI σ d v) w):cG P N ops Q (⟨some d,op,ty,pos,af,some (j,want)⟩::rest) σ w:=pg (congrArg dj h) (congrArg (·.2.1) h) (congrArg (·.2.2) h) A k
theorem Ri (i:Nat) (h:(ops[i]?,fg ops j,aZ t N.n,σ t,b==want)=(some ⟨some d,op,ty,pos,af,some (j,want)⟩,some t,true,.bool b,false)) (A:S w) (k:dr P N ops Q S fuel (listed.setIfInBounds i true) (bI σ d undef) w) (C:fU N.F ops listed i=true :=by kernel_rfl):dr P N ops Q S (fuel+1) listed σ w:=Em i (congrArg dj h) C (congrArg (·.2.1) h) (congrArg (·.2.2.1) h) (congrArg (·.2.2.2.1) h) (congrArg (·.2.2.2.2) h) A k
theorem ek (i:Nat) (h:(ops[i]?,fg ops j,aZ t N.n,σ t)=(some ⟨some d,op,ty,pos,af,some (j,want)⟩,some t,true,.bool want)) (E:∀ w,S w→(execOp (ev N σ) ⟨some d,op,ty,pos,af,some (j,want)⟩).run P w= .ok (.value v) w) (A:S w) (k:dr P N ops Q S fuel (listed.setIfInBounds i true) (bI σ d v) w) (C:fU N.F ops listed i=true :=by kernel_rfl):dr P N ops Q S (fuel+1) listed σ w:=El i (congrArg dj h) C (congrArg (·.2.1) h) (congrArg (·.2.2.1) h) (congrArg (·.2.2.2) h) E A k
theorem aE (h:(fn.results,ev N σ (.tmp t))=(#[.tmp t],v)) (A:R v w):fin P fn N R .ret σ w:=f1 (congrArg dj h) (congrArg Prod.snd h) A
theorem gD (v:ah) (h:cG P N ops Q rest (bI σ d v) w) (A:ev N σ x=v:=by exact U):cG P N ops Q (⟨some d,.move x,ty,pos,af,none⟩::rest) σ w:=p (pC v A) h
end
end Go.Hb
end
namespace Go.Hb.dO
theorem Jv:dD aq 154=some (some 2):=an
theorem Jw:dD aq 181=some (some 2):=an
theorem B5:dD aq 195=some (some 2):=an
theorem B6:dD aq 244=some (some 2):=an
theorem B7:dD aq 250=some (some 2):=an
theorem vg:dD aq 251=some (some 2):=an
theorem B8:dD aq 33=some none:=an
theorem oV:dD aq 35=some (some 3):=an
theorem oW:dD aq 60=some (some 7):=an
theorem sP:dD aq 65=some (some 2):=an
theorem Jx:dD aq 79=some (some 2):=an
theorem sQ:dD aq 92=some (some 7):=an
theorem Ci:mP aq 340=some (256,1):=an
theorem Cj:mP aq 58=some (4,1):=an
theorem Cm:mP aq 90=some (4,1):=an
theorem nM:nN aq 100 5 9=true :=an
theorem J1:gv aq 112:=lj func112
theorem Cz:gv aq 123:=lj func123
theorem J2:gv aq 132:=lj func132
theorem J3:gv aq 69:=lj func69
theorem qI:gv aq 70:=lj func70
theorem sY:gv aq 71:=lj func71
theorem jF:gv aq 72:=lj func72
theorem J4:gv aq 74:=lj func74
theorem J5:gv aq 76:=lj func76
theorem J6:gv aq 77:=lj func77
theorem J7:gv aq 80:=lj func80
theorem CL:∀ v w,(callFunc 129 #[v]).run aq w= .ok (.value v) w:=fun v w=>an
theorem CM:cP aq 100=some 1:=an
theorem KN:cP aq 154=some 2:=an
theorem KO:cP aq 181=some 2:=an
theorem KP:cP aq 193=some 1:=an
theorem CN:cP aq 195=some 2:=an
theorem KQ:cP aq 244=some 2:=an
theorem KR:cP aq 248=some 1:=an
theorem CO:cP aq 250=some 2:=an
theorem vt:cP aq 251=some 2:=an
theorem o0:cP aq 27=some 1:=an
theorem fT:cP aq 3=some 1:=an
theorem KS:cP aq 32=some 1:=an
theorem yW:cP aq 33=some 1:=an
theorem qK:cP aq 35=some 3:=an
theorem CP:cP aq 4=some 1:=an
theorem CQ:cP aq 5=some 1:=an
theorem KU:cP aq 56=some 1:=an
theorem KV:cP aq 57=some 1:=an
theorem qL:cP aq 60=some 7:=an
theorem KW:cP aq 63=some 1:=an
theorem yX:cP aq 65=some 2:=an
theorem CR:cP aq 66=some 1:=an
theorem KX:cP aq 75=some 1:=an
theorem KY:cP aq 79=some 2:=an
theorem KZ:cP aq 82=some 1:=an
theorem CS:cP aq 83=some 1:=an
theorem K0:cP aq 88=some 1:=an
theorem K2:cP aq 89=some 1:=an
theorem CU:cP aq 9=some 1:=an
theorem vu:cP aq 92=some 7:=an
theorem K3:cP aq 99=some 1:=an
theorem qS:dH aq 100=some 1:=an
theorem tk:dH aq 169=some 2:=an
theorem vE:dH aq 193=some 2:=an
theorem qT:dH aq 248=some 2:=an
theorem dJ:dH aq 27=some 1:=an
theorem DK:dH aq 335=some 1:=an
theorem LD:dH aq 56=some 2:=an
theorem tl:dH aq 57=some 2:=an
theorem DL:dH aq 66=some 2:=an
theorem LF:dH aq 75=some 2:=an
theorem tq:dH aq 83=some 1:=an
theorem LG:dH aq 88=some 2:=an
theorem vF:dH aq 89=some 2:=an
theorem Ms:(aq.info? 102).isSome=true :=an
theorem Eu:∀ (l:List UInt8) (c:UInt8) (w:ai),(callFunc 294 #[str l,.int .u8 c.toNat]).run aq w= .ok (.value<|.int .i64<|fy c l) w:=OU func294 an an an an
theorem kL:lQ aq 9 dT:=zM an
theorem wi:mc aq 33=true :=an
theorem Oa:ptrTo aq 189 5=true :=an
theorem fE:eJ aq 100 5 1 1=true :=an
theorem xm:eJ aq 169 174 2 32=true :=an
theorem GH:eJ aq 193 244 2 16=true :=an
theorem GI:eJ aq 248 251 2 16=true :=an
theorem eu:eJ aq 27 9 1 16=true :=an
theorem Pu:eJ aq 335 4 1 1=true :=an
theorem GJ:eJ aq 56 154 2 32=true :=an
theorem GK:eJ aq 57 250 2 32=true :=an
theorem GL:eJ aq 66 65 2 48=true :=an
theorem GM:eJ aq 75 79 2 32=true :=an
theorem AZ:eJ aq 83 1 1 8=true :=an
theorem GN:eJ aq 88 181 2 32=true :=an
theorem GO:eJ aq 89 195 2 32=true :=an
theorem Pz:eF aq 149=some ([(0,1),(1,1),(2,1)],[.string ⟨⟨[]⟩⟩,.int .i64 0,.int .i64 0]):=an
theorem PA:eF aq 154=some ([(0,1),(1,1)],[.string ⟨⟨[]⟩⟩,.string ⟨⟨[]⟩⟩]):=an
theorem GP:eF aq 174=some ([(0,1),(1,1)],[.int .i64 0,.slice none 0 0]):=an
theorem PB:eF aq 178=some ([(0,1),(1,1)],[.string ⟨⟨[]⟩⟩,.int .i64 0]):=an
theorem PC:eF aq 181=some ([(0,1),(1,1)],[.string ⟨⟨[]⟩⟩,.string ⟨⟨[]⟩⟩]):=an
theorem PD:eF aq 195=some ([(0,1),(1,1)],[.bool false,.slice none 0 0]):=an
theorem PE:eF aq 244=some ([(0,1),(1,1)],[.int .u8 0,.int .i64 0]):=an
theorem PF:eF aq 250=some ([(0,1),(1,1)],[.bool false,.slice none 0 0]):=an
theorem A1:eF aq 251=some ([(0,1),(1,1)],[.int .u8 0,.int .i64 0]):=an
theorem GQ:eF aq 29=some ([(0,1),(1,1),(2,1)],[.int .i64 0,.slice none 0 0,.string ⟨⟨[]⟩⟩]):=an
theorem PG:eF aq 333=some ([(0,1),(1,1),(2,1)],[.slice none 0 0,.int .i64 0,.slice none 0 0]):=an
theorem PH:eF aq 337=some ([(0,1),(1,1),(2,1)],[.slice none 0 0,.int .i64 0,.slice none 0 0]):=an
theorem pM:eF aq 35=some ([(0,1),(1,1),(2,1)],[.int .i64 0,.int .i64 0,.int .i64 0]):=an
theorem PI:eF aq 55=some ([(0,1),(1,1),(2,1),(3,1),(4,1)],[.int .i64 0,.int .i64 0,.int .i64 0,.int .i64 0,.int .i64 0]):=an
theorem xn:eF aq 60=some ([(0,1),(1,1),(2,1),(3,4)],[.int .i64 0,.string ⟨⟨[]⟩⟩,.slice none 0 0,.slice none 0 0,.slice none 0 0,.slice none 0 0,.slice none 0 0]):=an
theorem PJ:eF aq 65=some ([(0,1),(1,1)],[.slice none 0 0,.slice none 0 0]):=an
theorem GR:eF aq 68=some ([(0,2),(2,1)],[.slice none 0 0,.slice none 0 0,.slice none 0 0]):=an
theorem PK:eF aq 70=some ([(0,1),(1,7),(8,1),(9,1)],[.pointer none,.int .i64 0,.string ⟨⟨[]⟩⟩,.slice none 0 0,.slice none 0 0,.slice none 0 0,.slice none 0 0,.slice none 0 0,.pointer none,.pointer none]):=an
theorem PL:eF aq 79=some ([(0,1),(1,1)],[.int .i64 0,.slice none 0 0]):=an
theorem PM:eF aq 85=some ([(0,1),(1,1),(2,1)],[.pointer none,.map none,.slice none 0 0]):=an
theorem GS:eF aq 92=some ([(0,1),(1,1),(2,1),(3,4)],[.int .i64 0,.string ⟨⟨[]⟩⟩,.slice none 0 0,.slice none 0 0,.slice none 0 0,.slice none 0 0,.slice none 0 0]):=an
theorem PN:eF aq 96=some ([(0,7),(7,1)],[.int .i64 0,.string ⟨⟨[]⟩⟩,.slice none 0 0,.slice none 0 0,.slice none 0 0,.slice none 0 0,.slice none 0 0,.string ⟨⟨[]⟩⟩]):=an
theorem sf:aq.underlying 150=some (.int .u64):=an
theorem Hk:aq.underlying 190=some (.pointer 195):=an
theorem Qc:aq.underlying 24=some (.pointer 70):=an
theorem u3:aq.underlying 3=some (.int .i64):=an
theorem u32:aq.underlying 32=some (.pointer 85):=an
theorem u4:aq.underlying 4=some (.bool):=an
theorem pO:aq.underlying 40=some (.pointer 96):=an
theorem gE:aq.underlying 82=some (.map 9 3):=an
theorem Qd:aq.underlying 83=some (.slice 1):=an
theorem u9:aq.underlying 9=some (.string):=an
theorem Ho:aq.underlying 99=some (.pointer 102):=an
theorem Hr:pQ aq 99 269 102 2=true :=an
theorem oz:(aq.underlying 150).isSome=true :=an
theorem Be:(aq.underlying 3).isSome=true :=an
theorem Bf:(aq.underlying 5).isSome=true :=an
theorem wide:aq.follows .mixedOrders=true :=an
theorem xL:zeroOf aq 102=some (some [.pointer none,.slice none 0 0]):=an
theorem Q3:zeroOf aq 154=some (some [.string ⟨⟨[]⟩⟩,.string ⟨⟨[]⟩⟩]):=an
theorem Q4:zeroOf aq 181=some (some [.string ⟨⟨[]⟩⟩,.string ⟨⟨[]⟩⟩]):=an
theorem HM:zeroOf aq 195=some (some [.bool false,.slice none 0 0]):=an
theorem Q5:zeroOf aq 244=some (some [.int .u8 0,.int .i64 0]):=an
theorem HN:zeroOf aq 250=some (some [.bool false,.slice none 0 0]):=an
theorem HO:zeroOf aq 251=some (some [.int .u8 0,.int .i64 0]):=an
theorem Q6:zeroOf aq 3=some (some [.int .i64 0]):=an
theorem Q7:zeroOf aq 33=some (some [.int .i64 0]):=an
theorem xM:zeroOf aq 35=some (some [.int .i64 0,.int .i64 0,.int .i64 0]):=an
theorem Bu:zeroOf aq 60=some (some [.int .i64 0,.string ⟨⟨[]⟩⟩,.slice none 0 0,.slice none 0 0,.slice none 0 0,.slice none 0 0,.slice none 0 0]):=an
theorem Q8:zeroOf aq 65=some (some [.slice none 0 0,.slice none 0 0]):=an
theorem Q9:zeroOf aq 75=some (some [.slice none 0 0]):=an
theorem Ra:zeroOf aq 79=some (some [.int .i64 0,.slice none 0 0]):=an
theorem Rb:zeroOf aq 82=some (some [.map none]):=an
theorem HP:zeroOf aq 92=some (some [.int .i64 0,.string ⟨⟨[]⟩⟩,.slice none 0 0,.slice none 0 0,.slice none 0 0,.slice none 0 0,.slice none 0 0]):=an
theorem Rc:zeroOf aq 340=some (some<|eM 256<|.bool false):=an
theorem Re:zeroV aq 1=some (.nilFunc):=an
theorem sn:zeroV aq 3=some (.int .i64 0):=an
theorem Rf:zeroV aq 33=some (.int .i64 0):=an
end Go.Hb.dO
section
namespace Go.Hb
open Go.Hb.dO
theorem CH (b:Nat) (A:Option ba) (E:ah) (w:ai) (hb:w.heap[b]? =some (.cells [cZ A,E].toArray 102 (0,0))) (hp:A=none∨A=some ⟨b,0,none⟩):
 aY aq 81 (bd [aA b]) w (fun v w'=>v= .tuple #[]∧w'.heap[b]? =some (.cells [cZ (some ⟨b,0,none⟩),E].toArray 102 (0,0))∧Md (fun k=>k=b) w w'):=by
 refine enter func81 U ntmps81 U<|aP 5 U<|p (ay U<|(eC hb).trans U)<|p (gW Ho U U)<|aC 2 U<|cb U (fun C=> ?_) fun C=> ?_;obtain rfl :A=none:=by simpa using C
 exact az 3 U<|p (Hc Hr U hb U)<|p (Kz CL U)<|p (D8 Hr U hb U)<|aj 2 U<|e<|fj K3 U U U hb (by simp) fun w1 J I=>ar 1 U<|f0 U<|⟨U,I,J⟩
 obtain rfl :A=some ⟨b,0,none⟩:=hp.resolve_left<|by rintro rfl; simp at C
 exact az 5 U<|p (ay U<|(eC hb).trans U)<|aj 1 U<|p (NC Ho Ms U U)<|ar 4 U<|f0 U<|⟨U,hb,Md.refl _ _⟩
theorem pT (b:Nat) (C:ah) (l:List UInt8) (c:UInt8) (w:ai) (hb:Bd 102 5 w b C l) (aD:l.length≤70368744177664):
 aY aq 36 (bd [aA b,.int .u8 c.toNat]) w (fun v w'=>v= .nilIface∧∃ L,Bd 102 5 w' b L (l++ [c])∧Md (BF b C) w w'∧∀ k,BF b L k→BF b C k∨w.heap.size≤k):=by
 obtain ⟨⟨av,aa,ao⟩,hown,hnil⟩:=hb;have aF:b < w.heap.size:=(cr.1 aa).1;have ab:∀ k,C.ownBlock=some k→k≠b∧k < w.heap.size:=fun k A=>by have :=hown.lt k A; exact ⟨ag,this.2⟩
 refine enter func36 U ntmps36 U<|aP 8 U<|e<|aH (CH b av C w aa ao) U ?_;rintro v6 aL ⟨_,Z,I⟩;have an:=cB hown I fun k A=>(ab k A).1;have aG:=I.size;refine aj 8 U<|p (ay U<|(eC Z).trans U)<|aj 1 U<|e<|e9 fE U U fun aw aI aC E ae=>e<|ap fE (aR an E.md) U (by have :=E.size; omega) U (aU.dB ae) (U) (U) ag ag fun ac aJ J O au am=> ?_;have al:=O.ax (Wk.ax E.md Z) fun h=>(ab b h).1 rfl;refine aj 2 U<|e<|fj CM U U (by obtain ⟨a,c,h,_⟩:=tO J; exact congrArg kW h) al (by simp) fun aK V ak=>ar 8 U<|aE U ?_;have ad:∀ k,ac.ownBlock=some k→k≠b:=fun k A=>by have :=J.lt k A; omega
 refine ⟨U,ac,⟨⟨_,ak,.inr U⟩,?_,?_⟩,?_,?_⟩;rw [bp,yA]; exact cB J V fun k A=>ad k A;rw [au]; simp;refine Md.trans' (Md.trans' (Md.trans' (I.mono fun k _ h=> .inl h) E.md fun _ _ h=>h.elim) O fun k _ h=> .inr h) V fun k _ h=> .inl h;rintro k (rfl | A);exact .inl<|.inl U;by_cases h:C.ownBlock=some k;exact .inl<|.inr h;have :=am k A; have az:=I.size; have aB:=E.md.size; exact .inr<|by rcases this with M | M; exact absurd M h; omega
theorem QW (b:Nat) (C:ah) (l m:List UInt8) (w:ai) (hb:Bd 102 5 w b C l) (au:l.length+m.length≤70368744177664):
 aY aq 37 (bd [aA b,str m]) w (fun v w'=>v= .tuple #[.int .i64 m.length,.nilIface]∧∃ J,Bd 102 5 w' b J (l++m)∧Md (BF b C) w w'∧∀ k,BF b J k→BF b C k∨w.heap.size≤k):=by
 obtain ⟨⟨ao,Z,am⟩,hown,hnil⟩:=hb;have av:b < w.heap.size:=(cr.1 Z).1;have aa:∀ k,C.ownBlock=some k→k≠b∧k < w.heap.size:=fun k A=>by have :=hown.lt k A; exact ⟨ag,this.2⟩
 refine enter func37 U ntmps37 U<|aP 9 U<|e<|aH (CH b ao C w Z am) U ?_;rintro az aD ⟨_,V,E⟩;have al:=cB hown E fun k A=>(aa k A).1;have aw:=E.size;refine aj 8 U<|p (ay U<|(eC V).trans U)<|aj 1 U<|e<|JE nM (al) U ag U ag fun ab aB I M an ak=> ?_;have ae:=M.ax V fun h=>(aa b h).1 rfl;refine aj 2 U<|e<|fj CM U U (by obtain ⟨a,c,h,_⟩:=tO I; exact congrArg kW h) ae (by simp) fun aC O ad=>ar 11 U<|f2 U U U ?_;have ac:∀ k,ab.ownBlock=some k→k≠b:=fun k A=>by have :=I.lt k A; omega
 refine ⟨U,ab,⟨⟨_,ad,.inr U⟩,?_,?_⟩,?_,?_⟩;rw [bp,yA]; exact cB I O fun k A=>ac k A;rw [an,hnil]; simp;exact Md.trans' (Md.trans' (E.mono fun k _ h=> .inl h) M fun k _ h=> .inr h) O fun k _ h=> .inl h;rintro k (rfl | A);exact .inl<|.inl U;by_cases h:C.ownBlock=some k;exact .inl<|.inr h;have :=ak k A; have ap:=E.size; exact .inr<|by rcases this with L | L; exact absurd L h; omega
theorem ue (b:Nat) (I:ah) (l:List UInt8) (w:ai) (hb:Bd 102 5 w b I l) (aa:l.length≤70368744177664):
 aY aq 39 (bd [aA b]) w (fun v w'=>v=str l∧Md (fun k=>I.ownBlock=some k) w w'):=by
 obtain ⟨⟨ad,J,ab⟩,hown,hnil⟩:=hb;obtain ⟨a,c,rfl,O,hle,V,Z⟩:=tO hown;refine enter func39 U ntmps39 U<|bV 6 U ?_;have A:(fun w'=>Md (fun k=>(eY a l.length c).ownBlock=some k) w w') w.drew:=(Md.refl _ _).drew;refine bK (fun w'=>Md (fun k=>(eY a l.length c).ownBlock=some k) w w') U wide A<|aW [0,1,2] U A<|gL 3 U (fun w' C=>ay U<|C.aO ((eC J).trans U) fun h=>by have :=hown.lt _ h; omega) A<|aW [5,6,7] U A<|gL 8 U (fun w' C=>ay U<|C.aO ((eC J).trans U) fun h=>by have :=hown.lt _ h; omega) A<|aW [9] U A ?_;refine cz 4 U (Bg (v:= .nilFunc) U (by
  by_cases h:l= []
  have :=hnil.2 h; simp only [mI] at this; exact .inl this.1;right; have :0 < l.length:=List.length_pos_iff.2 h; omega)) A ?_
 refine he 10 U an<|Qw Oa U U hown U ag fun M L ac=> ?_;have E:(fun w'=>Md (fun k=>(eY a l.length c).ownBlock=some k) w w') M:=A.trans' L fun _ _ h=>h;refine ⟨E,?_⟩;exact cz 11 U (aT) E<|hn an<|bg 2 U<|aE U<|⟨U,E⟩
end Go.Hb
end
section
namespace Go.Hb
open Go.Hb.dO
theorem iI (b:UInt8):jN b=decide ((b.toNat:Int)=92∨(b.toNat:Int)=47∨(b.toNat:Int)=35):=by
 unfold jN; exact decide_eq_decide.2 ag
theorem zm (b:UInt8):gJ b=decide (32 < (b.toNat:Int)∧(b.toNat:Int)≠127):=by
 unfold gJ; exact decide_eq_decide.2 ag
theorem LZ {b:UInt8} (h:32 < (b.toNat:Int)) (A:(b.toNat:Int)≠127):gJ b=true :=by rw [zm]; exact decide_eq_true ⟨h,A⟩
theorem zl {b:UInt8} (h:¬(32 < (b.toNat:Int)∧(b.toNat:Int)≠127)):gJ b=false :=by rw [zm]; exact decide_eq_false h
theorem DX (b:UInt8) (w:ai):
 aY aq 117 (bd [.int .u8 b.toNat]) w (fun v w'=>v= .bool (gJ b)∧Wk w w'):=by
 refine enter func117 U ntmps117 U<|aP 10 U<|gs (t:=5) U (fun A=> ?_) fun A=> ?_;exact ar 7 U<|aE U<|⟨by show bB (decide _)=_; rw [zm]; exact bv (by constructor <;> intro h <;> first | exact ⟨ag,h⟩ | exact h.2),Md.refl _ _⟩
 exact aj 3 U<|p aT<|ar 3 U<|aE U<|⟨by show bB false =_; rw [zl ag],Md.refl _ _⟩
theorem E2 (b:UInt8) (w:ai):
 aY aq 82 (bd [.int .u8 b.toNat]) w (fun v w'=>v= .bool (jN b)∧Wk w w'):=by
 refine enter func82 U ntmps82 U<|bV 19 U<|cd U (fun A=> ?_) fun A=> ?_;refine bD 2 U<|cd U (fun A=> ?_) fun A=> ?_;refine aB 8 U<|aE U ?_
 first | exact ⟨by show bB true =_; rw [iI,decide_eq_true ag],Md.refl _ _⟩ | exact ⟨by show bB false =_; rw [iI,decide_eq_false ag],Md.refl _ _⟩
 refine aB 9 U<|aE U ?_
 first | exact ⟨by show bB true =_; rw [iI,decide_eq_true ag],Md.refl _ _⟩ | exact ⟨by show bB false =_; rw [iI,decide_eq_false ag],Md.refl _ _⟩
 refine bD 6 U<|cd U (fun A=> ?_) fun A=> ?_;refine bD 2 U<|cd U (fun A=> ?_) fun A=> ?_;refine aB 8 U<|aE U ?_
 first | exact ⟨by show bB true =_; rw [iI,decide_eq_true ag],Md.refl _ _⟩ | exact ⟨by show bB false =_; rw [iI,decide_eq_false ag],Md.refl _ _⟩
 refine aB 9 U<|aE U ?_
 first | exact ⟨by show bB true =_; rw [iI,decide_eq_true ag],Md.refl _ _⟩ | exact ⟨by show bB false =_; rw [iI,decide_eq_false ag],Md.refl _ _⟩
 refine bD 5 U<|cd U (fun A=> ?_) fun A=> ?_;refine aB 8 U<|aE U ?_
 first | exact ⟨by show bB true =_; rw [iI,decide_eq_true ag],Md.refl _ _⟩ | exact ⟨by show bB false =_; rw [iI,decide_eq_false ag],Md.refl _ _⟩
 refine aB 9 U<|aE U ?_
 first | exact ⟨by show bB true =_; rw [iI,decide_eq_true ag],Md.refl _ _⟩ | exact ⟨by show bB false =_; rw [iI,decide_eq_false ag],Md.refl _ _⟩
theorem Bi (s:List UInt8) (w:ai) (ac:s.length≤1048576):
 aY aq 65 (bd [str s]) w (fun v w'=>v= .bool (dL s)∧Wk w w'):=by
 refine enter func65 U ntmps65 U<|aP 11 U<|gs (t:=6) U (fun E=> ?_) fun E=> ?_;exact ar 14 U<|aE U<|⟨by show bB false =_; unfold dL; rw [decide_eq_false (by rw [E]; simp)],Md.refl _ _⟩
 refine aC 6 U<|cd U (fun Z=> ?_) fun Z=> ?_;exact aB 7 U<|aE U<|⟨by show bB false =_; unfold dL; rw [decide_eq_false ag],Md.refl _ _⟩
 refine bD 11 U<|lp (fun J V O=> ∃ (i:Nat),(i≤s.length∧1≤s.length∧s.length≤64)∧(∀ j,j < i→gJ (s.getD j 0)=true)∧(Wk w O)∧(Sl V [(0,str s),(12,.int .i64 s.length),(13,.int .i64 i)])∧(s.length - i=J)) _ ⟨0,(⟨ag,by rcases Nat.eq_zero_or_pos s.length with h | h <;> first | exact absurd (List.length_eq_zero_iff.1 h) E | exact h,ag⟩),(fun j M=>by omega),(Md.refl _ _),U,U⟩ ?_;rintro J V O ⟨i,hi,hp,A,ab,rfl⟩;refine bG ab<|bV 6 U<|cd U (fun aa=> ?_) fun aa=> ?_;refine az 14 U<|p (dc u9 U U ag)<|e<|aH (DX (s.getD i 0) _) U ?_;rintro ad ae ⟨rfl,L⟩;refine aC 3 U<|cb U (fun C=> ?_) fun C=> ?_;have I:gJ (s.getD i 0)=false :=by simpa using C
 exact aB 8 U<|tr<|bg 2 U<|aE U<|⟨by show bB false =_; unfold dL; rw [sX (i:=i) ag I,decide_eq_false (by simp)],Md.trans A L⟩
 have I:gJ (s.getD i 0)=true :=by simpa using C
 exact aB 7 U<|tn<|⟨_,ag,i+1,ag,(fun j M=>by rcases dN j i with h | h <;> first | exact hp j h | (rw [show j=i by omega]; exact I)),(Md.trans A L),U,U⟩
 exact aB 2 U<|cg<|bg 8 U<|aE U<|⟨by show bB true =_; unfold dL; rw [vm (fun j M=>hp j ag),decide_eq_true ⟨hi.2.1,hi.2.2,U⟩],A⟩
theorem QX (s:List UInt8) (w:ai) (aM:s.length≤1048576):
 aY aq 38 (bd [str s]) w (fun v w'=>v=str (eG s)∧Wk w w'):=by
 refine enter func38 U ntmps38 U<|aP 7 U<|e<|fv xL fun A aV aI aw al=>aC 11 U<|lp (fun ab ad aa=> ∃ (i:Nat) (C:ah),(i≤s.length)∧(Bd 102 5 aa A C<|eG<|s.take i)∧(Wk w aa)∧(Sl ad [(0,str s),(3,aA A),(6,.int .i64 s.length),(7,.int .i64 i)])∧(s.length - i=ab)) _ ⟨0,.slice none 0 0,ag,(Bd.new al),aw.md,U,U⟩ ?_;rintro ab ad aa ⟨i,C,hi,J,M,aD,rfl⟩;refine bG aD<|bV 6 U<|cd U (fun ax=> ?_) fun ax=> ?_;refine bD 10 U ?_;refine ei (fun ae Z=> ∃ (I:ah) (E:List UInt8),(E.length≤2 *i+1)∧(Bd 102 5 Z A I E)∧(Wk w Z)∧(E++ [s.getD i 0]=eG (s.take<|i+1))∧(Sl ae [(0,str s),(3,aA A),(4,.int .i64 i),(6,.int .i64 s.length),(7,.int .i64 i)])) ?_ ?_;refine aP 4 U<|p (dc u9 U U ag)<|e<|aH (E2 (s.getD i 0) _) U ?_;rintro aN aR ⟨rfl,O⟩;have L:=J.md O fun _ _ h=>h;have aG:=sj<|s.take i;rw [bX] at aG;refine aC 2 U<|cb U (fun V=> ?_) fun V=> ?_;refine az 1 U<|e<|aH (pT A C (eG<|s.take i) (92) _ L ag) U ?_;rintro aO aS ⟨rfl,aj,am,ap,aJ⟩;exact ar 1 U<|tn<|⟨aj,eG (s.take i)++ [92],(by rw [bp,dC]; omega),am,(L.step (Md.trans M O) ap ag),(by rw [sm ag,if_pos V,iC]; rfl),U⟩
 exact aB 1 U<|tn<|⟨C,eG (s.take i),ag,L,(Md.trans M O),(by rw [sm ag,if_neg (by rw [V]; exact dw)]),U⟩
 rintro ae Z ⟨I,E,aL,ac,ao,ay,aF⟩;refine bG aF<|az 3 U<|p (dc u9 U U ag)<|e<|aH (pT A I (E) (s.getD i 0) _ ac ag) U ?_;rintro aQ aT ⟨rfl,ak,an,au,aK⟩;exact ar 7 U<|tn<|⟨_,ag,i+1,ak,ag,(by rw [← ay]; exact an),(ac.step ao au ag),U,U⟩
 refine aB 2 U<|cg<|fV 4 U<|e<|aH (ue A C (eG<|s.take i) _ J<|by have :=sj (s.take i); rw [bX] at this; omega) U ?_;rintro v20 aU ⟨rfl,av⟩;exact ar 4 U<|aE U<|⟨by show str (eG<|s.take i)=_; rw [show s.take i=s from iV ag],J.ud M av ag⟩
theorem QV (s:List UInt8) (w:ai) (aQ:s.length≤1048576):
 aY aq 64 (bd [str s]) w (fun v w'=>v=FV (iA s)∧Wk w w'):=by
 refine enter func64 U ntmps64 U<|aP 10 U<|e<|fv xL fun A aZ aM ax am=>aC 9 U<|lp (fun ab ae M=> ∃ (i:Nat) (acc:List UInt8) (C:ah),(i≤s.length∧acc.length≤i)∧(Bd 102 5 M A C acc)∧(Wk w M)∧(fm acc (s.drop i)=iA s)∧(Sl ae [(0,str s),(6,aA A),(7,.int .i64 i)])∧(s.length - i=ab)) _ ⟨0,[],.slice none 0 0,(by simp),(Bd.new am),ax.md,U,U,U⟩ ?_;rintro ab ae M ⟨i,acc,C,hi,E,I,J,aJ,rfl⟩;refine bG aJ<|bV 9 U<|cd U (fun aD=> ?_) fun aD=> ?_;refine az 8 U<|p (dc u9 U U ag)<|aC 3 U ?_;refine ei (fun ak aa=> ∃ (k:Nat),(k < s.length∧i≤k∧k≤i+1)∧(Bd 102 5 aa A C acc)∧(Wk w aa)∧(fm (acc++ [s.getD k 0]) (s.drop<|k+1)=iA s)∧(Sl ak [(0,str s),(6,aA A),(7,.int .i64 k)])) ?_ ?_;refine bV 13 U<|cd U (fun aE=> ?_) fun aE=> ?_;have ay:(s.getD i 0).toNat=47:=ag;refine bD 7 U ?_;have L:(fun w'=>True) M.drew:=trivial;refine bK (fun w'=>True) U wide L<|aW [1,2] U L<|cz 3 U (bW<|i+1) L<|cz 4 U (mw u9 U U ag) L<|he 0 U an<|aH (ue A C acc _ (E.md (Md.refl (fun _=>False) _).drew fun _ _ h=>h) ag) U ?_;rintro v21 aL ⟨rfl,au⟩;have ad:(fun w'=>True) aL:=trivial;refine ⟨ad,?_⟩;refine aW [5,6,7,8] U ad<|hn an<|bg 6 U<|tr<|bg 3 U<|tr<|bg 2 U<|f4 U U U U U ?_
 skip
 exact ⟨by rw [← J,drop_cons 0 (by omega :i < s.length),xK ay]; rfl,E.ud I (Md.trans (Md.refl _ _).drew au) ag⟩;refine bD 8 U<|cd U (fun aF=> ?_) fun aF=> ?_;have V:(s.getD i 0).toNat=92:=ag;refine az 9 U<|p (bW<|i+1)<|aj 10 U<|gs (t:=32) U (fun aI=> ?_) fun aI=> ?_;exact ar 19 U<|tr<|bg 3 U<|tr<|bg 2 U<|f4 U U U U U<|⟨by rw [← J,drop_cons 0 (by omega :i < s.length),iT ag,xG V]; rfl,I⟩
 refine aj 2 U<|bo U (dc u9 U U ag)<|eg U U U<|aH (E2 (s.getD (i+1) 0) _) U ?_;rintro aR aU ⟨rfl,O⟩;refine aC 4 U<|cb U (fun Z=> ?_) fun Z=> ?_;exact aB 10 U<|tr<|bg 3 U<|tr<|bg 2 U<|f4 U U U U U<|⟨by rw [← J,drop_cons 0 (by omega :i < s.length),drop_cons 0 (by omega :i+1 < s.length),xH V (by simpa using Z)]; rfl,Md.trans I O⟩
 exact aB 2 U<|tn<|⟨i+1,ag,(E.md O fun _ _ h=>h),(Md.trans I O),(by rw [← J,drop_cons 0 (by omega :i < s.length),drop_cons 0 (by omega :i+1 < s.length),si V (by simpa using Z)]),U⟩
 exact aB 8 U<|tn<|⟨i,ag,E,I,(by rw [← J,drop_cons 0 (by omega :i < s.length),xI ag ag]),U⟩
 rintro ak aa ⟨k,aO,ac,ap,aG,aK⟩;refine bG aK<|az 4 U<|p (dc u9 U U ag)<|e<|aH (pT A C (acc) (s.getD k 0) _ ac ag) U ?_;rintro aS aV ⟨rfl,al,ao,av,aN⟩;exact ar 11 U<|tn<|⟨_,ag,k+1,acc++ [s.getD k 0],al,(by rw [bp,dC]; omega),ao,(ac.step ap av ag),aG,U,U⟩
 refine aB 2 U<|cg<|fV 4 U<|e<|aH (ue A C acc _ E ag) U ?_;rintro aT aX ⟨rfl,aw⟩;exact ar 7 U<|f4 U U U U U<|⟨by rw [← J,iT ag,xJ]; rfl,E.ud I aw ag⟩
theorem M4 (s:List UInt8) (w:ai) (a2:s.length≤1048576):
 aY aq 124 (bd [str s]) w (fun v w'=>v= .tuple #[str (letE s).1,.int .i64 (letE s).2]∧Wk w w'):=by
 refine enter func124 U ntmps124 U<|aP 8 U<|e<|al Rc fun O aU aW J ao=> ?_;have aJ:aD aU.heap O (marksOf []):=by rw [Nq]; exact ao
 refine aC 9 U<|cd U (fun ak=> ?_) fun ak=> ?_;exact aB 8 U<|f2 U U U<|⟨by show kq #[str [],.int .i64 21]=_; unfold letE; rw [if_pos (.inl ak)]; rfl,J.md⟩
 refine az 4 U<|e<|fv xL fun I a9 aZ ax aK=>aC 11 U ?_;have aX:=ao.lt;refine lp (fun an aF M=> ∃ (i:Nat) (A:ah),(i≤s.length)∧(∀ j,j < i→gJ (s.getD j 0)=true)∧(aD M.heap O<|marksOf<|lets<|s.take i)∧(Bd 102 5 M I A<|lets<|s.take i)∧(Wk w M)∧(Sl aF [(0,str s),(4,aA O),(5,aA I),(10,.int .i64 s.length),(11,.int .i64 i)])∧(s.length - i=an)) _ ⟨0,.slice none 0 0,ag,(fun j am=>by omega),(ax.md.B aJ),(Bd.new aK),(Md.trans J.md ax.md),U,U⟩ ?_;rintro an aF M ⟨i,A,hi,hp,aw,Z,ac,aS,rfl⟩;refine bG aS ?_;have aR:=zR<|s.take i;rw [bX] at aR;have a0:=aw.lt;refine bV 6 U<|cd U (fun aQ=> ?_) fun aQ=> ?_;refine az 15 U<|p (dc u9 U U ag)<|e<|aH (DX (s.getD i 0) _) U ?_;rintro a4 aT ⟨rfl,C⟩;refine aC 3 U<|cb U (fun ad=> ?_) fun ad=> ?_;have L:gJ (s.getD i 0)=false :=by simpa using ad
 exact aB 10 U<|tr<|bg 2 U<|f2 U U U<|⟨by show kq #[str [],.int .i64 21]=_; unfold letE; rw [if_pos (.inr<|sX ag L)]; rfl,Md.trans ac C⟩
 have L:gJ (s.getD i 0)=true :=by simpa using ad
 have ap:Wk w aT:=Md.trans ac C;have V:=C.B aw;have ab:=Z.md C fun _ _ h=>h;have a3:=C.size;refine az 6 U<|p (dc u9 U U ag)<|p (pc Ci U U<|by have :=oM (s.getD i 0); omega)<|p (ay U<|Nt V _)<|aC 3 U<|cb U (fun ae=> ?_) fun ae=> ?_;have E:¬s.getD i 0∈lets (s.take i):=of_decide_eq_false<|by simpa using ae
 refine az 4 U<|p (dc u9 U U ag)<|p (pc Ci U U<|by have :=oM (s.getD i 0); omega)<|e<|st CP U U (U) (V) (by rw [E3]; have :=oM (s.getD i 0); omega) fun aV au aI=> ?_;have aO:=Nu aI;have aM:Wk w aV:=Md.trans' ap au fun k aE h=>by omega
 have aa:=ab.md au fun k aE h=>by have :=ab.vL aE; omega
 refine aj 5 U<|p (dc u9 U U ag)<|e<|aH (pT I A (lets<|s.take i) (s.getD i 0) _ aa ag) U ?_;rintro a5 a7 ⟨rfl,aG,aL,av,a1⟩;exact ar 7 U<|tn<|⟨_,ag,i+1,aG,ag,(fun j am=>by rcases dN j i with h | h <;> first | exact hp j h | (rw [show j=i by omega]; exact L)),(by rw [n7 ag,if_neg E]; exact av.B aO fun h=>by have :=aa.vL h; omega),(by rw [n7 ag,if_neg E]; exact aL),(aa.step aM av<|by have :=J.md.size; omega),U,U⟩
 have E:s.getD i 0∈lets (s.take i):=by simpa using ae
 exact aB 7 U<|tn<|⟨_,ag,i+1,A,ag,(fun j am=>by rcases dN j i with h | h <;> first | exact hp j h | (rw [show j=i by omega]; exact L)),(by rw [n7 ag,if_pos E]; exact V),(by rw [n7 ag,if_pos E]; exact ab),ap,U,U⟩
 refine aB 2 U<|cg<|fV 4 U<|e<|aH (ue I A (lets<|s.take i) _ Z<|by have :=zR (s.take i); rw [bX] at this; omega) U ?_;rintro a6 a8 ⟨rfl,aN⟩;exact ar 5 U<|f2 U U U<|⟨by show kq #[str (lets<|s.take i),.int .i64 0]=_; unfold letE; rw [if_neg (by rw [vm (fun j am=>hp j ag)]; exact fun h=>h.elim ak dw),show s.take i=s from iV ag]; rfl,Z.ud ac aN<|by have :=J.md.size; omega⟩
end Go.Hb
end
namespace Go.Hb
def Oi:Go.Shelf.Ren:=⟨fun n=>if n=125 then 128 else if n=128 then 180 else if n=129 then 181 else if n=190 then 79 else if n=258 then 127 else if n=302 then 171 else if n=303 then 172 else if n=304 then 173 else if n=305 then 174 else if n=306 then 175 else if n=307 then 176 else if n=308 then 177 else if n=309 then 178 else if n=310 then 179 else if n=329 then 226 else if n=330 then 227 else if n=333 then 225 else if n=334 then 228 else if n=335 then 229 else if n=336 then 230 else if n=344 then 270 else 0,fun n=>if n=0 then 0 else if n=3 then 3 else if n=4 then 4 else if n=5 then 5 else if n=9 then 9 else if n=31 then 27 else if n=46 then 268 else if n=51 then 349 else if n=53 then 150 else if n=131 then 184 else if n=182 then 342 else if n=183 then 343 else if n=218 then 404 else if n=222 then 407 else if n=228 then 446 else if n=229 then 447 else 0,fun n=>n⟩
theorem EF:Go.Proofs.Lays.n190 aq Oi where
 mixed:=an
 f125:=an
 f128:=an
 f129:=an
 f190:=an
 f258:=an
 f302:=an
 f303:=an
 f304:=an
 f305:=an
 f306:=an
 f307:=an
 f308:=an
 f309:=an
 f310:=an
 f329:=an
 f330:=an
 f333:=an
 f334:=an
 f335:=an
 f336:=an
 f344:=an
 t0:=an
 a0:=fun _=>an
 z0:=fun _=>an
 v0:=fun _=>an
 t3:=an
 a3:=fun _=>an
 z3:=fun _=>an
 v3:=fun _=>an
 t4:=an
 a4:=fun _=>an
 z4:=fun _=>an
 v4:=fun _=>an
 t5:=an
 a5:=fun _=>an
 z5:=fun _=>an
 v5:=fun _=>an
 t9:=an
 a9:=fun _=>an
 z9:=fun _=>an
 v9:=fun _=>an
 t31:=an
 a31:=fun _=>an
 z31:=fun _=>an
 v31:=fun _=>an
 t46:=an
 a46:=fun _=>an
 z46:=fun _=>an
 v46:=fun _=>an
 t51:=an
 a51:=fun _=>an
 z51:=fun _=>an
 v51:=fun _=>an
 t53:=an
 a53:=fun _=>an
 z53:=fun _=>an
 v53:=fun _=>an
 t131:=an
 a131:=fun _=>an
 z131:=fun _=>an
 v131:=fun _=>an
 t182:=an
 a182:=fun _=>an
 z182:=fun _=>an
 v182:=fun _=>an
 t183:=an
 a183:=fun _=>an
 z183:=fun _=>an
 v183:=fun _=>an
 t218:=an
 a218:=fun _=>an
 z218:=fun _=>an
 v218:=fun _=>an
 t222:=an
 a222:=fun _=>an
 z222:=fun _=>an
 v222:=fun _=>an
 t228:=an
 a228:=fun _=>an
 z228:=fun _=>an
 v228:=fun _=>an
 t229:=an
 a229:=fun _=>an
 z229:=fun _=>an
 v229:=fun _=>an
theorem Pv (B n:Nat) (v:ah) (A:List (List UInt8)) (w:ai) (I:b9 w B 9 1 v n (A.map str)) (aa:A.length < 4611686018427387904):
 aY aq 79 [v].toArray w (fun ad w'=>ad= .tuple #[]∧b9 w' B 9 1 v n ((A.mergeSort fun x y=>decide (x≤y)).map str)∧Md (fun k=>v.ownBlock=some k) w w'):=by
 have hn:A.length=n:=by have :=I.1; simpa using this
 have hlen:(A.mergeSort fun x y=>decide (x≤y)).length=A.length:=IQ _;rcases I.2 with ⟨rfl,ae⟩ | ⟨g,cap,cur,rfl,V,E,L,M,O,J⟩
 · have ac:A= []:=ku ag;subst ac;refine jv (Any.slices_Sort_string_none EF none 0 w) ?_;rintro e w' ⟨rfl,rfl⟩;exact ⟨_,U,U,by rw [List.mergeSort_nil]; exact I,Md.refl _ _⟩
 · subst hn;rw [oK] at J;refine jv (calls_of_every_depth fun D=>AnyS.slices_Sort_string_alone EF D g 0 cap A w (holds_of_block E J) (cr.1 E).1 aa) ?_;rintro e w' ⟨rfl,m,os,rfl⟩;have C:=grownBy_sorted (w:=w) (g:=g) (n:=m) (os:=os) (A.mergeSort fun x y=>decide (x≤y)).toArray;refine ⟨_,U,U,ownsRow_sorted hlen V E L M O,⟨C.os,C.output,C.size,fun k Z ab=>C.block k Z fun he=>ab ?_⟩⟩;simp only [dM]; exact he.symm
end Go.Hb
section
namespace Go.Hb.jD
open Go.Hb.dO
theorem ND (w:ai):
 aY aq 12 (bd [.pointer none]) w (fun v w'=>v= .pointer none∧Wk w w'):=by
 exact enter func12 U ntmps12 U<|aP 9 U<|p (gW pO U U)<|aC 2 U<|ct (U)<|aB 7 U<|aE U<|⟨U,Md.refl _ _⟩
theorem Fc (A:ba) (w:ai):
 aY aq 12 (bd [.pointer (some A)]) w (fun v w'=> ∃ bl bs,v=aA bl∧w.heap.size≤bl∧w.heap.size≤bs∧bl≠bs∧aD w'.heap bl [.pointer (some A),.map (some bs),.slice none 0 0]∧cJ w'.heap bs dT (mT fun _=>none)∧Wk w w'):=by
 refine enter func12 U ntmps12 U<|aP 9 U<|p (gW pO U U)<|aC 2 U<|cf (U)<|az 5 U<|e<|E7 fun C ac V I M=> ?_;have aa:=I.size;refine p (dE (ps:= [(0,.pointer (some A)),(1,.map (some C))]) (L:= [.pointer (some A),.map (some C),.slice none 0 0]) PM U<|U)<|e<|lV U fun J ad Z E O=> ?_;have ab:=E.size;exact ar 4 U<|aE U<|⟨J,C,U,ag,ag,ag,O,by rw [q8]; exact (cJ.nil M).wk E.md,Md.trans I.md E.md⟩
theorem N9 (x:List UInt8) (n C:Int) (A:Nat) (w:ai) (E:aD w.heap A [.int .i64 C]):
 aY aq 76 (bd [str x,.int .i64 n,aA A]) w (fun v w'=>v= .bool (decide (n=C))∧Wk w w'):=by
 exact enter func76 U ntmps76 U<|aP 8 U<|p (ay U<|E.aG 0)<|ar 5 U<|aE U<|⟨U,Md.refl _ _⟩
theorem Lg (bw I:Nat) (q:List UInt8→Option Int) (A:Int) (w:ai) (M:cJ w.heap bw dT (mT q)) (aa:aD w.heap I [.int .i64 A]):
 aY aq 75 (bd [.map (some bw),.func (.func 76) #[] #[aA I]]) w (fun v w'=>v= .tuple #[]∧cJ w'.heap bw dT (mT<|gk A q)∧Md (fun k=>k=bw) w w'):=by
 have aO:I≠bw:=fun h=>by subst h; exact M.fA aa.choose_spec
 have a3:=aa.lt;have a4:=M.lt;refine enter func75 U ntmps75 U<|aP 2 U<|p mv<|e<|wU gE M U fun aE ba left a5 L aK aS aV aw=> ?_;have a7:=L.size;refine aC 3 U<|lp (fun al aF J=> ∃ (E:List (ah×ah)),(Lf q E)∧(im J.heap aE bw E)∧(cJ J.heap bw dT<|mT<|gV E q<|gk A q)∧(aD J.heap I [.int .i64 A])∧(Md (fun k=>k=bw) w J)∧(Sl aF [(0,.map (some bw)),(1,.func (.func 76) #[] #[aA I]),(7,aA aE)])∧(E.length=al)) _ ⟨left,(Lf.start aS aV aw),aK,(by rw [yV aw (fun x aX=>by simp [gk,aX])]; exact M.wk L.md),(Wk.B L.md aa),(L.md.mono fun _ _ h=>h.elim),U,U⟩ ?_;rintro al aF J ⟨E,aL,aI,ae,aN,an,aW,rfl⟩;refine bG aW<|aP 2 U<|e<|wq aI U fun a2 a8 O a1 aG aH=>p (wu U)<|aC 3 U<|cb U (fun ac=> ?_) fun ac=> ?_;obtain ⟨ax,Z,V⟩:=aH ac;have aU:=ax.length_eq;simp only [cn] at aU;obtain ⟨x,n,rfl,ay,ao,a6,aQ,au⟩:=aL.step ax;have av:=ae.md Z fun h=>by omega
 have ab:=Z.B aN fun h=>by omega
 have am:=an.trans' Z fun k aR h=>by omega
 refine az 5 U<|p (vA V U)<|aj 11 U<|e<|yS J5 U (N9 x n A I a1 ab) U ?_;rintro a9 aZ ⟨rfl,C⟩;refine aC 2 U<|cb U (fun ad=> ?_) fun ad=> ?_;have hn:n=A:=by simpa using ad
 refine az 3 U<|e<|C8 (kx:=str x) gE kL (av.wk C) U U ⟨x,U⟩ fun a0 ap aM aJ=> ?_;have ak:cJ a0.heap bw dT (mT<|gV O q<|gk A q):=by
  rw [au,show gk A q x=none from by simp [gk,ay,hn],← EV];exact aM
 exact ar 2 U<|tn<|⟨_,ag,O,ao,(aJ _ _ _ rfl (V.md C id id)),ak,(ap.B (Wk.B C ab) aO),((am.trans' C fun _ _ h=>h.elim).trans' ap fun k aR h=>h),U,U⟩
 have hn:¬n=A:=by simpa using ad
 have ak:cJ aZ.heap bw dT (mT<|gV O q<|gk A q):=by
  rw [au,show gk A q x=q x from by simp [gk,ay,hn],show (fun y=>if y=x then q x else gV E q (gk A q) y)=gV E q (gk A q) from by
   funext y;by_cases h:y=x;subst h; rw [if_pos rfl,aQ];rw [if_neg h]]
  exact av.wk C
 exact aB 2 U<|tn<|⟨_,ag,O,ao,(V.rk.md C id id),ak,(Wk.B C ab),(am.trans' C fun _ _ h=>h.elim),U,U⟩
 obtain ⟨aT,rfl⟩:=aG ac;exact aB 2 U<|cg<|bg 1 U<|f0 U<|⟨U,by rw [aT,yU] at ae; exact ae,an⟩
theorem Qp {G:Nat→Prop} {w w':ai} (h:Md G w.drew w'):Md G w w':=⟨h.os,h.output,h.size,h.dA⟩
theorem rB {w:ai} {B e size n k:Nat} {v:ah} {xs:List ah} (h:b9 w B e size v n xs) (A:v.ownBlock=some k):∃ cur z,w.heap[k]? =some (.cells cur e z):=by
 rcases h.2 with ⟨rfl,_⟩ | ⟨g,cap,cur,rfl,_,C,_⟩
 · simp [dM] at A
 · simp only [dM,bR] at A;subst A;exact ⟨_,_,C⟩
structure cR (w:ai) (B bl bs:Nat) (vb:ah) (ca:ba) (g:List UInt8→Option Int) (n:Nat) (hist:List (List UInt8→Option Int)) (cs:List ah):Prop where
 obj:aD w.heap bl [.pointer (some ca),.map (some bs),vb]
 dR:cJ w.heap bs dT (mT g)
 eT:dh g n
 nB:n≤500
 nz:∀ x,g x≠some 0
 lo:B≤bl∧B≤bs
 back:b9 w B 1 1 vb cs.length cs
 kV:vb.ownBlock≠some bl
 bk:eR (fun v q=> ∃ wb lb wm,v= .func (.func 77) #[] #[.pointer (some ⟨wb,0,none⟩),.pointer (some ⟨lb,0,none⟩)]∧wb≠bl∧lb≠bl∧wm≠bs∧vb.ownBlock≠some wb∧vb.ownBlock≠some lb∧
  aD w.heap wb [.map (some wm)]∧aD w.heap lb [.pointer (some ⟨bl,0,none⟩)]∧cJ w.heap wm dT (mT q)) cs hist
def jc (bl bs:Nat) (vb:ah) (k:Nat):Prop :=k=bl∨k=bs∨vb.ownBlock=some k
def iG (B bl bs:Nat) (vb:ah) (E:ba) (g:List UInt8→Option Int) (hist:List (List UInt8→Option Int)) (A:Int) (l:List (List UInt8)) (w:ai):ah→ai→Prop :=fun v w'=>((∃ x∈l,dL x=false)∧v= .int .i64 21∧Wk w w')∨((∀ x∈l,dL x=true)∧∃ m,dh (gr g l) m∧((500 < m∧v= .int .i64 280∧Wk w w')∨(m≤500∧v= .int .i64 0∧
 ((dh (c8 A g l) 0∧Wk w w')∨(∃ C I,(∃ x o,c8 A g l x=some o)∧cR w' B bl bs C E (eD A (c8 A g l) g) m (hist++ [c8 A g l]) I∧Md (jc bl bs vb) w w'∧(∀ k,C.ownBlock=some k→vb.ownBlock=some k∨w.heap.size≤k))))))
theorem cR.wk {w w':ai} {B bl bs:Nat} {vb:ah} {A:ba} {g:List UInt8→Option Int} {n:Nat} {hist:List (List UInt8→Option Int)} {cs:List ah} (h:cR w B bl bs vb A g n hist cs) (hm:Wk w w'):cR w' B bl bs vb A g n hist cs where
 obj:=Wk.B hm h.obj
 dR:=h.dR.wk hm
 eT:=h.eT
 nB:=h.nB
 nz:=h.nz
 lo:=h.lo
 back:=aR h.back hm
 kV:=h.kV
 bk:=h.bk.imp fun v q ⟨Z,lb,aa,C,E,I,J,L,M,O,U,V⟩=>⟨Z,lb,aa,C,E,I,J,L,M,Wk.B hm O,Wk.B hm U,V.wk hm⟩
theorem Gw (B bl bs:Nat) (vb:ah) (bX:ba) (g:List UInt8→Option Int) (n:Nat) (hist:List (List UInt8→Option Int)) (cs:List ah) (E:Int) (l:List (List UInt8)) (bf:Option ba) (bU:Nat) (w:ai) (A:cR w B bl bs vb bX g n hist cs) (O:bQ w.heap bf l) (hw:E≠0) (eh:l.length≤1048576) (dy:∀ x∈l,x.length≤1048576) (eg:cs.length≤1048576):
 aY aq 32 (bd [aA bl,.int .i64 E,.slice bf l.length bU]) w (iG B bl bs vb bX g hist E l w):=by
 obtain ⟨J,L,rfl⟩:=de A.back;have dw:=A.lo;have ei:=A.nB;have bL:bl≠bs:=fun h=>by subst h; exact A.dR.fA A.obj.choose_spec
 have eb:=A.obj.lt;have ec:=A.dR.lt;refine enter func32 U ntmps32 U<|aP 2 U<|e<|Cx U U fun I eC d7 cc cO=> ?_;have en:=cc.size;refine e<|Cx U U fun aZ a9 d8 bu cQ=> ?_;have ep:=bu.size;have cV:Wk w a9:=cc.md.trans bu.md;have cm:aD a9.heap I [aA bl]:=Wk.B bu.md cO;refine aj 6 U<|p (ay U<|cm.aG 0)<|p (gW u32 U U)<|aC 2 U<|cf (U)<|az 4 U<|e<|E7 fun C eB d6 ca cM=> ?_;have el:=ca.size;refine e<|al Rb fun M d0 d9 bx cS=> ?_;have ev:=bx.size;refine e<|st KZ U U (U) (cS) (by simp) fun Z bt cP=> ?_;have cU:Wk a9 d0:=ca.md.trans bx.md;have bo:Wk a9 Z:=cU.trans' bt fun k V h=>by omega
 have bm:Wk w Z:=cV.trans bo;have eo:=bt.size;have bC:aD Z.heap I [aA bl]:=Wk.B bo cm;have cq:aD Z.heap aZ [.int .i64 E]:=Wk.B bo cQ;have a6:aD Z.heap M [.map (some C)]:=cP;have dF:cJ Z.heap C dT (mT<|fl g []):=by
  rw [QJ,q8];exact ((cJ.nil cM).wk bx.md).md bt fun h=>by omega
 have d5:=O.wk bm;refine aj 10 U<|p mv<|aC 5 U<|lp (fun aJ cH aI=> ∃ (i m:Nat),(i≤l.length)∧(m≤i)∧(∀ x∈l.take i,dL x=true)∧(dh (gr g<|l.take i)<|n+m)∧(Md (fun k=>k=C) Z aI)∧(cJ aI.heap C dT<|mT<|fl g<|l.take i)∧(Sl cH [(3,aA I),(4,aA aZ),(7,aA M),(8,aQ m),(17,.slice bf l.length bU),(18,aQ (l.length)),(19,aQ i)])∧(l.length - i=aJ)) _ ⟨0,0,ag,ag,(fun x am=>by simp at am),(by rw [List.take_zero,O0]; exact A.eT),(Md.refl _ _),dF,U,U⟩ ?_;rintro aJ cH aI ⟨i,m,hi,hm,aS,ak,ao,bJ,dI,rfl⟩;refine bG dI ?_;have aK:Wk w aI:=bm.trans' ao fun k V h=>by omega
 have ey:=ao.size;refine bV 6 U<|cd U (fun dp=> ?_) fun dp=> ?_;refine bD 5 U ?_;have dP:(l.getD i []).length≤1048576:=Ef dy ag;have aw:l.take (i+1)=l.take i++ [l.getD i []]:=ib l i [] ag;refine az 1 U<|p (bZ dJ U U ag<|aU.ok (O.wk aK)<|ef ag)<|p (ay U<|bQ.get (i:=i) (O.wk aK) ag)<|aj 7 U<|e<|aH (Bi (l.getD i []) aI dP) U ?_;rintro v24 cE ⟨rfl,bn⟩;have a2:Md (fun k=>k=C) Z cE:=ao.trans<|bn.mono fun _ _ h=>h.elim;have bq:=aK.trans bn;have bK:=bJ.wk bn;have cp:=a2.B a6 fun h=>by omega
 have db:=a2.B bC fun h=>by omega
 have ch:=A.wk bq;refine aC 3 U<|cb U (fun bB=> ?_) fun bB=> ?_;have bO:dL (l.getD i [])=false :=by simpa using bB
 exact aB 9 U<|tr<|bg 2 U<|aE U<|.inl ⟨⟨_,gK (show i < l.length by omega),bO⟩,U,bq⟩;have bO:dL (l.getD i [])=true :=by simpa using bB
 have bN:∀ x∈l.take (i+1),dL x=true :=fun x am=>by
  rw [aw,dz,fu] at am;rcases am with am | rfl;exact aS x am;exact bO
 refine az 4 U<|p (ay U<|cp.aG 0)<|aj 1 U<|p (M7 gE sn kL (bK.od) U U (⟨_,U⟩) (HC g (l.take i)<|l.getD i [])<|QK g (l.take i)<|l.getD i [])<|p mv<|aC 12 U<|cb U (fun bE=> ?_) fun bE=> ?_;have cy:l.getD i []∉l.take i:=by simpa using bE
 refine bD 1 U<|zZ 8 fun ac=>pF 0 U ac (cp.aG 0)<|nX [1] U ac<|pF 2 U ac (db.aG 0)<|nX [3,4] U ac<|pF 5 U ac (ch.obj.aG 1)<|nX [6] U ac<|lq 7 U an (fun w' O=>tC gE sn kL (jC.md (ch.dR.od) O id) U U (⟨_,U⟩)<|vX g<|l.getD i []) ac<|pn 8 U an an<|xy (kx:=str<|l.getD i []) (v:= .int .i64<|(g<|l.getD i []).getD 0) gE kL (bK.wk ac) U U U ⟨_,U⟩ fun bP c1 a5=> ?_;have b6:Md (fun k=>k=C) cE bP:=(ac.mono fun _ _ h=>h.elim).trans c1;rw [← QI cy,← aw] at a5;have br:Md (fun k=>k=C) Z bP:=a2.trans b6;have dl:=br.B a6 fun h=>by omega
 have d4:Wk w bP:=bq.trans' b6 fun k V h=>by omega
 refine pq an<|fV 3 U<|p (ay U<|dl.aG 0)<|aj 1 U<|p (tC gE sn kL (a5.od) U U (⟨_,U⟩)<|HC g (l.take<|i+1)<|l.getD i [])<|aC 3 U<|cd U (fun cr=> ?_) fun cr=> ?_;have bH:g (l.getD i [])=none:=by
  have h0:(if l.getD i []∈l.take (i+1) then (g<|l.getD i []).getD 0 else 0)=0:=ag;rw [if_pos (by rw [aw]; simp)] at h0;cases hg:g (l.getD i []) with
  | none=>rfl
  | some o=>rw [hg] at h0; simp only [jz] at h0; subst h0; exact absurd hg<|A.nz _
 exact az 2 U<|p (bW<|m+1)<|aj 5 U<|p (bW<|i+1)<|ar 2 U<|tn<|⟨_,ag,i+1,m+1,ag,ag,bN,(by rw [aw,← jy]; exact OZ ak cy bH),br,a5,U,U⟩
 have bH:∃ o,g (l.getD i [])=some o:=by
  cases hg:g (l.getD i []) with
  | some o=>exact ⟨o,rfl⟩
  | none=>exfalso; apply cr; rw [hg]; simp
 exact az 4 U<|p (bW<|i+1)<|ar 2 U<|tn<|⟨_,ag,i+1,m,ag,ag,bN,(by rw [aw]; exact Gh ak<|.inr bH),br,a5,U,U⟩
 have cz:l.getD i []∈l.take i:=by simpa using bE
 exact az 4 U<|p (bW<|i+1)<|ar 2 U<|tn<|⟨_,ag,i+1,m,ag,ag,bN,(by rw [aw]; exact Gh ak<|.inl cz),a2,(by rw [aw,QL cz]; exact bK),U,U⟩
 refine aB 2 U<|cg<|ee 4 U ?_;obtain rfl :i=l.length:=ag;rw [ym] at aS ak bJ;have dG:=bJ;have ci:=A.wk aK;have dd:=ao.B bC fun h=>by omega
 have dm:=ao.B a6 fun h=>by omega
 have dk:=ao.B cq fun h=>by omega
 refine az 1 U<|p (ay U<|dd.aG 0)<|aj 2 U<|p (ay U<|ci.obj.aG 1)<|p (vW gE U U ci.dR A.eT)<|aj 1 U<|p (bW<|n+m)<|aC 3 U<|cd U (fun dq=> ?_) fun dq=> ?_;exact aB 7 U<|aE U<|.inr ⟨aS,n+m,ak,.inl ⟨ag,U,aK⟩⟩;refine az 4 U<|p (ay U<|dm.aG 0)<|p ri<|e<|aH (Lg C aZ (fl g l) E aI dG dk) U ?_;rintro v59 aW ⟨rfl,a8,c4⟩;have aL:Md (fun k=>k=C) Z aW:=ao.trans c4;have a1:Wk w aW:=bm.trans' aL fun k V h=>by omega
 have bA:=aL.B a6 fun h=>by omega
 have co:=aL.B bC fun h=>by omega
 have di:=aL.B cq fun h=>by omega
 have a4:=A.wk a1;have eq:=a1.size;have er:=aL.size;obtain ⟨bY,d3,_,a7⟩:=a8.eT;refine aj 5 U<|p (ay U<|bA.aG 0)<|p (vW gE U U a8 a7)<|aC 3 U<|cd U (fun dr=> ?_) fun dr=> ?_;have bI:bY.size=0:=ag;rw [bI] at a7;exact aB 7 U<|aE U<|.inr ⟨aS,n+m,ak,.inr ⟨ag,U,.inl ⟨a7,a1⟩⟩⟩;have bI:bY.size≠0:=ag;refine az 5 U<|p (ay U<|bA.aG 0)<|e<|wU gE a8 U fun aV eE left ej bv cX dt dA ct=> ?_;have eu:=bv.size;refine aC 3 U<|lp (fun aJ cI bb=> ∃ (aT:List (ah×ah)),(Lf (c8 E g l) aT)∧(im bb.heap aV C aT)∧(cJ bb.heap bs dT<|mT<|gV aT g<|eD E (c8 E g l) g)∧(Md (fun k=>k=bs∨k=aV) aW bb)∧(Sl cI [(3,aA I),(4,aA aZ),(7,aA M),(64,aA aV)])∧(aT.length=aJ)) _ ⟨left,(Lf.start dt dA ct),cX,(by rw [yV (a:=g) (b:=eD E (c8 E g l) g) ct (fun x am=>(FO am).symm)]; exact a4.dR.wk bv.md),(bv.md.mono fun _ _ h=>h.elim),U,U⟩ ?_;rintro aJ cI bb ⟨aT,cZ,cY,bM,ab,dK,rfl⟩;refine bG dK<|aP 2 U<|e<|wq cY U fun d1 ez cA ad cK cL=>p (wu U)<|aC 3 U<|cb U (fun bz=> ?_) fun bz=> ?_;obtain ⟨cw,b8,b5⟩:=cL bz;have dv:=cw.length_eq;simp only [cn] at dv;obtain ⟨x,o,rfl,dH,c0,ek,ed,ds⟩:=cZ.step cw;have a3:Md (fun k=>k=bs∨k=aV) aW ad:=ab.trans<|b8.mono fun k _ h=> .inr h;have dN:=bM.md b8 fun h=>by omega
 have dc:=a3.B co fun h=>by omega
 have dj:=a3.B di fun h=>by omega
 have dD:=a3.B a4.obj fun h=>by have :=bL; omega
 refine az 5 U<|p (vA b5 U)<|aC 4 U<|zZ 6 fun av=>pF 0 U av (dc.aG 0)<|nX [1,2] U av<|pF 3 U av (dD.aG 1)<|nX [4] U av<|pF 5 U av (dj.aG 0)<|pn 6 U an an<|xy (kx:=str x) (v:= .int .i64 E) gE kL (dN.wk av) U U U ⟨_,U⟩ fun bR c2 c5=> ?_;have b7:Md (fun k=>k=bs) ad bR:=(av.mono fun _ _ h=>h.elim).trans c2;have c3:Md (fun k=>k=bs∨k=aV) aW bR:=a3.trans<|b7.mono fun k _ h=> .inl h;have cW:=b5.rk.md b7 (fun h=>by omega) fun h=>by omega
 have dM:cJ bR.heap bs dT (mT<|gV cA g<|eD E (c8 E g l) g):=by
  rw [ds,FP dH,← q9];exact c5
 exact pq an<|bg 1 U<|tn<|⟨_,ag,cA,c0,cW,dM,c3,U,U⟩
 obtain ⟨du,rfl⟩:=cK bz;refine aB 2 U<|cg<|ee 3 U ?_;rw [du,yU] at bM;have bF:=ab.B co fun h=>by omega
 have cv:=ab.B a4.obj fun h=>by have :=bL; omega
 have cx:¬(eY J cs.length L).ownBlock=some I:=fun h=>by have :=(da A.back h).2; omega
 have dn:b9 ad B 1 1 (.slice J cs.length L) cs.length cs:=cB a4.back ab (fun k V h=>by
  rcases h with h | h;subst h; obtain ⟨cur,z,aO⟩:=rB A.back V; exact A.dR.fA aO;have :=(da A.back V).2; omega)
 have aF:(fun w'=>Md (fun q=>(eY J cs.length L).ownBlock=some q) ad w') ad.drew:=(Md.refl _ _).drew;refine tF (fun w'=>Md (fun q=>(eY J cs.length L).ownBlock=some q) ad w') 10 U wide aF<|tD 0 U (fun w' O=>ay U<|(O.B bF cx).aG 0) aF<|tD 1 U (fun w' O=>ay U<|(O.B bF cx).aG 0) aF<|l6 [2,3] U aF<|tD 4 U (fun w' O=>ay U<|(O.B cv A.kV).aG 2) aF<|zY 5 U (ri) aF<|q6 6 U an<|e9 AZ U U fun d2 cF ea ce cT=> ?_;have ew:=ce.size;have aa:Wk ad cF:=Qp ce.md;have ex:=aa.size;have cj:(fun w'=>Md (fun q=>(eY J cs.length L).ownBlock=some q) ad w') cF:=Md.mono aa fun _ _ h=>h.elim;refine ⟨cj,?_⟩;refine q6 7 U an<|ap AZ (aR dn aa) U (by have :=ab.size; omega) U (aU.dB cT) (U) (U) ag ag fun eA cG cu ae dQ aN=> ?_;have dQ:=ae.size;have dE:=ae.B (Wk.B aa cv) A.kV;obtain ⟨aX,a0,rfl⟩:=de cu;have ck:(fun w'=>Md (fun q=>(eY J cs.length L).ownBlock=some q) ad w') cG:=cj.trans' ae fun _ _ h=>h;refine ⟨ck,?_⟩;refine l6 [8,9] U ck<|pn 10 U an an<|st CS U U (U) (dE) (by simp) fun bc au cN=> ?_
 skip
 refine pq an<|bg 7 U<|aE U ?_;have et:=ab.size;have em:=au.size;have dC:b9 cG B 1 1 (.slice aX (cs.length+1) a0) (cs++ [qh (.func 77) #[] #[aA M,aA I]]).length (cs++ [qh (.func 77) #[] #[aA M,aA I]]):=by rw [bp]; exact cu
 have hT:Md (jc bl bs<|.slice J cs.length L) w bc:=((((a1.mono fun _ _ h=>h.elim).trans' ab (fun k V h=>by
  rcases h with h | h;exact .inr<|.inl h;omega)).trans' aa (fun _ _ h=>h.elim)).trans' ae (fun k V h=> .inr<|.inr h)).trans' au (fun k V h=> .inl h)
 have dx:=fun k h=>(da (k:=k) A.back h).2;have dO:¬(eY J cs.length L).ownBlock=some bs:=fun h=>by obtain ⟨cur,z,aO⟩:=rB A.back h; exact A.dR.fA aO
 have aM:∀ b,b=I∨b=M∨b=C→¬(eY aX (cs.length+1) a0).ownBlock=some b∧¬(eY J cs.length L).ownBlock=some b:=fun b hb=>by
  have ax:¬(eY J cs.length L).ownBlock=some b:=fun h=>by have :=dx b h; omega
  refine ⟨fun h=> ?_,ax⟩;rcases aN b h with h | h;exact ax h;omega
 have c7:aD bc.heap I [aA bl]:=au.B (ae.B (Wk.B aa bF) (aM I<|.inl rfl).2) fun h=>by omega
 have c9:aD bc.heap M [.map (some C)]:=au.B (ae.B (Wk.B aa<|ab.B bA fun h=>by omega) (aM M<|.inr<|.inl rfl).2) fun h=>by omega
 have c6:cJ bc.heap C dT (mT<|c8 E g l):=(((a8.md ab fun h=>by omega).wk aa).md ae (aM C<|.inr<|.inr rfl).2).md au fun h=>by omega
 refine .inr ⟨aS,n+m,ak,.inr ⟨ag,U,.inr ⟨.slice aX (cs.length+1) a0,cs++ [qh (.func 77) #[] #[aA M,aA I]],dh.pos a7 bI,⟨cN,((bM.wk aa).md ae dO).md au (fun h=>bL h.symm),FQ hw ak,ag,Od hw A.nz,dw,cB dC au (fun k V h=> ?_),fun h=> ?_,eR.snoc ⟨M,I,C,U,ag,ag,ag,(aM M<|.inr<|.inl U).1,(aM I<|.inl U).1,c9,c7,c6⟩<|eR.imp (fun v q hb=> ?_) A.bk⟩,hT,fun k h=> ?_⟩⟩⟩;subst h;rcases aN k V with h | h;exact A.kV h;omega;rcases aN bl h with h | h;exact A.kV h;omega;obtain ⟨bS,lb,bT,ax,b0,b1,b2,b3,b4,bh,bi,bj⟩:=hb;have dS:=bh.lt;have dU:=bi.lt;have dV:bS≠bs:=fun h=>by subst h; exact A.dR.fA bh.choose_spec
 have dX:lb≠bs:=fun h=>by subst h; exact A.dR.fA bi.choose_spec
 have dY:bT≠bl:=fun h=>by subst h; exact bj.fA A.obj.choose_spec
 have dZ:¬(eY J cs.length L).ownBlock=some bT:=fun h=>by obtain ⟨cur,z,aO⟩:=rB A.back h; exact bj.fA aO
 have cC:∀ b,b < w.heap.size→¬(eY J cs.length L).ownBlock=some b→¬(eY aX (cs.length+1) a0).ownBlock=some b:=fun b hb ax h=>by
  rcases aN b h with h | h;exact ax h;omega
 exact ⟨bS,lb,bT,ax,b0,b1,b2,cC bS dS b3,cC lb dU b4,hT.B bh (fun h=>by rcases h with h | h | h; exact b0 h; exact dV h; exact b3 h),hT.B bi (fun h=>by rcases h with h | h | h; exact b1 h; exact dX h; exact b4 h),bj.md hT fun h=>by rcases h with h | h | h; exact dY h; exact b2 h; exact dZ h⟩;rcases aN k h with h | h;exact .inl h;exact .inr ag
end Go.Hb.jD
end
section
namespace Go.Hb.j1
open Go.Hb.dO
open Go.Hb.jD
theorem B4 (B bl bs:Nat) (vb:ah) (C:ba) (g:List UInt8→Option Int) (n:Nat) (hist:List (List UInt8→Option Int)) (cs:List ah) (l:List (List UInt8)) (A:Option ba) (E:Nat) (w:ai) (I:cR w B bl bs vb C g n hist cs) (L:bQ w.heap A l) (O:l.length≤1048576) (V:∀ x∈l,x.length≤1048576) (M:cs.length≤1048576):
 aY aq 14 (bd [aA bl,.slice A l.length E]) w (iG B bl bs vb C g hist 1 l w):=by
 exact enter func14 U ntmps14 U<|aP 9 U<|e<|aH (Gw B bl bs vb C g n hist cs 1 l A E w I L aI O V M) U fun Z aa J=>p aT<|ar 3 U<|aE U<|J
theorem Cp (B bl bs:Nat) (vb:ah) (C:ba) (g:List UInt8→Option Int) (n:Nat) (hist:List (List UInt8→Option Int)) (cs:List ah) (l:List (List UInt8)) (A:Option ba) (E:Nat) (w:ai) (I:cR w B bl bs vb C g n hist cs) (L:bQ w.heap A l) (O:l.length≤1048576) (V:∀ x∈l,x.length≤1048576) (M:cs.length≤1048576):
 aY aq 15 (bd [aA bl,.slice A l.length E]) w (iG B bl bs vb C g hist (-1) l w):=by
 exact enter func15 U ntmps15 U<|aP 9 U<|e<|aH (Gw B bl bs vb C g n hist cs (-1) l A E w I L aI O V M) U fun Z aa J=>p aT<|ar 3 U<|aE U<|J
theorem l9 (B bl bs:Nat) (vb:ah) (C:ba) (g:List UInt8→Option Int) (n:Nat) (hist:List (List UInt8→Option Int)) (cs:List ah) (x:List UInt8) (w:ai) (A:cR w B bl bs vb C g n hist cs):
 aY aq 19 (bd [aA bl,str x]) w (fun v w'=>v= .int .i64 ((g x).getD 0)∧Wk w w'):=by
 exact enter func19 U ntmps19 U<|aP 9 U<|p (gW u32 U U)<|aC 2 U<|cf (U)<|az 7 U<|p (ay U<|A.obj.aG 1)<|aj 1 U<|p (tC gE sn kL (A.dR.od) U U (⟨_,U⟩)<|vX g x)<|ar 4 U<|aE U<|⟨U,Md.refl _ _⟩
theorem M1 (B bl bs:Nat) (vb:ah) (C:ba) (g:List UInt8→Option Int) (n:Nat) (hist:List (List UInt8→Option Int)) (cs:List ah) (w:ai) (A:cR w B bl bs vb C g n hist cs):
 aY aq 18 (bd [aA bl]) w (fun v w'=>v=aQ n∧Wk w w'):=by
 exact enter func18 U ntmps18 U<|aP 9 U<|p (gW u32 U U)<|aC 2 U<|cf (U)<|az 7 U<|p (ay U<|A.obj.aG 1)<|p (vW gE U U A.dR A.eT)<|ar 4 U<|aE U<|⟨U,Md.refl _ _⟩
theorem Ki (B bl bs:Nat) (vb:ah) (A:ba) (g:List UInt8→Option Int) (n:Nat) (hist:List (List UInt8→Option Int)) (cs:List ah) (x:List UInt8) (w:ai) (E:cR w B bl bs vb A g n hist cs) (I:g x=some 1):
 aY aq 20 (bd [aA bl,str x]) w (fun v w'=>v= .bool true∧Wk w w'):=by
 refine enter func20 U ntmps20 U<|aP 10 U<|e<|aH (l9 B bl bs vb A g n hist cs x w E) U ?_;rintro L M ⟨rfl,C⟩;refine aC 9 U<|cd U (fun J=> ?_) fun h=>absurd (by rw [I]; rfl) h;exact aB 8 U<|aE U<|⟨U,C⟩
theorem Kh (B bl bs:Nat) (vb:ah) (A:ba) (g:List UInt8→Option Int) (n:Nat) (hist:List (List UInt8→Option Int)) (cs:List ah) (x:List UInt8) (w:ai) (I:cR w B bl bs vb A g n hist cs) (C:g x=some (-1)):
 aY aq 20 (bd [aA bl,str x]) w (fun v w'=>v= .bool false∧Wk w w'):=by
 refine enter func20 U ntmps20 U<|aP 10 U<|e<|aH (l9 B bl bs vb A g n hist cs x w I) U ?_;rintro M O ⟨rfl,E⟩;refine aC 9 U<|cd U (fun h=>absurd h<|by rw [C]; decide) fun L=>bD 6 U<|cd U (fun J=> ?_) fun h=>absurd (by rw [C]; rfl) h;exact aB 8 U<|aE U<|⟨U,E⟩
end Go.Hb.j1
end
section
namespace Go.Hb
open Go.Hb.dO
open Go.Hb.jD Go.Hb.j1
theorem N6 {w:ai} {B e n C i:Nat} {a:Option ba} {l:List ah} (h:w.ownsRow B e 1 (.slice a n C) n l) (hi:i≤n) (hn:0 < n):w.ownsRow B e 1 (.slice a i C) i (l.take i):=by
 have V:l.length=n:=by have :=h.1; simpa using this
 rcases h.2 with ⟨A,O⟩ | ⟨g,cap,cur,A,I,L,hle,J,M,E⟩
 · simp only [mI] at A; omega
 · simp only [mI] at A;obtain ⟨rfl,_,rfl⟩:=A;refine ⟨by rw [bX]; omega,.inr ⟨g,C,cur,U,I,L,ag,J,M,?_⟩⟩;rw [oK] at E ⊢;rw [← E,List.take_take,sI hi]
theorem N5 {w:ai} {B e n A j:Nat} {a:Option ba} {l:List ah} (h:w.ownsRow B e 1 (.slice a n A) n l):aU w.heap (dV a A j 1) (l.drop j):=by
 have C:=(du h).2.drop (cap:=A) (k:=j) (size:=1)<|by have E:=h.1; have I:=(du h).1; omega
 rwa [oK] at C
theorem Li (l:List ah) (i j:Nat) (B n E C:Nat) (w:ai) (I:b9 w B 1 1 (.slice (some ⟨C,0,none⟩) n E) n l) (ab:i < j∧j≤n) (ad:n≤1048577) (J:(l.drop j).all kW=true):
 aY aq 33 (bd [.slice (some ⟨C,0,none⟩) n E,aQ i,aQ j]) w (fun v w'=>v= .slice (some ⟨C,0,none⟩) (i+(n - j)) E∧b9 w' B 1 1 (.slice (some ⟨C,0,none⟩) (i+(n - j)) E) (i+(n - j)) (l.take i++l.drop j)∧Md (fun q=>q=C) w w'):=by
 have ac:l.length=n:=by have :=I.1; simpa using this
 have aa:=(du I).1;refine enter func33 U ntmps33 U<|aP 12 U<|p (GC tq U U U U ag)<|aC 10 U<|cd U (fun h=>absurd h ag) fun Z=>bD 10 U ?_;have A:(fun w'=>Wk w w') w.drew:=(Md.refl _ _).drew;exact tF (fun w'=>Wk w w') 6 U wide A<|l6 [0,1] U A<|zY 2 U (rX tq U U ag) A<|l6 [3,4] U A<|zY 5 U (tX tq U U ag) A<|pn 6 U an an<|JG (B:=B) (xs:=l.take i) (news:=l.drop j) (n:=i) (m:=n - j) AZ (N6 (aR I A) ag ag) U U (show aU _ (dV (some ⟨C,0,none⟩) E j 1) (l.drop j) from N5<|aR I A) (by unfold dV; split <;> simp) (by rw [fY]; omega) J ag fun ae L O=>Nh 7 U (fun _=>aT) (fun h=>dw<|(show true =_ from by kernel_rfl).trans h)<|pq an<|fV 7 U<|p (xl tq U U U ag)<|e<|Ky Qd Re U O (by simp) U ag fun aj M V=>ar 9 U<|aE U<|⟨U,V,Md.trans (A.mono fun _ _ h=>h.elim)<|Md.trans L<|M.mono fun q _ h=>by simpa [dM] using h.symm⟩
theorem JM (au lb Z bl bs:Nat) (aS:ba) (vb:ah) (q g:List UInt8→Option Int) (w:ai) (aQ:aD w.heap au [.map (some Z)]) (al:aD w.heap lb [aA bl]) (an:aD w.heap bl [.pointer (some aS),.map (some bs),vb]) (aM:cJ w.heap Z dT (mT q)) (kJ:cJ w.heap bs dT (mT g)) (aJ:Z≠bs):
 aY aq 77 (bd [aA au,aA lb]) w (fun v w'=>v= .tuple #[]∧cJ w'.heap bs dT (mT<|gx q g)∧Md (fun k=>k=bs) w w'):=by
 have bi:=aQ.lt;have bj:=al.lt;have bm:=an.lt;have bn:=aM.lt;have bo:=kJ.lt;have bp:lb≠bs:=fun h=>by subst h; exact kJ.fA al.choose_spec
 have bq:bl≠bs:=fun h=>by subst h; exact kJ.fA an.choose_spec
 refine enter func77 U ntmps77 U<|aP 2 U<|p (ay U<|aQ.aG 0)<|e<|wU gE aM U fun A O left bb E aW aZ a2 aH=> ?_;have bf:=E.size;refine aC 3 U<|lp (fun av aR V=> ∃ (I:List (ah×ah)),(Lf q I)∧(im V.heap A Z I)∧(cJ V.heap bs dT<|mT<|gV I g<|gx q g)∧(Md (fun k=>k=bs∨k=A) O V)∧(Sl aR [(0,aA au),(1,aA lb),(5,aA A)])∧(I.length=av)) _ ⟨left,(Lf.start aZ a2 aH),aW,(by rw [yV (a:=g) (b:=gx q g) aH (fun x a4=>by simp [gx,a4])]; exact kJ.wk E.md),(Md.refl _ _),U,U⟩ ?_;rintro av aR V ⟨I,aX,aV,ao,aw,a3,rfl⟩;refine bG a3<|aP 2 U<|e<|wq aV U fun a6 bh M a5 aT aU=>p (wu U)<|aC 3 U<|cb U (fun ae=> ?_) fun ae=> ?_;obtain ⟨aL,aE,aa⟩:=aU ae;have a1:=aL.length_eq;simp only [cn] at a1;obtain ⟨x,o,rfl,aN,ax,bc,a8,aF⟩:=aX.step aL;have L:Md (fun k=>k=bs∨k=A) O a5:=aw.trans<|aE.mono fun k _ h=> .inr h;have aI:=L.B (Wk.B E.md al) fun h=>by omega
 have aK:=L.B (Wk.B E.md an) fun h=>by omega
 have aO:=ao.md aE fun h=>by omega
 refine az 5 U<|p (vA aa U)<|aC 12 U<|cd U (fun ak=> ?_) fun ak=> ?_;have am:o=0:=by simpa using ak
 refine az 1 U<|p (ay U<|aI.aG 0)<|aj 2 U<|p (ay U<|aK.aG 1)<|aj 1 U<|e<|C8 (kx:=str x) gE kL aO U U ⟨x,U⟩ fun J C ad a7=> ?_;have ab:=(aa.rk).md C (fun h=>by omega) fun h=>aJ h;have ac:Md (fun k=>k=bs∨k=A) O J:=L.trans<|C.mono fun k _ h=> .inl h;have ap:cJ J.heap bs dT (mT<|gV M g<|gx q g):=by
  rw [aF,show gx q g x=none from by simp [gx,aN,am],← EV];exact ad
 exact ar 2 U<|tn<|⟨_,ag,M,ax,ab,ap,ac,U,U⟩
 have am:o≠0:=by simpa using ak
 refine az 1 U<|p (ay U<|aI.aG 0)<|aj 2 U<|p (ay U<|aK.aG 1)<|aj 2 U<|e<|xy (kx:=str x) (v:= .int .i64 o) gE kL aO U U U ⟨x,U⟩ fun J C ad=> ?_;have ab:=(aa.rk).md C (fun h=>by omega) fun h=>aJ h;have ac:Md (fun k=>k=bs∨k=A) O J:=L.trans<|C.mono fun k _ h=> .inl h;have ap:cJ J.heap bs dT (mT<|gV M g<|gx q g):=by
  rw [aF,show gx q g x=some o from by simp [gx,aN,am],← q9];exact ad
 exact ar 2 U<|tn<|⟨_,ag,M,ax,ab,ap,ac,U,U⟩
 obtain ⟨a0,rfl⟩:=aT ae;exact aB 2 U<|cg<|bg 1 U<|f0 U<|⟨U,by rw [a0,yU] at ao; exact ao,(E.md.mono fun _ _ h=>h.elim).trans' aw fun k a9 h=>by rcases h with h | h; exact h; omega⟩
theorem Qk (B bl bs:Nat) (vb:ah) (C:ba) (g:List UInt8→Option Int) (n:Nat) (w:ai) (A:cR w B bl bs vb C g n [] []):
 aY aq 16 (bd [aA bl]) w (fun v w'=>v= .bool false∧Wk w w'):=by
 obtain ⟨E,I,rfl⟩:=de A.back;refine enter func16 U ntmps16 U<|aP 9 U<|p (gW u32 U U)<|aj 1 U<|gb (t:=6) U (fun h=>absurd (h.symm.trans<|U) dw) fun L=>aj 3 U<|bo U (ay U<|A.obj.aG 2)<|aC 5 U<|cd U (fun J=> ?_) fun h=>absurd U h;exact aB 7 U<|aE U<|⟨U,Md.refl _ _⟩
theorem Hs (B bl bs:Nat) (vb:ah) (aa:ba) (g q:List UInt8→Option Int) (n m:Nat) (hist:List (List UInt8→Option Int)) (cs:List ah) (w:ai) (C:cR w B bl bs vb aa g n (hist++ [q]) cs) (hm:dh (gx q g) m) (aQ:m≤500) (aO:cs.length≤1048577):
 aY aq 16 (bd [aA bl]) w (fun v w'=>v= .bool true∧∃ aB aD,cR w' B bl bs aB aa (gx q g) m hist aD∧Md (jc bl bs vb) w w'∧(∀ k,aB.ownBlock=some k→vb.ownBlock=some k)):=by
 obtain ⟨A,v0,rfl,aL,aK⟩:=eR.pop C.bk;obtain ⟨I,lb,O,rfl,i1,i2,i3,i4,i5,i6,i7,i8⟩:=aK;have aN:(A++ [qh (.func 77) #[] #[aA I,aA lb]]).length=A.length+1:=by simp
 have J:=C.back;rw [aN] at J aO;obtain ⟨E,L,rfl⟩:∃ E L,vb= .slice (some ⟨E,0,none⟩) (A.length+1) L:=by
  rcases J.2 with ⟨_,ab⟩ | ⟨g2,cap,cur,V,_⟩;omega;exact ⟨g2,cap,V⟩
 have au:E≠bl:=fun h=>C.kV<|by rw [h]; rfl
 have av:E≠bs:=fun h=>by obtain ⟨cur,z,Z⟩:=rB J rfl; rw [h] at Z; exact C.dR.fA Z
 refine enter func16 U ntmps16 U<|aP 8 U<|p mv<|p (gW u32 U U)<|aj 1 U<|gb (t:=6) U (fun h=>absurd (h.symm.trans<|U) dw) fun a2=>bo U mv<|aj 2 U<|bo U (ay U<|C.obj.aG 2)<|aC 5 U<|cd U (fun h=>absurd h ag) fun a1=>az 4 U<|p mv<|aj 2 U<|p (ay U<|C.obj.aG 2)<|aj 1 U<|p (pH<|A.length)<|aj 5 U<|p mv<|aj 2 U<|p (ay U<|C.obj.aG 2)<|aj 1 U<|p (bZ tq U U ag<|aU.ok ((du J).2)<|by simp)<|p (ay U<|aU.yF (du J).2 (i:=A.length) (u:=qh (.func 77) #[] #[aA I,aA lb])<|by simp)<|e<|yS J6 U (JM I lb O bl bs aa _ q g w i6 i7 C.obj i8 C.dR i3) U ?_;rintro a3 aZ ⟨rfl,aS,ad⟩;have ax:=ad.B C.obj fun h=>by have :=C.dR; subst h; exact this.fA C.obj.choose_spec
 have aM:=cB J ad fun k M h=>av<|by simp only [dM,bR] at M; omega
 refine aj 4 U<|p mv<|p mv<|aj 2 U<|p (ay U<|ax.aG 2)<|aj 2 U<|p (bW<|A.length+1)<|e<|aH (Li _ A.length (A.length+1) B (A.length+1) L E aZ aM ag ag<|by simp) U ?_;rintro a4 a5 ⟨rfl,aw,ae⟩;have aR:=ae.B ax fun h=>au h.symm;refine aj 2 U<|e<|st CS U U (U) (aR) (by simp) fun a0 ak aJ=> ?_
 skip
 refine ar 8 U<|aE U ?_;have hT:Md (jc bl bs<|.slice (some ⟨E,0,none⟩) (A.length+1) L) w a0:=((ad.mono fun k _ h=> .inr<|.inl h).trans' ae fun k M h=> .inr<|.inr<|by rw [h]; rfl).trans' ak fun k M h=> .inl h;rw [show A.length+(A.length+1 - (A.length+1))=A.length by omega] at*;have aF:(A++ [qh (.func 77) #[] #[aA I,aA lb]]).take A.length++(A++ [qh (.func 77) #[] #[aA I,aA lb]]).drop (A.length+1)=A:=by simp
 rw [aF] at aw;refine ⟨U,.slice (some ⟨E,0,none⟩) A.length L,A,⟨aJ,(aS.md ae fun h=>av h.symm).md ak (fun h=>by have :=C.dR; subst h; exact this.fA C.obj.choose_spec),hm,aQ,JL C.nz,C.lo,cB aw ak (fun k M h=>au<|by simp only [dM,bR] at M; omega),fun h=>C.kV h,eR.imp (fun v q hb=> ?_) aL⟩,hT,fun k h=>h⟩;obtain ⟨I,lb,O,aI,al,am,V,ab,an,ao,ap,ac⟩:=hb;have aT:I≠bs:=fun h=>by subst h; exact C.dR.fA ao.choose_spec
 have aV:lb≠bs:=fun h=>by subst h; exact C.dR.fA ap.choose_spec
 have aW:O≠bl:=fun h=>by subst h; exact ac.fA C.obj.choose_spec
 have aX:¬(eY (some ⟨E,0,none⟩) (A.length+1) L).ownBlock=some O:=fun h=>by obtain ⟨cur,z,Z⟩:=rB J h; exact ac.fA Z
 exact ⟨I,lb,O,aI,al,am,V,ab,an,hT.B ao (fun h=>by rcases h with h | h | h; exact al h; exact aT h; exact ab h),hT.B ap (fun h=>by rcases h with h | h | h; exact am h; exact aV h; exact an h),ac.md hT fun h=>by rcases h with h | h | h; exact aW h; exact V h; exact aX h⟩
end Go.Hb
end
section
namespace Go.Hb.uY
open Go.Hb.dO
open Go.Hb.jD Go.Hb.j1
def uV (g:List UInt8→Option Int) (pre:List (List UInt8)) (x:List UInt8):Prop :=(pre++ [x]).Nodup∧∀ y∈pre++ [x],∃ o,g y=some o
def mL (bk A:Nat) (es:Array MapEntry) (c:Nat) (W:ai):Prop :=W.heap[bk]? =some (.cells [Value.map (some A)].toArray 82 (0,0))∧W.heap[A]? =some (.map es c)
theorem jb.fix {h A:Array Obj} {r b:Nat} {left :List (ah×ah)} {C:ah×ah} (hm:jb h r b left C) (hr:∀ o,h[r]? =some o→((∀ cur e z,o≠.cells cur e z)∧∀ es c,o≠.map es c)→A[r]? =some o) (hb:A[b]? =h[b]?):jb A r b left C:=by
 obtain ⟨es,c,seen,e,E,I,J⟩:=hm;exact ⟨es,c,seen,e,hr _ E ⟨(fun _ _ _ h=>by cases h),fun _ _ h=>by cases h⟩,hb.trans I,J⟩
theorem im.nc {h:Array Obj} {r b:Nat} {left :List (ah×ah)} (hm:im h r b left) (cur:Array ah) (e:au) (z:Nat×Nat):h[r]?≠some (.cells cur e z):=by
 obtain ⟨es,c,seen,C,A,_⟩:=hm;rw [A]; intro h; cases h
theorem MP (A:Nat) (w:ai):
 aY aq 35 (bd [.map (some A)]) w (fun v w'=> ∃ b,v= .func (.func 80) #[] #[aA b]∧w.heap.size≤b∧w'.heap[b]? =some (.cells [Value.map (some A)].toArray 82 (0,0))∧Wk w w'):=by
 exact enter func35 U ntmps35 U<|aP 2 U<|e<|vj U U fun C w1 J I E=>aj 5 U<|p ri<|ar 4 U<|aE U<|⟨C,U,ag,E,I.md⟩
theorem MM (bk L:Nat) (es:Array MapEntry) (c:Nat) (g:List UInt8→Option Int) (aK:jB es.toList c) (aL:ja es.toList dT (mT g)) (l:Nat) (C:List (List UInt8)→ai→Prop) (w:ai) (h0:C [] w) (V:∀ pre W,C pre W→mL bk L es c W) (bK:∀ pre E ae (ad:Nat→Prop),C pre E→Md ad E ae→(∀ k,ad k→w.heap.size≤k∧∀ cur e z,E.heap[k]?≠some (.cells cur e z))→C pre ae) (A:∀ pre x E,uV g pre x→C pre E→YieldAt Fence.wide 0 aq l #[str x] E fun e W'=>e= .returned (.bool true)∧fR E W'∧C (pre++ [x]) W'):
 aY aq 80 (bd [.func (.yield l) #[] #[],aA bk]) w (fun v w'=> ∃ xs,gU g xs∧C xs w'):=by
 have ar:=V _ _ h0;have ax:cJ w.heap L dT (mT g):=⟨es,c,ar.2,aK,aL⟩
 have a3:=ax.lt;refine enter func80 U ntmps80 U<|aP 2 U<|p (ay U<|(eC ar.1).trans U)<|e<|wU gE ax U fun ab ba left a6 ap aM aR aU aw=> ?_;have a7:=ap.size;refine aC 3 U<|lp (fun aj aF ac=> ∃ (I:List (ah×ah)) (pre:List (List UInt8)),(Lf g I)∧(im ac.heap ab L I)∧(C pre ac)∧(pre.Nodup)∧(∀ y,(∃ o,g y=some o)↔y∈pre∨str y∈I.map dj)∧(∀ y∈pre,str y∉I.map dj)∧(Sl aF [(0,.func (.yield l) #[] #[]),(5,aA ab)])∧(I.length=aj)) _ ⟨left,[],(Lf.start aR aU aw),aM,(bK [] _ _ (fun _=>False) h0 ap.md fun _ h=>h.elim),yi,(MO aw),(fun y A=>by simp at A),U,U⟩ ?_;rintro aj aF ac ⟨I,pre,ao,al,am,aD,Z,au,aW,rfl⟩;refine bG aW<|aP 2 U<|e<|wq al U fun a2 a8 aa a1 aI aJ=>p (wu U)<|aC 3 U<|cb U (fun O=> ?_) fun O=> ?_;obtain ⟨J,aO,ak⟩:=aJ O;have aT:=J.length_eq;simp only [cn] at aT;obtain ⟨x,o,rfl,aV,aN,aZ,a4,a5⟩:=ao.step J;have av:∀ y,str y∈I.map dj↔y=x∨str y∈aa.map dj:=fun y=>by
  rw [(J.map dj).mem_iff];simp only [fZ,ew];exact ⟨fun h=>h.imp pN id,fun h=>h.imp (fun h=>by rw [h]) id⟩
 have aX:str x∉aa.map dj:=by
  have h:=(J.map dj).nodup_iff.1 ao.nd;simp only [fZ,List.nodup_cons] at h;exact h.1
 have an:C pre a1:=bK pre _ _ (fun k=>k=ab) am aO fun k aQ=>⟨ag,fun cur e z=>by rw [aQ]; exact im.nc al cur e z⟩
 have a0:x∉pre:=fun h=>au x h aZ;have aE:uV g pre x:=⟨yh.2 ⟨aD,by simp,fun a ha b hb=>by simp at hb; subst hb; intro h; subst h; exact a0 ha⟩,fun y A=>by
  rw [dz,fu] at A;rcases A with A | rfl;exact (Z y).2<|.inl A;exact ⟨o,aV⟩⟩
 refine az 5 U<|p (vA ak U)<|aC 5 U<|FY<|py U (pC (.func (.yield l) #[] #[]) U)<|py U mv<|HL U U (A pre x _ aE an) fun a9 M=> ?_;refine py U (no U)<|Fe ?_;exact ee 1 U<|cf (U)<|aB 2 U<|tn<|⟨_,ag,aa,pre++ [x],aN,((jb.fix ak (fun o aG aH=>M.1 _ o aG aH)<|(V _ _ M.2).2.trans (V _ _ an).2.symm).rk),M.2,aE.1,(fun y=>by rw [Z,av,dz,fu,or_assoc]),(fun y A=>by rw [dz,fu] at A; rcases A with A | rfl; exact (fun h=>au y A<|(av y).2<|.inr h); exact aX),U,U⟩
 obtain ⟨aS,rfl⟩:=aI O;exact aB 2 U<|cg<|bg 1 U<|f0 U<|⟨pre,⟨aD,fun y=>by rw [Z y,aS]; simp⟩,am⟩
theorem MN (bk A:Nat) (es:Array MapEntry) (c:Nat) (g:List UInt8→Option Int) (E:jB es.toList c) (I:ja es.toList dT (mT g)):BW aq 80 #[.pointer (some ⟨bk,0,none⟩)] (fun x:List UInt8=> #[str x]) (uV g) (gU g) (mL bk A es c):=
 fun l C W h0 J bK M=>jv (MM bk A es c g E I l C W h0 J bK M) fun e w' ⟨v,he,L⟩=>⟨⟨v,he⟩,L⟩
theorem JI (bk M:Nat) (es:Array MapEntry) (c:Nat) (g:List UInt8→Option Int) (n:Nat) (aG:jB es.toList c) (aM:ja es.toList dT (mT g)) (aN:dh g n) (a4:n≤1048576) (w:ai) (ad:mL bk M es c w):
 aY aq 126 (bd [.slice none 0 0,.func (.func 80) #[] #[.pointer (some ⟨bk,0,none⟩)]]) w (fun v w'=> ∃ xs,gU g xs∧b9 w' w.heap.size 9 1 (v) (xs).length ((xs).map str)∧Wk w w'):=by
 have a1:=(cr.1 ad.2).1;refine Dy [] func126 U ntmps126 U ?_;refine eK<|eV<|aP 1 U<|e<|vj U U fun au w2 a0 J aE=> ?_;have a7:=J.size;have a5:au < w2.heap.size:=ag;have aH:mL bk M es c w2:=⟨J.md.ax ad.1,J.md.ax ad.2⟩
 refine ar 2 U<|cD<|eK<|eK<|eV<|kI 3 U<|cD ?_;apply Oz (fun x:List UInt8=> #[str x]) (uV g) (gU g) (mL bk M es c) (fun pre L=> ∃ v,L.heap[au]? =some (.cells [v].toArray 27 (0,0))∧b9 L w2.heap.size 9 1 (v) (pre).length ((pre).map str)∧mL bk M es c L∧w2.heap.size≤L.heap.size∧Wk w L) rfl J7 (fun _=>rfl) (MN bk M es c g aG aM) (⟨.slice none 0 0,aE,eL _ _ _ _,aH,bf _,J.md⟩) (fun _ _ ⟨_,_,_,h,_⟩=>h) (fun pre A C F ⟨v,ac,aA,av,aC,aB⟩ hm aa=>⟨v,xo ac hm aa,G1 aA hm aa,⟨xo av.1 hm aa,hm.ax av.2 fun h=>by have :=(aa M h).1; omega⟩,cQ aC hm.size,G2 aB hm J.md.size aa⟩);intro l x L K ab;exact kI 3 U<|tn<|ab;intro l pre x L az ak;obtain ⟨v,ae,I,ah,ao,aj⟩:=ak;have aQ:(pre++ [x]).length≤n:=aN.le az.1 az.2;simp only [bp,dC] at aQ;refine aP 2 U<|p (ay U<|(eC ae).trans U)<|p mv<|e<|e9 eu U U fun aX aS al E aD=> ?_;have aJ:Wk w aS:=Md.trans aj E.md;have al:=E.md.ax ae;refine e<|ap eu (aR I E.md) U (cQ ao E.md.size) U (aU.dB aD) (U) (U) ag ag fun v11 aV an V a6 a2=> ?_;have aK:=Wk.own aJ (aR I E.md) V J.md.size;have aw:mL bk M es c aV:=⟨V.ax (E.md.ax ah.1) (fun h=>rA (aR I E.md) (E.md.ax ah.1) aI h),V.ax (E.md.ax ah.2) fun h=>by have :=da (aR I E.md) h; omega⟩
 have am:=V.ax al fun h=>rA (aR I E.md) al aI h;refine e<|fj o0 U U (FH an) am (by simp) fun aW Z aF=> ?_;have aL:Wk w aW:=Md.trans' aK Z fun k O h=>by omega
 exact ar 2 U<|⟨(fR.wk E.md).trans ((fR.md V<|tP<|aR I E.md).trans<|fR.md Z fun k O=>⟨_,_,_,O ▸ am⟩),v11,aF,cB (by rw [List.map_append,bp]; exact an) Z (fun k O h=>rA an am aI<|h ▸ O),⟨Z.ax aw.1 (fun h=>by have :=(cr.1 ad.1).1; omega),Z.ax aw.2 fun h=>by omega⟩,cQ ao (cQ E.md.size<|cQ V.size Z.size),aL⟩
 intro D L xs aO aZ ak ab;obtain ⟨v,ae,I,ah,ao,aj⟩:=ak;have a3:=(cr.1 ab).1;refine cD<|eK<|eV<|aP 1 U<|p (ay U<|(eC ae).trans U)<|p aT<|ar 1 U<|cD<|AG<|LN U U ab ?_;exact ⟨xs,aO,nh (cB I (pB _ _ _) fun k O h=>by obtain ⟨c,e,z,ac⟩:=tP I k O; rw [h,ab] at ac; cases ac) J.md.size,Md.trans' aj (pB _ _ _) fun k O h=>by have :=J.md.size; omega⟩
theorem KD (bk A:Nat) (es:Array MapEntry) (c:Nat) (g:List UInt8→Option Int) (n:Nat) (C:jB es.toList c) (I:ja es.toList dT (mT g)) (L:dh g n) (M:n≤1048576) (w:ai) (E:mL bk A es c w):
 aY aq 78 (bd [.func (.func 80) #[] #[aA bk]]) w (fun v w'=> ∃ xs,gU g xs∧b9 w' w.heap.size 9 1 (v) (xs).length ((xs).map str)∧Wk w w'):=by
 exact enter func78 U ntmps78 U<|aP 8 U<|e<|aH (JI bk A es c g n C I L M w E) U fun v4 O J=>p aT<|ar 3 U<|aE U<|J
theorem Pw (bk C:Nat) (es:Array MapEntry) (c:Nat) (g:List UInt8→Option Int) (n:Nat) (O:jB es.toList c) (aa:ja es.toList dT (mT g)) (J:dh g n) (ad:n≤1048576) (w:ai) (V:mL bk C es c w):
 aY aq 34 (bd [.func (.func 80) #[] #[aA bk]]) w (fun v w'=> ∃ xs,gU g xs∧(xs.Pairwise fun a b=>a≤b)∧b9 w' w.heap.size 9 1 (v) (xs).length ((xs).map str)∧Wk w w'):=by
 refine enter func34 U ntmps34 U<|aP 7 U<|p mv<|e<|aH (KD bk C es c g n O aa J ad w V) U ?_;rintro v5 ak ⟨xs,A,L,Z⟩;have al:xs.length≤n:=J.le A.1 fun x ah=>(A.2 x).1 ah;refine p aT<|aj 4 U<|p mv<|e<|aH (Pv w.heap.size xs.length v5 xs ak L ag) U ?_;rintro am an ⟨rfl,ae,ab⟩;refine aj 4 U<|p mv<|p aT<|ar 3 U<|aE U ?_;have M:=List.mergeSort_perm xs fun x y=>decide (x≤y);refine ⟨xs.mergeSort fun x y=>decide (x≤y),⟨M.nodup_iff.2 A.1,fun y=>by rw [M.mem_iff,A.2]⟩,?_,by rw [IQ]; exact ae,Wk.own Z L ab<|bf _⟩;have h:=List.pairwise_mergeSort (le:=fun x y:List UInt8=>decide (x≤y)) (fun a b c E I=> ?_) (fun a b=> ?_) xs;exact h.imp fun ac=>by simpa using ac
 simp only [decide_eq_true_iff] at E I ⊢; exact List.le_trans E I;simp only [lI,decide_eq_true_iff]; exact List.le_total a b
end Go.Hb.uY
end
section
namespace Go.Hb
open Go.Hb.dO
open Go.Hb.jD Go.Hb.j1 Go.Hb.uY
theorem A7 (B bl bs:Nat) (vb:ah) (a3:ba) (g:List UInt8→Option Int) (n:Nat) (hist:List (List UInt8→Option Int)) (cs:List ah) (w:ai) (J:cR w B bl bs vb a3 g n hist cs) (bH:∀ x o,g x=some o→x.length≤64):
 aY aq 17 (bd [aA bl]) w (fun v w'=> ∃ xs,gU g xs∧(xs.Pairwise fun a b=>a≤b)∧v=str (gQ g xs)∧Wk w w'):=by
 obtain ⟨es,c,bI,bc,bn⟩:=J.dR;have bY:=J.nB;refine enter func17 U ntmps17 U<|aP 8 U<|p mv<|p (gW u32 U U)<|aC 2 U<|cf (U)<|az 4 U<|e<|fv xL fun A aW bT ae a6=> ?_;have b7:=ae.size;have bv:=J.wk ae.md;refine aj 5 U<|p mv<|aj 2 U<|p (ay U<|bv.obj.aG 1)<|e<|aH (MP bs aW) U ?_;rintro v12 bN ⟨bk,rfl,bU,bF,ao⟩;have b4:=ao.size;refine e<|aH (Pw bk bs es c g n bc bn J.eT ag bN ⟨bF,ao.ax<|ae.md.ax bI⟩) U ?_;rintro cb C ⟨xs,al,bM,M,aJ⟩;obtain ⟨au,aw,rfl⟩:=de M;have b5:=aJ.size;have b3:xs.length≤n:=J.eT.le al.1 fun x O=>(al.2 x).1 O;have aV:∀ x∈xs,x.length≤64:=fun x O=>let ⟨o,ho⟩:=(al.2 x).1 O; bH x o ho
 have aK:Wk aW C:=Md.trans ao aJ;have bf:Wk w C:=Md.trans ae.md aK;have a5:Bd 102 5 C A (.slice none 0 0) []:=(Bd.new a6).md aK fun _ _ h=>h;refine aC 5 U<|lp (fun aD aX am=> ∃ (i:Nat) (I:ah),(i≤xs.length)∧(Bd 102 5 am A I<|gQ g<|xs.take i)∧(Wk w am)∧(Md (fun k=>k=A) C am)∧(∀ k,BF A I k→k=A∨C.heap.size≤k)∧(Sl aX [(0,aA bl),(3,aA A),(13,.slice au xs.length aw),(14,aQ (xs.length)),(15,aQ i)])∧(xs.length - i=aD)) _ ⟨0,.slice none 0 0,ag,a5,bf,(Md.refl _ _),(fun k h=> .inl<|h.resolve_right fun h=>by simp [dM] at h),U,U⟩ ?_;rintro aD aX am ⟨i,I,hi,an,ad,L,ak,bJ,rfl⟩;refine bG bJ ?_;have ca:=L.size;have ab:=an;have b0:(gQ g<|xs.take i).length≤65000:=by
  have a4:=xu (g:=g) (xs:=xs.take i) fun x O=>aV x<|List.mem_of_mem_take O;rw [bX] at a4;omega
 refine bV 6 U<|cd U (fun bx=> ?_) fun bx=> ?_;refine bD 5 U ?_;have aR:=J.wk ad;have b2:(xs.getD i []).length≤64:=Ef aV ag;have b1:=sj<|xs.getD i [];refine az 1 U<|p (bZ dJ U U ag<|aU.ok ((du<|cB M L fun k E h=>by have :=da M E; omega).2)<|ef ag)<|p (ay U<|bQ.get (i:=i) (du<|cB M L fun k E h=>by have :=da M E; omega).2 ag)<|aC 3 U ?_;refine ei (fun aZ Z=> ∃ (aa:ah) (V:UInt8),(V=if 0 < (g<|xs.getD i []).getD 0 then 43 else 45)∧(Bd 102 5 Z A aa<|gQ g (xs.take i)++ [V])∧(Wk w Z)∧(Md (fun k=>k=A) C Z)∧(∀ k,BF A aa k→k=A∨C.heap.size≤k)∧(Sl aZ [(0,aA bl),(3,aA A),(5,str (xs.getD i [])),(13,.slice au xs.length aw),(14,aQ (xs.length)),(15,aQ i)])) ?_ ?_;refine aP 5 U<|p (ay U<|aR.obj.aG 1)<|aj 1 U<|p (tC gE sn kL (aR.dR.od) U U (⟨_,U⟩)<|vX g<|xs.getD i [])<|aC 3 U<|cd U (fun bz=> ?_) fun bz=> ?_;refine az 1 U<|e<|aH (pT A I (gQ g<|xs.take i) (43) _ ab<|by first | omega | (simp only [bp,dC]; omega)) U ?_;rintro cc bO ⟨rfl,a0,a7,aL,bA⟩;have bg:=ab.step ad aL ag;have bo:Md (fun k=>k=A) C bO:=L.trans' aL fun k E h=>(ak k h).resolve_right ag;exact ar 1 U<|tn<|⟨a0,43,(by rw [if_pos ag]),a7,bg,bo,(fun k h=>(bA k h).elim (ak k) fun h=> .inr ag),U⟩
 refine az 1 U<|e<|aH (pT A I (gQ g<|xs.take i) (45) _ ab<|by first | omega | (simp only [bp,dC]; omega)) U ?_;rintro ce bP ⟨rfl,a1,a8,aM,bB⟩;have bh:=ab.step ad aM ag;have bq:Md (fun k=>k=A) C bP:=L.trans' aM fun k E h=>(ak k h).resolve_right ag;exact ar 1 U<|tn<|⟨a1,45,(by rw [if_neg ag]),a8,bh,bq,(fun k h=>(bB k h).elim (ak k) fun h=> .inr ag),U⟩
 rintro aZ Z ⟨aa,V,bL,bb,bm,aO,aT,bK⟩;refine bG bK<|az 3 U<|e<|aH (QX (xs.getD i []) Z ag) U ?_;rintro ch cj ⟨rfl,ac⟩;have aF:=bb.md ac fun _ _ h=>h;refine e<|aH (QW A aa (gQ g (xs.take i)++ [V]) (eG<|xs.getD i []) _ aF<|by rw [bp,dC]; omega) U ?_;rintro v30 bR ⟨rfl,av,aI,ap,bC⟩;have bi:=aF.step (Md.trans bm ac) ap ag;have br:Md (fun k=>k=A) C bR:=(aO.trans' ac fun _ _ h=>h.elim).trans' ap fun k E h=>(aT k h).resolve_right ag;have b6:=ac.size;have b9:=aO.size;have b8:=ap.size;refine aj 3 U<|e<|aH (pT A av (gQ g (xs.take i)++ [V]++eG (xs.getD i [])) (10) _ aI<|by first | omega | (simp only [bp,dC]; omega)) U ?_;rintro v31 bS ⟨rfl,a2,a9,aN,bE⟩;have bj:=aI.step bi aN ag;have aS:∀ k,BF A av k→k=A∨C.heap.size≤k:=fun k h=>(bC k h).elim (aT k) fun h=> .inr ag;have bt:Md (fun k=>k=A) C bS:=br.trans' aN fun k E h=>(aS k h).resolve_right ag;exact aj 4 U<|p (bW<|i+1)<|ar 2 U<|tn<|⟨_,ag,i+1,a2,ag,(by rw [Hi ag]; unfold ns; rw [← bL,List.append_cons,← iC]; exact a9),bj,bt,(fun k h=>(bE k h).elim (aS k) fun h=> .inr ag),U,U⟩
 refine aB 2 U<|cg<|fV 4 U<|e<|aH (ue A I (gQ g<|xs.take i) _ an ag) U ?_;rintro ci ck ⟨rfl,bu⟩;refine ar 4 U<|aE U ?_;obtain rfl :i=xs.length:=ag;rw [ym];exact ⟨xs,al,bM,U,an.ud ad bu ag⟩
end Go.Hb
end
namespace Go.Hb.oQ
def pf:List UInt8:= [72,66,75,49,3,0,0,4,2,99,1,2,97,2,2,116,3,1,1,0,1,0,1,0]
def pI:List Nat:= [0,2,3,4,5,6,7,9,10,11,12,13,14]
def cz (E:Nat→Nat):Hp:=⟨sH 17 544 E pI,34⟩
noncomputable def zf (E:Nat→Nat):Rs:=jO aq 17 (x2 129 294) 100000<|.cl 22 [.str [],.str [49,10,99,97,116,10],.agg [.int .i64 9,.int .i64 2,.int .i64 1048576,.int .i64 1024,.int .i64 1024]]<|cz E
noncomputable def vH (E:Nat→Nat):Rs:=jO aq 17 (x2 129 294) 100000<|.cl 11 [.str pf]<|cz E
def Ay:Rs→Bool
 | .rv (.dg [.str l,.fJ]) _=>jM l pf
 | _=>false
def AA:Rs→Bool
 | .rv (.bool true) _=>true
 | _=>false
noncomputable def AB:Rs→Bool
 | .rv (.dg [.ptr b 0,.fJ]) h=>AA<|jO aq 17 (x2 129 294) 100000<|.cl 21 [.ptr b 0,.str [99,97,116]] h
 | _=>false
theorem LL (E:Nat→Nat):AB (vH E)=true :=an
end Go.Hb.oQ
section
namespace Go.Hb
open Go.Hb.oQ
theorem LH (E:Nat→Nat):Ay (zf E)=true :=an
end Go.Hb
end
section
namespace Go.Hb.u0
open Go.Hb.dO
open Go.Hb.oQ
theorem xk:j2 aq 17 (x2 129 294):=QY CL Eu
theorem ck:iF aq:=KC an
theorem Ol {R:Rs} (h:Ay R=true):∃ A,R= .rv (.dg [.str pf,.fJ]) A:=by
 unfold Ay at h;split at h
 · rename_i l A;rw [qR,decide_eq_true_iff] at h;subst h;exact ⟨A,U⟩
 · cases h
theorem LI (E:Nat→Nat):∃ A,zf E= .rv (.dg [.str pf,.fJ]) A:=Ol<|LH E
theorem Om {R:Rs} (h:AA R=true):∃ A,R= .rv (.bool true) A:=by
 unfold AA at h;split at h
 · exact ⟨_,U⟩
 · cases h
theorem On {R:Rs} (h:AB R=true):∃ b A,R= .rv (.dg [.ptr b 0,.fJ]) A∧∃ C,jO aq 17 (x2 129 294) 100000 (.cl 21 [.ptr b 0,.str [99,97,116]] A)= .rv (.bool true) C:=by
 unfold AB at h;split at h
 · exact ⟨_,_,U,Om h⟩
 · cases h
theorem LM (E:Nat→Nat):∃ b A,vH E= .rv (.dg [.ptr b 0,.fJ]) A∧∃ C,jO aq 17 (x2 129 294) 100000 (.cl 21 [.ptr b 0,.str [99,97,116]] A)= .rv (.bool true) C:=On<|LL E
theorem tU:∀ g∈pI,g < 17:=aI
theorem KB (w:ai) (I:dY 544 pI w):aY aq 22 #[str [],str [49,10,99,97,116,10],.agg #[.int .i64 9,.int .i64 2,.int .i64 1048576,.int .i64 1024,.int .i64 1024]] w (fun v w'=>v= .tuple #[str pf,.nilIface]∧Wk w w'):=by
 obtain ⟨E,r,hr⟩:=HR.xd (P:=aq) (G:=17) (T:=544) tU aI I;obtain ⟨C,he⟩:=LI E;unfold zf at he;have L:=zg xk ck wide he;obtain ⟨O,J⟩:=L;refine (J C.nx r w [str [],str [49,10,99,97,116,10],.agg #[.int .i64 9,.int .i64 2,.int .i64 1048576,.int .i64 1024,.int .i64 1024]] (bf _) (hr _)<|by simp only [den,bc]).mono fun v w' M=> ?_;obtain ⟨r',A,st⟩:=M;refine ⟨?_,st.wk tU aI⟩;simp only [den,bc,bR] at A;exact A.symm
structure oN (B:Nat) (w:ai) (a:ba):Prop where
 ex:∃ (E:Nat→Nat) (b:Nat) (h:Hp) (r:Rn) (q:Loc),vH E= .rv (.dg [.ptr b 0,.fJ]) h∧(∃ h2,jO aq 17 (x2 129 294) 100000 (.cl 21 [.ptr b 0,.str [99,97,116]] h)= .rv (.bool true) h2)∧r b=some q∧a=⟨q.ax,q.sh,none⟩∧(∀ k,Fr 17 r h k→B≤k)∧∀ T,HR aq 17 r T h w
theorem Nf (w:ai) (L:dY 544 pI w):aY aq 11 #[str pf] w (fun v w'=> ∃ a,v= .tuple #[.pointer (some a),.nilIface]∧oN w.heap.size w' a∧Wk w w'):=by
 obtain ⟨E,r,hr⟩:=HR.xd (P:=aq) (G:=17) (T:=544) tU aI L;obtain ⟨b,C,he,V⟩:=LM E;have J:=he;unfold vH at J;have aa:=zg xk ck wide J;obtain ⟨ad,M⟩:=aa;refine (M C.nx r w [str pf] (bf _) (hr _)<|by simp only [den,bc]).mono fun v w' ab=> ?_;obtain ⟨r',A,st⟩:=ab;cases hb:r' b with
 | none=>simp only [den,bc,hb] at A; cases A
 | some q=>
   simp only [den,bc,hb,bR] at A;refine ⟨⟨q.ax,q.sh,none⟩,A.symm,⟨E,b,C,r',q,he,V,hb,U,(fun k O=>Nat.le_of_not_lt fun Z=>by
    obtain ⟨i,o,ae,g1,g2,_⟩:=st.fB 17 (bf _) k Z O;obtain ⟨hm,_⟩:=rR aI g2;have :=tU i hm;omega),fun T=>⟨st.hr.live,st.hr.inj,fun i I ac=> ?_,st.hr.gX,st.hr.base⟩⟩,st.wk tU aI⟩
   rw [st.out i I];exact (hr<|i+1).new i (cQ st.nx I)<|Nat.lt_succ_self i
theorem JO {B:Nat} (w:ai) (a:ba) (I:oN B w a):aY aq 21 #[.pointer (some a),str [99,97,116]] w (fun v w'=>v= .bool true∧Md (fun k=>B≤k) w w'):=by
 obtain ⟨E,b,h,r,q,he,M,hb,rfl,L,hr⟩:=I;obtain ⟨C,ji⟩:=M;have O:=zg xk ck wide ji;obtain ⟨V,J⟩:=O;refine (J C.nx r w [.pointer (some ⟨q.ax,q.sh,none⟩),str [99,97,116]] (bf _) (hr _)<|by simp only [den,bc,hb,lO]).mono fun v w' U=> ?_;obtain ⟨r',A,st⟩:=U;simp only [den,bR] at A;exact ⟨A.symm,st.md.mono fun k _ h=>L k h⟩
end Go.Hb.u0
end
section
namespace Go.Hb.oR
open Go.Hb.dO
open Go.Hb.jD Go.Hb.j1 Go.Hb.uY Go.Hb.oQ Go.Hb.u0
def fK:List UInt8:= [99,97,116]
def gp:List UInt8:= [100,111,103]
def gN:List UInt8:= [101,109,117]
noncomputable def gA:List UInt8→Option Int:=eD 1 (c8 1 (fun _=>none) [gp,gN]) fun _=>none
noncomputable def gB:List UInt8→Option Int:=eD (-1) (c8 (-1) gA [fK]) gA
theorem nS (x:List UInt8):gA x=if x=gp∨x=gN then some 1 else none:=by
 unfold gA eD c8 gk fl;by_cases h:x=gp∨x=gN <;> simp [h]
theorem qX (x:List UInt8):gB x=if x=fK then some (-1) else gA x:=by
 unfold gB eD c8 gk fl;by_cases h:x=fK
 · have :gA x=none:=by rw [nS,h]; decide
   simp [h];rw [← h,this]; simp
 · simp [h]
theorem D9 {x:List UInt8} {o:Int} (h:gA x=some o):x∈[gp,gN]:=by
 rw [nS] at h;split at h
 · rename_i A; simpa using A
 · cases h
theorem Ea {x:List UInt8} :(∃ o,gB x=some o)↔x∈[fK,gp,gN]:=by
 rw [qX];constructor
 · rintro ⟨o,h⟩;split at h
   · rename_i A; simp [A]
   · have :=D9 h; simp only [ew] at this ⊢; exact .inr this
 · intro h;by_cases A:x=fK
   · rw [if_pos A]; exact ⟨_,rfl⟩
   · rw [if_neg A,nS,if_pos (by simp only [ew,BO,or_false] at h; exact h.resolve_left A)]; exact ⟨_,rfl⟩
theorem L6:∀ x o,gB x=some o→x.length≤64:=fun x o h=>by
 have :=Ea.1 ⟨o,h⟩;simp only [ew,BO,or_false] at this;rcases this with rfl | rfl | rfl <;> decide
theorem L5 {xs:List (List UInt8)} (h:gU gB xs) (A:xs.Pairwise fun a b=>a≤b):xs= [fK,gp,gN]:=
 DU h ⟨aI,fun y=>Ea.symm⟩ A aI
theorem L7:gQ gB [fK,gp,gN]= [45,99,97,116,10,43,100,111,103,10,43,101,109,117,10]:=by
 have A:gB fK=some (-1):=by rw [qX,if_pos rfl]
 have C:gB gp=some 1:=by rw [qX,if_neg aI,nS,if_pos (.inl rfl)]
 have E:gB gN=some 1:=by rw [qX,if_neg aI,nS,if_pos (.inr rfl)]
 show ns gB fK++(ns gB gp++(ns gB gN++ []))=_;unfold ns;rw [A,C,E];rfl
theorem OX {m:Nat} (h:dh (gr (fun _=>none) [gp,gN]) m):m≤500:=by
 have :=h.ge (l:= [gp,gN]) fun x ⟨o,A⟩=>by
  unfold gr at A;split at A
  · assumption
  · cases A
 exact cQ this aI
theorem OY {m:Nat} (h:dh (gr gA [fK]) m):m≤500:=by
 have :=h.ge (l:= [fK,gp,gN]) fun x ⟨o,A⟩=>by
  unfold gr at A;split at A
  · rename_i C; simp only [ew,BO,or_false] at C ⊢; exact .inl C
  · have :=D9 A; simp only [ew] at this ⊢; exact .inr this
 exact cQ this aI
theorem Kl:∃ x o,c8 1 (fun _=>none) [gp,gN] x=some o:=⟨gp,0,by unfold c8 gk fl; simp⟩
theorem Km:∃ x o,c8 (-1) gA [fK] x=some o:=⟨fK,0,by
 have :gA fK=none:=by rw [nS]; decide
 unfold c8 gk fl; simp [this]⟩
theorem iG.go {B bl bs:Nat} {vb:ah} {J:ba} {g:List UInt8→Option Int} {hist:List (List UInt8→Option Int)} {A:Int} {l:List (List UInt8)} {w w':ai} {v:ah} (h:iG B bl bs vb J g hist A l w v w') (ac:∀ x∈l,dL x=true) (hm:∀ m,dh (gr g l) m→m≤500) (I:∃ x o,c8 A g l x=some o):
 v= .int .i64 0∧∃ m C E,cR w' B bl bs C J (eD A (c8 A g l) g) m (hist++ [c8 A g l]) E∧Md (jc bl bs vb) w w'∧(∀ k,C.ownBlock=some k→vb.ownBlock=some k∨w.heap.size≤k):=by
 rcases h with ⟨⟨x,ad,L⟩,_⟩ | ⟨_,m,ab,h⟩
 · rw [ac x ad] at L; cases L
 · rcases h with ⟨h,_⟩ | ⟨_,rfl,h⟩
   · have :=hm m ab; omega
   · rcases h with ⟨h,_⟩ | ⟨C,E,_,M,O,V⟩
     · obtain ⟨ks,_,Z,aa⟩:=h;have :=ku Z;subst this;obtain ⟨x,o,I⟩:=I;exact absurd ((aa<|str x).1<|(tG _ _).2 ⟨x,o,U,I⟩)<|by simp
     · exact ⟨U,m,C,E,M,O,V⟩
theorem oN.wk {B:Nat} {w w':ai} {a:ba} (h:oN B w a) (hm:Wk w w'):oN B w' a:=by
 obtain ⟨E,b,h,r,q,he,C,hb,rfl,A,hr⟩:=h;exact ⟨E,b,h,r,q,he,C,hb,U,A,fun T=>(hr T).dA hm fun _ _ _ _ _ h=>h⟩
theorem Kd (B bl bs:Nat) (vb:ah) (A:ba) (g:List UInt8→Option Int) (n:Nat) (hist:List (List UInt8→Option Int)) (cs:List ah) (x:List UInt8) (R:ai→ah→ai→Prop) (w:ai) (E:cR w B bl bs vb A g n hist cs) (I:g x=none) (J:∀ w1,Wk w w1→aY aq 21 #[.pointer (some A),str x] w1 (R w1)):
 aY aq 20 (bd [aA bl,str x]) w (fun v w'=> ∃ w1,Wk w w1∧R w1 v w'):=by
 refine enter func20 U ntmps20 U<|aP 10 U<|e<|aH (l9 B bl bs vb A g n hist cs x w E) U ?_;rintro aa M ⟨rfl,C⟩;refine aC 9 U<|cd U (fun h=>absurd h<|by rw [I]; decide) fun V=>bD 6 U<|cd U (fun h=>absurd h<|by rw [I]; decide) fun O=>az 6 U<|p (pD u32 U U)<|aj 1 U<|gb (t:=14) U (fun Z=> ?_) fun h=>absurd ((U).symm.trans h) dw;exact aj 3 U<|bo U (ay U<|(E.wk C).obj.aG 0)<|aj 1 U<|eg U U U<|aH (J M C) U fun v20 ab L=>p (rG U)<|p aT<|ar 3 U<|aE U<|⟨_,C,L⟩
theorem QH (w:ai) (aC:dY 544 pI w):
 aY aq 6 (bd []) w (fun v w'=>v= .bool true∧Wk w w'):=by
 refine enter func6 U ntmps6 U<|aP 7 U<|p (dE (ps:= [(0,.int .i64 9),(1,.int .i64 2),(2,.int .i64 1048576),(3,.int .i64 1024),(4,.int .i64 1024)]) (L:= [.int .i64 9,.int .i64 2,.int .i64 1048576,.int .i64 1024,.int .i64 1024]) PI U<|U)<|e<|aH (KB w aC) U ?_;rintro bY aK ⟨rfl,ad⟩;have a7:=aC.mono ad fun _ _ h=>h;refine p mv<|aj 3 U<|p aT<|aj 5 U<|e<|aH (Nf aK a7) U ?_;rintro bO A ⟨C,rfl,aN,ap⟩;have bN:=ad.size;have bH:=ap.size;refine p mv<|aj 2 U<|p aT<|p aT<|aj 4 U<|p mv<|e<|aH (Fc C A) U ?_;rintro bP bm ⟨bl,bs,rfl,bh,bi,bG,a8,a9,au⟩;have aZ:cR bm A.heap.size bl bs (.slice none 0 0) C (fun _=>none) 0 [] []:=⟨a8,a9,⟨[],yi,rfl,fun k=>⟨fun ⟨v,h⟩=>(by rw [q8] at h; cases h),fun h=>by simp at h⟩⟩,ag,fun x h=>(by cases h),⟨bh,bi⟩,eL _ _ _ _,(fun h=>by simp [dM] at h),trivial⟩
 have bI:=au.size;refine p aT<|aj 4 U<|p mv<|p (pD u32 U U)<|aj 1 U<|gb (t:=20) U (fun bv=> ?_) fun h=>absurd ((U).symm.trans h) dw;refine bo U mv<|eg U U U<|JZ (L:= [str gp,str gN]) eu U U U U fun Z am br ae aO=> ?_;have bJ:=ae.size;have a0:=aZ.wk ae.md;have a5:bQ am.heap (some ⟨Z,0,none⟩) [gp,gN]:=aU.dB (show aD am.heap Z ([gp,gN].map str) from ⟨_,aO⟩);refine eg U U U<|aH (B4 A.heap.size bl bs (.slice none 0 0) C (fun _=>none) 0 [] [] [gp,gN] (some ⟨Z,0,none⟩) 2 am a0 a5 aI aI aI) U fun bR aG a3=> ?_;obtain ⟨rfl,V,al,ab,E,aS,ba⟩:=iG.go a3 aI (fun m h=>OX h) Kl;have E:cR aG A.heap.size bl bs al C gA V [c8 1 (fun _=>none) [gp,gN]] ab:=E;have av:Wk A aG:=(au.trans ae.md).trans' aS (fun k ak h=>by
  rcases h with h | h | h;omega;omega;simp [dM] at h)
 have bK:=av.size;have bE:ab.length=1:=(eR.len E.bk).trans rfl;have aF:∀ k,al.ownBlock=some k→A.heap.size≤k:=fun k h=>by
  rcases ba k h with h | h;simp [dM] at h;omega
 refine aj 3 U<|gs (t:=26) U (fun bx=> ?_) fun h=>absurd U h;refine bo U mv<|eg U U U<|e9 eu U U fun aa an bt ah aQ=> ?_;have bL:=ah.size;have a1:=E.wk ah.md;have a6:bQ an.heap (some ⟨aa,0,none⟩) [fK]:=aU.dB (show aD an.heap aa ([fK].map str) from aQ);refine eg U U U<|aH (Cp A.heap.size bl bs al C gA V _ ab [fK] (some ⟨aa,0,none⟩) 1 an a1 a6 aI aI ag) U fun bS ao a4=> ?_;obtain ⟨rfl,O,M,I,J,aV,bb⟩:=iG.go a4 aI (fun m h=>OY h) Km;have J:cR ao A.heap.size bl bs M C gB O ([c8 1 (fun _=>none) [gp,gN]]++ [c8 (-1) gA [fK]]) I:=J;have aw:Wk A ao:=(av.trans ah.md).trans' aV (fun k ak h=>by
  rcases h with h | h | h;omega;omega;have :=aF k h; omega)
 have bM:=aw.size;have bF:I.length=2:=(eR.len J.bk).trans rfl;have bg:∀ k,M.ownBlock=some k→A.heap.size≤k:=fun k h=>by
  rcases bb k h with h | h;exact aF k h;omega
 refine aj 3 U<|gs (t:=32) U (fun bz=> ?_) fun h=>absurd U h;refine bo U mv<|eg U U U<|aH (Kh A.heap.size bl bs M C gB O _ I fK ao J<|by rw [qX,if_pos U]) U ?_;rintro bT bn ⟨rfl,ac⟩;refine aj 3 U<|gb (t:=37) U (fun bA=> ?_) fun h=>absurd ((U).symm.trans h) dw;refine bo U mv<|eg U U U<|aH (Ki A.heap.size bl bs M C gB O _ I gp bn (J.wk ac)<|by rw [qX,if_neg aI,nS,if_pos (.inl U)]) U ?_;rintro bU bp ⟨rfl,ax⟩;have aA:=(J.wk ac).wk ax;refine aj 2 U<|gb (t:=41) U (fun bB=> ?_) fun h=>absurd ((U).symm.trans h) dw;refine bo U mv<|eg U U U<|aH (A7 A.heap.size bl bs M C gB O _ I bp aA L6) U ?_;rintro bV bq ⟨xs,bc,bf,rfl,ay⟩;obtain rfl :=L5 bc bf;rw [L7] at*;have a2:=aA.wk ay;refine aj 3 U<|gs (t:=46) U (fun bC=> ?_) fun h=>absurd U h;refine bo U mv<|eg U U U<|aH (Hs A.heap.size bl bs M C gB (c8 (-1) gA [fK]) O V _ I bq a2 (by rw [show gx (c8 (-1) gA [fK]) gB=gA from yG E.nz]; exact E.eT) E.nB ag) U ?_;rintro bW aJ ⟨rfl,bj,aL,aB,aW,bu⟩;rw [show gx (c8 (-1) gA [fK]) gB=gA from yG E.nz] at aB;have az:Wk A aJ:=(((aw.trans ac).trans ax).trans ay).trans' aW (fun k ak h=>by
  rcases h with h | h | h;omega;omega;have :=bg k h; omega)
 refine aj 2 U<|gb (t:=50) U (fun bD=> ?_) fun h=>absurd ((U).symm.trans h) dw;refine bo U mv<|eg U U U<|aH (Kd A.heap.size bl bs bj C gA V _ aL fK (fun w1 v w'=>v= .bool true∧Md (fun k=>aK.heap.size≤k) w1 w') aJ aB (by rw [nS]; decide) fun w1 aM=>JO w1 C<|oN.wk (oN.wk aN az) aM) U ?_;rintro bX bZ ⟨w1,aR,rfl,aX⟩;exact ar 5 U<|aE U<|⟨U,((ad.trans<|ap.trans az).trans aR).trans' aX fun k ak h=>by omega⟩
end Go.Hb.oR
end
section
namespace Go.Hb
open Go.Hb.dO
def m7 (e:Int):List PanicEntry:= [{v:= .iface 33 (.int .i64 e),recovered:=false}]
def ON:Except Nat (Nat×Nat)→Nat
 | .ok (n,_)=>n
 | .error _=>0
def OO:Except Nat (Nat×Nat)→Nat
 | .ok (_,p)=>p
 | .error _=>0
def rM:Except Nat (Nat×Nat)→Nat
 | .ok _=>0
 | .error e=>e
def AH (r:Except Nat (Nat×Nat)):ah:= .tuple #[.int .u64 (ON r:Nat),.int .i64 (OO r:Nat),.int .i64 (rM r:Nat)]
theorem AI {s:List UInt8} {a e:Nat} (h:bJ s a= .error e):e=60∨e=61:=by
 unfold bJ at h;split at h
 · cases h; exact .inr rfl
 · split at h
   · cases h; exact .inl rfl
   · split at h
     · cases h; exact .inr rfl
     · cases h
theorem OS {s:List UInt8} {a:Nat} (h:((rM (bJ s a):Nat):Int)=0):∃ n p,bJ s a= .ok (n,p):=by
 cases hX:bJ s a with
 | ok x=>exact ⟨x.1,x.2,rfl⟩
 | error e=>
   rw [hX] at h;have :=AI hX;simp only [rM] at h; omega
theorem OQ {s:List UInt8} {a:Nat} (h:¬((rM (bJ s a):Nat):Int)=0):bJ s a= .error (rM<|bJ s a):=by
 cases hX:bJ s a with
 | ok x=>rw [hX] at h; simp [rM] at h
 | error e=>rfl
theorem GD {s:List UInt8} {a n:Nat} :(s.take<|a+n).drop a=(s.drop a).take n:=by rw [IF,Nat.add_sub_cancel_left]
theorem D4 {s:List UInt8} {a e:Nat} (h:bJ s a= .error e):dK s a= .error e:=by unfold dK; rw [h]
theorem D5 {s:List UInt8} {a n p:Nat} (h:bJ s a= .ok (n,p)) (hn:255 < n):dK s a= .error 62:=by unfold dK; rw [h]; exact if_pos hn
theorem D6 {s:List UInt8} {a n p:Nat} (h:bJ s a= .ok (n,p)) (hn:¬255 < n) (hp:s.length < p+n):dK s a= .error 60:=by unfold dK; rw [h]; simp only; rw [if_neg hn,if_pos hp]
theorem D7 {s:List UInt8} {a n p:Nat} (h:bJ s a= .ok (n,p)) (hn:¬255 < n) (hp:¬s.length < p+n):dK s a= .ok ((s.drop p).take n,p+n):=by unfold dK; rw [h]; simp only; rw [if_neg hn,if_neg hp]
theorem JD:∀ r:Fin 256,sC.wrap (jV sC.bits ((r.val:Nat):Int) &&& jV sC.bits 127).toNat=((r.val % 128:Nat):Int):=by decide+kernel
theorem JC (b:UInt8):sC.wrap (jV sC.bits (b.toNat:Int) &&& jV sC.bits 127).toNat=((b.toNat % 128:Nat):Int):=JD ⟨b.toNat,oM b⟩
theorem FI (i:Nat):(128:Nat) ^ i=2 ^ (7 *i):=by rw [Nat.pow_mul]
theorem Po {x i:Nat} (hi:i≤9):qe.wrap (((x:Nat):Int)*2 ^ min ((7 *i:Nat):Int).toNat qe.bits)=((x*128 ^ i % 18446744073709551616:Nat):Int):=by
 have A:(qe.bits:Nat)=64:=rfl;rw [Int.toNat_natCast,A,sI ag,IntKind.wrap_u64,FI];generalize 7 *i=m;rw [show ((x:Nat):Int)*2 ^ m=((x*2 ^ m:Nat):Int) by simp];omega
theorem N3 {n x i:Nat} (hi:i≤9) (hn:n < 128 ^ i):qe.wrap (jV qe.bits (n:Int) ||| jV qe.bits ((x*128 ^ i % 18446744073709551616:Nat):Int)).toNat=((n+x*128 ^ i % 18446744073709551616:Nat):Int):=by
 have C:(qe.bits:Nat)=64:=rfl;rw [FI] at hn ⊢;have I:x*2 ^ (7 *i) % 18446744073709551616=2 ^ (7 *i)*(x % 2 ^ (64 - 7 *i)):=by
  rw [show (18446744073709551616:Nat)=2 ^ (7 *i)*2 ^ (64 - 7 *i) by rw [← Nat.pow_add,show 7 *i+(64 - 7 *i)=64 by omega],BS x,Nat.mul_mod_mul_left]
 rw [I,C,HV,HV,BitVec.toNat_or,HW,HW];have A:x % 2 ^ (64 - 7 *i) < 2 ^ (64 - 7 *i):=Nat.mod_lt _<|Nat.two_pow_pos _;generalize x % 2 ^ (64 - 7 *i)=z at A;have hle:(2:Nat) ^ (7 *i)≤2 ^ 64:=sJ aI ag;have hmul:2 ^ (7 *i)*z+n < 2 ^ 64:=by
  have E:2 ^ (7 *i)*(z+1)≤2 ^ (7 *i)*2 ^ (64 - 7 *i):=Jc _ A;rw [← Nat.pow_add,show 7 *i+(64 - 7 *i)=64 by omega,Nat.mul_succ] at E;omega
 rw [BR ag,BR (show 2 ^ (7 *i)*z < 2 ^ 64 by omega),Nat.or_comm,← Nat.two_pow_add_eq_or_of_lt hn,jt ag,Nat.add_comm]
theorem vV {s:List UInt8} {a i n:Nat} (hi:i≤9) (ha:a+i < s.length) (hn:n=eW ((s.drop a).take i)) (hb:i≤8∨(s.getD (a+i) 0).toNat≤1):n+(s.getD (a+i) 0).toNat % 128 *128 ^ i % 18446744073709551616=eW ((s.drop a).take<|i+1):=by
 have E:((s.drop a).take i).length=i:=by rw [bX,fY]; omega
 have I:(s.drop a)[i]? =some (s.getD (a+i) 0):=by
  rw [kz,cW,cI ag]; rfl
 rw [I6,I,Jg,zQ,E,hn,eW,eW,Nat.mul_zero,lO];congr 1;have hm:(s.getD (a+i) 0).toNat % 128 < 128:=Nat.mod_lt _ aI;have A:i≤8∨(s.getD (a+i) 0).toNat % 128≤1:=hb.imp id fun h=>ag;generalize (s.getD (a+i) 0).toNat % 128=x at hm A ⊢;rw [BS,BR];have M:(128:Nat) ^ 9=9223372036854775808:=aI;rcases A with hb | hb
 · have J:128 ^ i*x < 128 ^ i*128:=Nat.mul_lt_mul_of_pos_left hm<|Nat.pow_pos aI;have L:(128:Nat) ^ i*128=128 ^ (i+1):=rfl;have C:(128:Nat) ^ (i+1)≤128 ^ 9:=sJ aI ag;omega
 · have C:(128:Nat) ^ i≤128 ^ 9:=sJ aI ag;have O:128 ^ i*x≤128 ^ i*1:=Jc _ hb;omega
theorem OT (s:List UInt8) (a:Nat) (w:ai) (ao:s.length≤1048576) (ha:a≤s.length):
 aY aq 122 (bd [str s,aQ a]) w (fun v w'=>v=AH (bJ s a)∧Wk w w'):=by
 refine enter func122 U ntmps122 U<|aP 13 U<|gs (t:=11) U (fun h=>absurd h ag) fun an=>aC 7 U<|cd U (fun ab=> ?_) fun ab=> ?_;exact aB 9 U<|f3 U U U U<|⟨by rw [wZ (k:=0) (lB ag (fun j O=>by omega)<|.inr<|.inl ag) ag ag]; rfl,Md.refl _ _⟩
 refine bD 9 U<|lp (fun L Z V=> ∃ (i n:Nat),(i≤10)∧(∀ j,j < i→a+j < s.length∧128≤(s.getD (a+j) 0).toNat)∧(i≤9→n=eW ((s.drop a).take i))∧(Wk w V)∧(Sl Z [(0,str s),(1,aQ a),(4,.int .u64 (n:Nat)),(17,aQ i)])∧(10 - i=L)) _ ⟨0,0,ag,(fun j O=>by omega),(fun _=>rfl),(Md.refl _ _),U,U⟩ ?_;rintro L Z V ⟨i,n,hi,E,hn,C,am,rfl⟩;refine bG am<|bV 6 U<|cd U (fun ac=> ?_) fun ac=> ?_;refine bD 21 U<|cd U (fun ad=> ?_) fun ad=> ?_;exact aB 11 U<|tr<|bg 2 U<|f3 U U U U<|⟨by rw [wZ (k:=i) (lB ag E<|.inr<|.inl ag) ag ag]; rfl,C⟩
 refine az 7 U<|p (bW<|a+i)<|p (dc u9 U U ag)<|aC 4 U ?_;have al:n < 128 ^ i:=by
  have M:=vU<|(s.drop a).take i;rw [← hn ag] at M;have aa:((s.drop a).take i).length=i:=by rw [bX,fY]; omega
  rwa [aa] at M
 refine az 3 U<|p (dP U U<|JC _)<|p (jG sf Bf U<|jt ag)<|aj 1 U<|p (Ah ((7 *i:Nat):Int) U U<|uj ag ag)<|p (shl U U ag<|Po ag)<|p (Cu U U<|N3 ag al)<|aC 12 U<|cd U (fun ae=> ?_) fun ae=> ?_;have ak:∀ j,j < i+1→a+j < s.length∧128≤(s.getD (a+j) 0).toNat:=fun j O=>by
  rcases dN j i with h | h;exact E j h;obtain rfl :j=i:=ag;exact ⟨ag,ag⟩
 exact az 6 U<|p (bW<|i+1)<|ar 2 U<|tn<|⟨_,ag,i+1,n+(s.getD (a+i) 0).toNat % 128 *128 ^ i % 18446744073709551616,ag,ak,(fun h=>vV ag ag (hn ag)<|.inl ag),C,U,U⟩
 refine az 6 U<|gs (t:=45) U (fun ah=> ?_) fun ah=> ?_;refine aC 6 U<|cd U (fun I=> ?_) fun I=> ?_;refine bD 2 U<|cd U (fun I=> ?_) fun I=> ?_;refine aB 12 U<|tr<|bg 2 U<|f3 U U U U ?_;have A:=lB (s:=s) (a:=a) (k:=i) ag E<|.inr<|.inr ag;exact ⟨by rw [rN A ag ag ag]; rfl,C⟩;refine az 8 U<|p (bW<|a+i)<|p (bW<|a+i+1)<|ar 8 U<|tr<|bg 2 U<|f3 U U U U ?_;exfalso; omega;refine az 4 U<|gs (t:=51) U (fun J=> ?_) fun J=> ?_;refine aC 6 U<|cd U (fun I=> ?_) fun I=> ?_;refine aB 12 U<|tr<|bg 2 U<|f3 U U U U ?_;have A:=lB (s:=s) (a:=a) (k:=i) ag E<|.inr<|.inr ag;exact ⟨by rw [rN A ag ag ag]; rfl,C⟩;refine az 8 U<|p (bW<|a+i)<|p (bW<|a+i+1)<|ar 8 U<|tr<|bg 2 U<|f3 U U U U ?_;have A:=lB (s:=s) (a:=a) (k:=i) ag E<|.inr<|.inr ag;exact ⟨by rw [wY A ag ag ag,← vV ag ag (hn ag) ag]; rfl,C⟩;refine aj 3 U<|p aT<|aj 11 U<|p (bW<|a+i)<|p (bW<|a+i+1)<|ar 8 U<|tr<|bg 2 U<|f3 U U U U ?_;exfalso; omega;refine aj 3 U<|p aT<|aj 7 U<|gs (t:=51) U (fun J=> ?_) fun J=> ?_;refine aC 6 U<|cd U (fun I=> ?_) fun I=> ?_;refine aB 12 U<|tr<|bg 2 U<|f3 U U U U ?_;have A:=lB (s:=s) (a:=a) (k:=i) ag E<|.inr<|.inr ag;exact ⟨by rw [rN A ag ag ag]; rfl,C⟩;refine az 8 U<|p (bW<|a+i)<|p (bW<|a+i+1)<|ar 8 U<|tr<|bg 2 U<|f3 U U U U ?_;have A:=lB (s:=s) (a:=a) (k:=i) ag E<|.inr<|.inr ag;exact ⟨by rw [wY A ag ag ag,← vV ag ag (hn ag) ag]; rfl,C⟩;refine aj 3 U<|p aT<|aj 11 U<|p (bW<|a+i)<|p (bW<|a+i+1)<|ar 8 U<|tr<|bg 2 U<|f3 U U U U ?_;have A:=lB (s:=s) (a:=a) (k:=i) ag E<|.inr<|.inr ag;exact ⟨by rw [wY A ag ag ag,← vV ag ag (hn ag) ag]; rfl,C⟩;refine aB 2 U<|cg<|bg 10 U<|f3 U U U U ?_;obtain rfl :i=10:=ag;exact ⟨by rw [Gc (lB ag E<|.inl U)]; rfl,C⟩
theorem lE (C:ah) (b:Bool) (e:Int) (w:ai):
 oS aq 72 (bd [C,.bool b,.int .i64 e]) w (fun v w'=>v=kq #[]∧b=true∧w'=w) (fun c w'=>c=m7 e∧b=false∧w'=w):=by
 refine th func72 U ntmps72 U<|bV 6 U<|cb U (fun A=> ?_) fun A=> ?_;exact az 2 U<|p (Ag wi U)<|N8 U fun σ' E=>⟨U,by simpa using A,U⟩
 refine aB 1 U<|tu<|f0 U ?_;exact ⟨U,by simpa using A,U⟩
theorem rn (rb:Nat) (s:List UInt8) (a:Nat) (w:ai) (E:aD w.heap rb [str s,.int .i64 (a:Nat)]) (ab:s.length≤1048576) (ha:a≤s.length):
 oS aq 70 (bd [.pointer (some ⟨rb,0,none⟩)]) w (fun v w'=> ∃ n p,bJ s a= .ok (n,p)∧v= .int .u64 (n:Nat)∧aD w'.heap rb [str s,.int .i64 (p:Nat)]∧Md (fun k=>k=rb) w w') (fun c w'=> ∃ e,bJ s a= .error e∧c=m7 e∧Md (fun k=>k=rb) w w'):=by
 refine th func70 U ntmps70 U<|bV 6 U<|fh fun C=>aW [0,1,2] U C<|c9 3 U C (E.aG 0)<|aW [4,5,6] U C<|c9 7 U C (E.aG 1)<|he 8 U an<|aH (OT s a w.drew ab ha) U ?_;rintro ag L ⟨rfl,A⟩;have A:=Md.gI A;have J:(fun w'=>Wk w w') L:=A;refine ⟨J,?_⟩;refine hp 9 U an (fun _ _=>mv) J<|aW [10,11,12,13,14,15] U J<|hn an<|fV 7 U<|eP U (fN jF (lE _ _ _ L) U fun ah ak Z=> ?_) fun c w' I σ' ae=>⟨_,OQ (of_decide_eq_false I.2.1),I.1,by rw [I.2.2]; exact A.mono fun _ _ h=>h.elim⟩
 obtain ⟨rfl,ac,rfl⟩:=Z;obtain ⟨n,ad,aa⟩:=OS<|of_decide_eq_true ac;have M:=Wk.B A E;refine aj 8 U<|e<|st fT U U (U) (M) (by simp) fun al V O=>ar 9 U<|tu<|f1 U U ?_;rw [aa] at*;exact ⟨n,ad,U,U,O,Md.trans (A.mono fun _ _ h=>h.elim) V⟩
theorem G9 (rb:Nat) (s:List UInt8) (a n:Nat) (w:ai) (I:aD w.heap rb [str s,.int .i64 (a:Nat)]) (ak:s.length≤1048576) (ha:a≤s.length) (ah:n≤1048576):
 oS aq 123 (bd [.pointer (some ⟨rb,0,none⟩),.int .i64 (n:Nat)]) w (fun v w'=>a+n≤s.length∧v=str ((s.drop a).take n)∧aD w'.heap rb [str s,.int .i64 ((a+n:Nat):Int)]∧Md (fun k=>k=rb) w w') (fun c w'=>s.length < a+n∧c=m7 60∧Md (fun k=>k=rb) w w'):=by
 refine th func123 U ntmps123 U<|bV 6 U<|fh fun C=>aW [0,1,2,3,4] U C<|c9 5 U C (I.aG 0)<|aW [6,7,8,9] U C<|c9 10 U C (I.aG 1)<|aW [11,12] U C<|Mj 13 U an U (fN jF (lE _ _ _ w.drew) U fun al M ac=> ?_) fun c w' J σ' ae=>⟨by have :=of_decide_eq_false J.2.1; omega,J.1,by rw [J.2.2]; exact (Md.refl _ _).drew⟩
 obtain ⟨rfl,V,L⟩:=ac;have V:=of_decide_eq_true V;have O:aD M.heap rb [str s,.int .i64 (a:Nat)]:=by rw [L]; exact I
 have aa:Md (fun k=>k=rb) w M:=by rw [L]; exact (Md.refl _ _).drew
 have ad:(fun w'=>Wk w w') M:=by rw [L]; exact (Md.refl _ _).drew
 refine ⟨ad,?_⟩;refine hn an<|fV 6 U<|p (ay U<|O.aG 1)<|aj 1 U<|p (bW<|a+n)<|aj 2 U<|e<|st fT U U (U) (O) (by simp) fun am ab Z=> ?_;have E:=Z;exact aC 3 U<|fh fun A=>aW [0,1,2] U A<|c9 3 U A (E.aG 0)<|aW [4,5,6] U A<|c9 7 U A (E.aG 1)<|aW [8] U A<|hp 9 U an (fun _ _=>pH<|a) A<|aW [10,11,12] U A<|c9 13 U A (E.aG 1)<|hp 14 U an (fun _ _=>ox u9 U U U ag) A<|aW [15] U A<|hn an<|bg 2 U<|tu<|f1 U U<|⟨ag,by rw [← GD]; rfl,E,(aa.trans ab).drew⟩
theorem zx (rb:Nat) (s:List UInt8) (a:Nat) (w:ai) (M:aD w.heap rb [str s,.int .i64 (a:Nat)]) (J:s.length≤1048576) (ha:a≤s.length):
 oS aq 71 (bd [.pointer (some ⟨rb,0,none⟩)]) w (fun v w'=> ∃ f p,dK s a= .ok (f,p)∧v=str f∧aD w'.heap rb [str s,.int .i64 (p:Nat)]∧Md (fun k=>k=rb) w w') (fun c w'=> ∃ e,dK s a= .error e∧c=m7 e∧Md (fun k=>k=rb) w w'):=by
 refine th func71 U ntmps71 U<|aP 8 U<|eP U (fN qI (rn rb s a w M J ha) U fun v5 ah ac=> ?_) fun c w' A σ' I=>by obtain ⟨e,he,ae,Z⟩:=A; exact ⟨e,D4 he,ae,Z⟩
 obtain ⟨n,q,C,rfl,V,E⟩:=ac;obtain ⟨al,am,an⟩:=kS C;refine aj 8 U<|eP U (fN jF (lE _ _ _ ah) U fun v9 ak ad=> ?_) fun c w' A σ' I=>⟨62,D5 C (by have :=of_decide_eq_false A.2.1; omega),A.1,by rw [A.2.2]; exact E⟩
 obtain ⟨rfl,L,rfl⟩:=ad;have L:=of_decide_eq_true L;refine aj 6 U<|p (jG u3 oz U<|km ag)<|eP U (fN Cz (G9 rb s q n ak V J ag ag) U fun ap au ab=> ?_) fun c w' A σ' I=>⟨60,D6 C ag A.1,A.2.1,E.trans A.2.2⟩
 obtain ⟨ao,rfl,O,aa⟩:=ab;exact ar 4 U<|tu<|f1 U U<|⟨_,_,D7 C ag ag,U,O,E.trans aa⟩
theorem Ha {s:List UInt8} {i:Nat} (h:i < s.length):(s.take<|i+1).drop i= [s.getD i 0]:=by
 rw [IF,show i+1 - i=1 by omega,drop_cons 0 h]; rfl
theorem QA (b:UInt8):dL [b]=gJ b:=by
 unfold dL gG;cases h:gJ b <;> simp [h]
def jH:List UInt8×List UInt8:=([],[])
def iN (r:List UInt8×List UInt8):List ah:= [str r.1,str r.2]
theorem Ga {h:Array Obj} {a:Option ba} {rs:List (List UInt8×List UInt8)} {i:Nat} (A:aU h a (rs.flatMap iN)) (hi:i < rs.length):∀ j,j < 2→Hb.aO h (bk a) (fo a+i*2 +j)= [str (rs.getD i jH).1,str (rs.getD i jH).2][j]? :=
 mZ (f:=iN) (m:=2) (fun _=>rfl) A (by rw [cW,cI hi]; rfl)
theorem Gb {rs:List (List UInt8×List UInt8)} (h:0 < rs.length):rs.flatMap iN≠[]:=o8 (f:=iN) (m:=2) (fun _=>rfl) aI h
variable {ls:Nat} {t:List UInt8} {rs:List (List UInt8×List UInt8)}
theorem nT {b:Bool} (h:(!b)=true):b=false :=by cases b; rfl; cases h
theorem rU (h:ls < 1∨64 < ls∨256 < rs.length):fL ls t rs=false :=by
 unfold fL;rw [decide_eq_false ag]; rfl
theorem xe (h:t≠[]) (A:letE t≠(t,0)):fL ls t rs=false :=by
 unfold fL;rw [decide_eq_false h,decide_eq_false A]; simp
theorem oo {i:Nat} (h:i < rs.length) (A:jr (rs.getD i jH)=false):fL ls t rs=false :=by
 unfold fL;rw [Cb jH h A]; simp
theorem Gq (h:¬(ls < 1∨64 < ls∨256 < rs.length)) (A:t= []∨letE t=(t,0)) (C:∀ i,i < rs.length→jr (rs.getD i jH)=true):fL ls t rs=true :=by
 unfold fL;rw [decide_eq_true ag,Cc jH C];rcases A with A | A <;> simp [A]
theorem Gs {r:List UInt8×List UInt8} (h:r.1= []):jr r=false :=by unfold jr; simp [h]
theorem AP {r:List UInt8×List UInt8} (h:(gG r.1 && decide (r.1.length≤32))=false):jr r=false :=by unfold jr; rw [h]; simp
theorem AQ {r:List UInt8×List UInt8} (h:(gG r.2 && decide (r.2.length≤32))=false):jr r=false :=by unfold jr; rw [h]; simp
theorem Gt {r:List UInt8×List UInt8} (h0:r.1≠[]) (h:(gG r.1 && decide (r.1.length≤32))=true) (A:(gG r.2 && decide (r.2.length≤32))=true):jr r=true :=by unfold jr; rw [h,A,decide_eq_true h0]; rfl
theorem FJ (x:List UInt8) (m:Nat) (w:ai) (ab:x.length≤1048576):
 aY aq 125 (bd [str x,aQ m]) w (fun v w'=>v= .bool (gG x && decide (x.length≤m))∧Wk w w'):=by
 refine enter func125 U ntmps125 U<|bV 14 U<|lp (fun I V E=> ∃ (i:Nat),(i≤x.length)∧(∀ j,j < i→gJ (x.getD j 0)=true)∧(Wk w E)∧(Sl V [(0,str x),(1,aQ m),(7,aQ (x.length)),(8,aQ i)])∧(x.length - i=I)) _ ⟨0,ag,(fun j M=>by omega),(Md.refl _ _),U,U⟩ ?_;rintro I V E ⟨i,hi,O,A,aa,rfl⟩;refine bG aa<|bV 6 U<|cd U (fun Z=> ?_) fun Z=> ?_;refine az 15 U<|p (bW<|i+1)<|p (ox u9 U U U ag)<|e<|aH (Bi ((x.take<|i+1).drop i) E<|by rw [Ha ag]; simp) U fun ac ad L=> ?_;rw [Ha ag,QA] at L;obtain ⟨rfl,J⟩:=L;refine aC 3 U<|cb U (fun C=> ?_) fun C=> ?_;exact aB 8 U<|tr<|bg 2 U<|aE U<|⟨by rw [sX (i:=i) ag (by simpa using C)]; rfl,A.trans J⟩
 exact az 4 U<|p (bW<|i+1)<|ar 2 U<|tn<|⟨_,ag,i+1,ag,(fun j M=>by rcases dN j i with h | h <;> first | exact O j h | (rw [show j=i by omega]; simpa using C)),(A.trans J),U,U⟩
 exact aB 2 U<|cg<|bg 12 U<|aE U<|⟨by rw [vm (fun j M=>O j ag),Bool.true_and]; exact bv ag,A⟩
theorem Pc (ls:Nat) (t:List UInt8) (rs:List (List UInt8×List UInt8)) (ra:Option ba) (rc:Nat) (v3 v4 v5 v6:ah) (w:ai) (ao:aU w.heap ra (rs.flatMap iN)) (a7:ls≤64) (bb:t.length≤1048576) (a8:rs.length≤1048576) (aX:∀ r∈rs,r.1.length≤1048576∧r.2.length≤1048576):
 aY aq 73 (bd [.agg #[aQ ls,str t,.slice ra rs.length rc,v3,v4,v5,v6]]) w (fun v w'=>v= .bool (fL ls t rs)∧Wk w w'):=by
 refine enter func73 U ntmps73 U<|aP 2 U<|e<|lV U fun am w1 a4 M C=>aj 7 U<|p (ay U<|C.aG 0)<|aj 2 U<|gs (t:=10) U (fun aV=> ?_) fun aV=> ?_;exact aj 4 U<|p mv<|ar 15 U<|aE U<|⟨(congrArg bB<|rU (t:=t) (rs:=rs)<|.inl (show ls < 1 by omega)).symm,M.md⟩
 refine aj 1 U<|bo U (ay U<|C.aG 0)<|aj 3 U<|gs (t:=15) U (fun aW=> ?_) fun aW=> ?_;exact ar 15 U<|aE U<|⟨(congrArg bB<|rU (t:=t) (rs:=rs)<|.inr<|.inl (show 64 < ls by omega)).symm,M.md⟩
 refine aj 1 U<|bo U (ay U<|C.aG 2)<|aC 5 U<|cd U (fun aS=> ?_) fun aS=> ?_;exact aB 7 U<|aE U<|⟨(congrArg bB<|rU<|.inr<|.inr (show 256 < rs.length by omega)).symm,M.md⟩
 refine bD 2 U ?_;refine ei (fun ax ak=> ∃ (a2:Unit),(t= []∨letE t=(t,0))∧(Wk w ak)∧(aD ak.heap am [aQ ls,str t,.slice ra rs.length rc,v3,v4,v5,v6])∧(Sl ax [(1,aA am)])) ?_ ?_;refine aP 3 U<|p (ay U<|C.aG 1)<|e<|aH (M4 t w1 ag) U ?_;rintro v24 bc ⟨rfl,ap⟩;have I:=M.md.trans ap;have E:=Wk.B ap C;refine p mv<|aj 9 U<|p (ay U<|E.aG 1)<|aj 2 U<|gs (t:=30) U (fun O=> ?_) fun O=> ?_;refine aj 3 U<|gs (t:=33) U (fun ab=> ?_) fun ab=> ?_;exact aj 5 U<|p (rG U)<|ar 9 U<|tr<|aE U<|⟨(congrArg bB<|xe O fun h=>by rw [h] at ab; exact ab U).symm,I⟩
 refine aj 2 U<|bo U (ay U<|E.aG 1)<|aC 5 U<|cd U (fun Z=> ?_) fun Z=> ?_;exact aB 6 U<|tr<|aE U<|⟨(congrArg bB<|xe O fun h=>Z<|by rw [h]).symm,I⟩
 exact aB 1 U<|tn<|⟨(),(.inr<|Prod.ext (mD.1 Z)<|by show (letE t).2=0; omega),I,E,U⟩
 exact ar 13 U<|tn<|⟨(),(.inl<|mD.1 O),I,E,U⟩
 rintro ax ak ⟨a2,a1,aN,aM,aZ⟩;refine bG aZ<|az 4 U<|p (ay U<|aM.aG 2)<|aC 5 U<|lp (fun an aF al=> ∃ (i:Nat),(i≤rs.length)∧(∀ j,j < i→jr (rs.getD j jH)=true)∧(Wk w al)∧(Sl aF [(41,.slice ra rs.length rc),(42,aQ (rs.length)),(43,aQ i)])∧(rs.length - i=an)) _ ⟨0,ag,(fun j av=>by omega),aN,U,U⟩ ?_;rintro an aF al ⟨i,hi,aw,A,a0,rfl⟩;refine bG a0<|bV 6 U<|cd U (fun aT=> ?_) fun aT=> ?_;refine az 6 U<|p (bZ LG U U ag<|aU.ok (ao.wk A)<|Gb ag)<|p (fi Jw U (U)<|Ga (ao.wk A) ag)<|e<|fv Q4 fun aI bh a5 aR aK=>e<|fk KO U U U U aK (by simp) fun ae aO aL=> ?_;have V:aD ae.heap aI [str (rs.getD i jH).1,str (rs.getD i jH).2]:=⟨_,aL⟩
 have L:Wk al ae:=Md.trans' aR.md aO fun k a6 h=>by omega
 have a9:=aX _<|gK (d:=jH) (show i < rs.length by omega);refine aj 5 U<|p (ay U<|V.aG 0)<|aj 2 U<|gs (t:=50) U (fun ac=> ?_) fun ac=> ?_;exact aj 5 U<|p mv<|ar 16 U<|tr<|bg 2 U<|aE U<|⟨(congrArg bB<|oo (show i < rs.length by omega)<|Gs ac).symm,A.trans L⟩
 refine aj 1 U<|bo U (ay U<|V.aG 0)<|eg U U U<|aH (FJ _ 32 ae ag) U ?_;rintro v53 a3 ⟨rfl,J⟩;have aJ:=Wk.B J V;refine aj 3 U<|gb (t:=56) U (fun ad=> ?_) fun ad=> ?_;exact ar 16 U<|tr<|bg 2 U<|aE U<|⟨(congrArg bB<|oo (show i < rs.length by omega)<|AP<|nT ad).symm,(A.trans L).trans J⟩
 refine aj 1 U<|bo U (ay U<|aJ.aG 1)<|eg U U U<|aH (FJ _ 32 a3 ag) U ?_;rintro v59 bf ⟨rfl,au⟩;refine aC 4 U<|cb U (fun aa=> ?_) fun aa=> ?_;exact aB 8 U<|tr<|bg 2 U<|aE U<|⟨(congrArg bB<|oo (show i < rs.length by omega)<|AQ<|nT aa).symm,((A.trans L).trans J).trans au⟩
 exact az 4 U<|p (bW<|i+1)<|ar 2 U<|tn<|⟨_,ag,i+1,ag,(fun j av=>by rcases dN j i with h | h <;> first | exact aw j h | (rw [show j=i by omega]; exact Gt ac (by simpa using ad)<|by simpa using aa)),(((A.trans L).trans J).trans au),U,U⟩
 exact aB 2 U<|cg<|bg 8 U<|aE U<|⟨(congrArg bB<|Gq ag a1 fun j av=>aw j ag).symm,A⟩
end Go.Hb
end
section
namespace Go.Hb
open Go.Hb.dO
structure fQ (f:Nat→ah) (w:ai) (pA ms:Nat) (aa:Option ba) (n cA nx:Nat) (mk:List Nat):Prop where
 ax:aD w.heap pA [.slice aa n cA,.int .i64 nx,.slice (some ⟨ms,0,none⟩) n n]
 jk:aD w.heap ms (mk.map f)
 ne:pA≠ms
theorem fQ.drew {f:Nat→ah} {w:ai} {E ms:Nat} {A:Option ba} {n C nx:Nat} {mk:List Nat} (h:fQ f w E ms A n C nx mk):fQ f w.drew E ms A n C nx mk:=⟨h.ax,h.jk,h.ne⟩
theorem Aa {f:Nat→ah} {mk:List Nat} {i x:Nat} :(mk.map f).set (0 +i*1) (f x)=(mk.set i x).map f:=by rw [List.map_set,dx,oK]
section
variable {a:List bH} {f nx:Nat} {mk:List Nat} {n:Int}
theorem ui (h:n≠nx) (A:¬(0≤n∧n < nx)):vs a (f+1) (nx,mk) n=none:=by
 rw [Bj h,if_neg (fun e=>A ⟨e.1,e.2.1⟩)]
theorem Hv (h:n≠nx) (h0:0≤n) (C:n < nx):(vs a (f+1) (nx,mk) n).isSome=decide (((mk.getD n.toNat 0:Nat):Int)=2):=by
 rw [Bj h];by_cases A:mk.getD n.toNat 0=2
 · rw [if_pos ⟨h0,C,A⟩,decide_eq_true ag]; rfl
 · rw [if_neg (fun e=>A e.2.2),decide_eq_false ag]; rfl
theorem Hw {s:Nat×List Nat} (h:n≠nx) (A:vs a (f+1) (nx,mk) n=some s):s=(nx,mk):=by
 rw [Bj h] at A;split at A
 · cases A; rfl
 · cases A
end
set_option maxHeartbeats 1000000 in
theorem Qy (f:Nat) (a:List bH) (O:Option ba) (aa E ms:Nat) (w0:ai) (nx:Nat) (mk:List Nat) (n:Int) (w:ai) (bp:gh w0.heap O a) (cw:w0.heap.size≤E) (hm:w0.heap.size≤ms) (a0:Wk w0 w) (I:fQ lf w E ms O a.length aa nx mk) (ct:mk.length=a.length) (cv:nx≤a.length) (cr:a.length < f+nx) (hb:a.length≤1048576) (b2:∀ i,i < a.length→(bu a i).2.length≤1073741824):
 aY aq 164 (bd [aA E,.int .i64 n]) w (fun v w'=>v= .bool (vs a f (nx,mk) n).isSome∧Md (fun q=>q=E∨q=ms) w w'∧∀ s,vs a f (nx,mk) n=some s→fQ lf w' E ms O a.length aa s.1 s.2):=by
 induction f generalizing nx mk n w with
 | zero=>omega
 | succ f ih=>
   have a2:∀ k,k < w0.heap.size→(k=E∨k=ms)→False:=fun k aX cj=>ag;have cx:=I.ax.lt;have cu:=I.jk.lt;have al:=I.ne;obtain ⟨ci,bY⟩:=I.ax;refine enter func164 U ntmps164 U<|aP 12 U<|p (ay U<|I.ax.aO 1)<|aC 3 U<|cd U (fun ap=> ?_) fun ap=> ?_;refine az 5 U<|gs (t:=16) U (fun b4=> ?_) fun b4=> ?_;refine aj 4 U<|bo U (ay U<|I.ax.aO 1)<|aj 3 U<|gs (t:=24) U (fun b5=> ?_) fun b5=> ?_;refine aj 3 U<|bo U (ay U<|I.ax.aO 2)<|aj 1 U<|bo U (ia qS U U ag)<|bo U (ay U (show _=some (bh .u8 ((mk.getD n.toNat 0:Nat):Int)) from Ct I.jk (i:=n.toNat) ag))<|ar 7 U<|aE U ?_;refine ⟨congrArg bB (Hv ap ag ag).symm,Md.refl _ _,fun s A=>by rw [Hw ap A]; exact I⟩;refine aj 9 U<|p aT<|ar 4 U<|aE U ?_;rw [ui ap ag];exact ⟨U,Md.refl _ _,fun s A=>by cases A⟩;refine aj 7 U<|p mv<|aj 9 U<|p aT<|ar 4 U<|aE U ?_;rw [ui ap ag];exact ⟨U,Md.refl _ _,fun s A=>by cases A⟩;obtain rfl :n=(nx:Int):=mD.1 ap;refine az 9 U<|p (ay U<|I.ax.aO 0)<|aC 4 U<|cd U (fun b0=> ?_) fun b0=> ?_;refine aB 7 U<|aE U ?_;rw [HB rfl ag];exact ⟨U,Md.refl _ _,fun s A=>by cases A⟩;refine az 7 U<|p (ay U<|I.ax.aO 1)<|p (bW<|nx+1)<|aj 2 U<|e<|fj fT U U U bY (by simp) fun ce bx bL=> ?_;have br:aD ce.heap E [.slice O a.length aa,.int .i64 ((nx+1:Nat):Int),.slice (some ⟨ms,0,none⟩) a.length a.length]:=⟨_,bL⟩
   have b9:=bx.B I.jk fun e=>al e.symm;obtain ⟨em,bU⟩:=b9;refine aj 7 U<|p (ay U<|br.aO 2)<|aj 1 U<|p (ia qS U U ag)<|e<|fj CQ U U U bU (by simp; omega) fun aM bz bM=> ?_;have ca:aD aM.heap ms ((mk.set nx 1).map lf):=by rw [← Aa]; exact ⟨_,bM⟩
   have a3:fQ lf aM E ms O a.length aa (nx+1) (mk.set nx 1):=⟨bz.B br al,ca,al⟩
   have a7:Md (fun q=>q=E∨q=ms) w aM:=Md.trans (bx.mono fun k _ h=> .inl h)<|bz.mono fun k _ h=> .inr h;have a1:Wk w0 aM:=Md.trans' a0 a7 a2;obtain ⟨ad,ae,bE,aF⟩:=bp.two (i:=nx) ag;have cm:=aF.wk a1;refine aj 7 U<|p (ay U<|a3.ax.aO 0)<|aj 1 U<|p (bZ vF U U ag<|bp.ok ag)<|p (fi B5 U (U)<|mz a1 bE)<|e<|fv HM fun ac cA cp bT bN=>e<|fk CN U U U U bN (by simp) fun bm bR bO=> ?_;have bt:aD bm.heap ac [bB (bu a nx).1,.slice ad (bu a nx).2.length ae]:=⟨_,bO⟩
   have aQ:Wk aM bm:=Md.trans' bT.md bR fun k bA h=>by omega
   have bP:fQ lf bm E ms O a.length aa (nx+1) (mk.set nx 1):=⟨aQ.B a3.ax,aQ.B a3.jk,al⟩
   have ck:=a7.size;refine aj 6 U<|p (ay U<|bt.aO 1)<|aC 5 U<|lp (fun bn bC au=> ∃ (k M:Nat) (J:List Nat),(k≤(bu a nx).2.length)∧(ic a f (nx+1) (mk.set nx 1) ((bu a nx).2.take k)=some (M,J))∧(jE<|(bu a nx).2.take k)∧(Wk w0 au)∧(Md (fun q=>q=E∨q=ms) w au)∧(fQ lf au E ms O a.length aa M J)∧(aD (au).heap ac [bB (bu a nx).1,.slice ad (bu a nx).2.length ae])∧(Sl bC [(0,aA E),(1,.int .i64 (nx:Int)),(5,aA ac),(62,.slice ad (bu a nx).2.length ae),(63,.int .i64 (bu a nx).2.length),(64,.int .i64 k)])∧((bu a nx).2.length - k=bn)) _ ⟨0,nx+1,mk.set nx 1,ag,U,List.Pairwise.nil,(Md.trans a1 aQ),(Md.trans' a7 aQ fun k _ h=>h.elim),bP,bt,U,U⟩ ?_;rintro bn bC au ⟨k,M,J,bA,ab,aV,aR,a5,aG,ao,cc,rfl⟩;refine bG cc<|bV 6 U<|cd U (fun b1=> ?_) fun b1=> ?_;refine bD 5 U ?_;have cq:=b2 nx ag;obtain ⟨⟨c,z⟩,hek⟩:∃ e,(bu a nx).2[k]? =some e:=⟨_,cI ag⟩
   obtain ⟨⟨aN,cf⟩,hep⟩:∃ e,(bu a nx).2[k - 1]? =some e:=⟨_,cI ag⟩
   have a9:=xC ab ag;simp only [qp] at a9;refine az 2 U<|p (bZ vE U U ag<|aF.ok ag)<|p (fi B6 U (U)<|mz aR<|aF.two hek)<|e<|fv Q5 fun av cy co bS bF=>aj 1 U<|e<|fk KQ U U U U bF (by simp) fun aL bQ bI=> ?_;have aZ:aD aL.heap av [bh .u8 c.toNat,.int .i64 z]:=⟨_,bI⟩
   have L:Wk au aL:=Md.trans' bS.md bQ fun k bA h=>by omega
   have bv:fQ lf aL E ms O a.length aa M J:=⟨L.B aG.ax,L.B aG.jk,al⟩
   have a6:Md (fun q=>q=E∨q=ms) w aL:=Md.trans' a5 L fun k _ h=>h.elim;have cn:=a5.size;refine aC 3 U ?_;have C:(fun w'=>Wk w0 w'∧aD w'.heap ac [bB (bu a nx).1,.slice ad (bu a nx).2.length ae]∧aD w'.heap av [bh .u8 c.toNat,.int .i64 z]) aL.drew:=⟨(Md.trans aR L).drew,L.B ao,aZ⟩
   refine bK (fun w'=>Wk w0 w'∧aD w'.heap ac [bB (bu a nx).1,.slice ad (bu a nx).2.length ae]∧aD w'.heap av [bh .u8 c.toNat,.int .i64 z]) U wide C<|aW [0,1,2] U C<|kJ (t:=71) U (fun b6=> ?_) fun b6=> ?_;refine aW [3] U C<|ek 4 U (fun w' Z=>ay U<|Z.2.1.aO 1) C<|aW [5] U C<|ek 6 U (fun _ _=>pH<|k - 1) C<|ek 7 U (fun _ _=>bZ vE U U ag<|aF.ok ag) C<|aW [8] U C<|ek 9 U (fun w' Z=>ay U (show _=some (bh .u8 (aN.toNat:Int)) from (aF.wk Z.1).b (k - 1) (aN,cf) hep)) C<|aW [10] U C<|ek 11 U (fun w' Z=>ay U<|Z.2.2.aO 0) C<|aW [12,13,14] U C<|kJ (t:=83) U (fun b7=> ?_) fun b7=> ?_;refine aW [15,16,17,18,19,20] U C<|hn an<|bg 10 U<|tr<|bg 2 U<|aE U ?_;rw [HA ag (Fg ag hek hep<|by show c.toNat≤aN.toNat; omega)];exact ⟨U,a6.drew,fun s A=>by cases A⟩;refine aW [15,16] U C<|ek 17 U (fun w' Z=>ay U<|Z.2.2.aO 1) C<|zE 18 U an U U U<|aH (ih M J z _ (Md.trans aR L).drew (fQ.drew bv) ag ag ag) U ?_;rintro v87 am ⟨rfl,V,bf⟩;have ah:Md (fun q=>q=E∨q=ms) w am:=Md.trans a6<|Md.gI V;have aw:Wk w0 am:=Md.trans' a0 ah a2;have aI:(fun w'=>Wk w0 w'∧aD w'.heap ac [bB (bu a nx).1,.slice ad (bu a nx).2.length ae]∧aD w'.heap av [bh .u8 c.toNat,.int .i64 z]) am:=⟨aw,V.B (L.B ao) (fun e=>by omega),V.B aZ fun e=>by omega⟩
   refine ⟨aI,?_⟩;refine aW [19,20] U aI<|hn an<|ee 1 U<|cb U (fun ak=> ?_) fun ak=> ?_;have bb:vs a f (M,J) z=none:=by simpa using ak
   refine aB 8 U<|tr<|bg 2 U<|aE U ?_;rw [xB (k:=k+1) ag (by rw [oA ab hek]; exact bb)];exact ⟨U,ah,fun s A=>by cases A⟩;obtain ⟨aK,aJ⟩:∃ s,vs a f (M,J) z=some s:=oL.1<|by simpa using ak
   exact aB 7 U<|tn<|⟨_,ag,k+1,aK.1,aK.2,ag,(by rw [oA ab hek]; exact aJ),(wV aV hek fun q h0 bc=>by rw [hep] at bc; cases bc; show aN.toNat < c.toNat; omega),aw,ah,(bf _ aJ),(V.B (L.B ao) fun e=>by omega),U,U⟩
   refine aW [3,4,5,6,7,8,9,10,11,12,13] U C<|cz 14 U (mv) C<|aW [15,16] U C<|ek 17 U (fun w' Z=>ay U<|Z.2.2.aO 1) C<|zE 18 U an U U U<|aH (ih M J z _ (Md.trans aR L).drew (fQ.drew bv) ag ag ag) U ?_;rintro v87 am ⟨rfl,V,bf⟩;have ah:Md (fun q=>q=E∨q=ms) w am:=Md.trans a6<|Md.gI V;have aw:Wk w0 am:=Md.trans' a0 ah a2;have aI:(fun w'=>Wk w0 w'∧aD w'.heap ac [bB (bu a nx).1,.slice ad (bu a nx).2.length ae]∧aD w'.heap av [bh .u8 c.toNat,.int .i64 z]) am:=⟨aw,V.B (L.B ao) (fun e=>by omega),V.B aZ fun e=>by omega⟩
   refine ⟨aI,?_⟩;refine aW [19,20] U aI<|hn an<|ee 1 U<|cb U (fun ak=> ?_) fun ak=> ?_;have bb:vs a f (M,J) z=none:=by simpa using ak
   refine aB 8 U<|tr<|bg 2 U<|aE U ?_;rw [xB (k:=k+1) ag (by rw [oA ab hek]; exact bb)];exact ⟨U,ah,fun s A=>by cases A⟩;obtain ⟨aK,aJ⟩:∃ s,vs a f (M,J) z=some s:=oL.1<|by simpa using ak
   exact aB 7 U<|tn<|⟨_,ag,k+1,aK.1,aK.2,ag,(by rw [oA ab hek]; exact aJ),(wV aV hek fun q h0 bc=>by omega),aw,ah,(bf _ aJ),(V.B (L.B ao) fun e=>by omega),U,U⟩
   refine aB 2 U<|cg<|ee 3 U ?_;obtain ⟨ch,bX⟩:=aG.jk;rw [show k=(bu a nx).2.length by omega,ym] at ab aV;have a9:=xC ab ag;simp only [qp] at a9;have bi:=Hx ag aV ab;refine az 4 U<|p (ay U<|aG.ax.aO 2)<|aj 1 U<|p (ia qS U U ag)<|e<|fj CQ U U U bX (by simp; omega) fun bj a4 bJ=> ?_;have b8:aD bj.heap ms ((J.set nx 2).map lf):=by rw [← Aa]; exact ⟨_,bJ⟩
   have aS:fQ lf bj E ms O a.length aa M (J.set nx 2):=⟨a4.B aG.ax al,b8,al⟩
   have aU:Md (fun q=>q=E∨q=ms) w bj:=Md.trans a5<|a4.mono fun k _ h=> .inr h;have bq:=a4.B ao fun e=>by omega
   refine aj 5 U<|p (ay U<|bq.aO 1)<|aj 3 U<|gs (t:=101) U (fun b3=> ?_) fun b3=> ?_;refine aj 3 U<|p mv<|aj 7 U<|p aT<|ar 3 U<|aE U ?_;rw [bi,if_pos (EI ag)];exact ⟨U,aU,fun s A=>by cases A; exact aS⟩;refine aj 1 U<|bo U (ay U<|bq.aO 0)<|aj 2 U<|gb (t:=105) U (fun a8=> ?_) fun a8=> ?_;refine aj 7 U<|p aT<|ar 3 U<|aE U ?_;rw [bi,if_pos (EH a8)];exact ⟨U,aU,fun s A=>by cases A; exact aS⟩;refine aj 3 U<|bo U (ay U<|aS.ax.aO 0)<|ar 7 U<|aE U ?_;rw [bi,zP ag a8];by_cases aX:a.length=1;rw [if_pos (decide_eq_true aX)];exact ⟨congrArg bB (decide_eq_true ag),aU,fun s A=>by cases A; exact aS⟩;rw [if_neg (by simpa using aX)];exact ⟨congrArg bB (decide_eq_false ag),aU,fun s A=>by cases A⟩
def tV (a:List bH):Int:=if shaped a=true then 0 else 190
theorem mu {a:List bH} (h:shaped a=false):tV a=190:=if_neg<|by rw [h]; exact dw
theorem xf {a:List bH} (h:shaped a=true):tV a=0:=if_pos h
def lh (x:Nat):ah:= .bool<|decide (x=2)
theorem Nl {mk:List Nat} {i:Nat} (h:mk.getD i 0=0):(mk.set i 1).map lh=mk.map lh:=by
 refine List.ext_getElem? fun j=> ?_;rw [ij,ij,List.getElem?_set];by_cases e:i=j
 · subst e;rw [if_pos rfl];by_cases A:i < mk.length
   · rw [if_pos A,cI A];rw [cW,cI A] at h;have h0:mk[i]=0:=h;rw [h0]; rfl
   · rw [if_neg A,List.getElem?_eq_none ag]
 · rw [if_neg e]
theorem Q2 (n:Nat):∀ i,0≤i→(eM n 0).getD i 0=0:=fun i _=>by
 rw [cW,List.getElem?_replicate]; split <;> rfl
set_option maxHeartbeats 1000000 in
theorem Pj (a:List bH) (A:Option ba) (E:Nat) (w:ai) (ac:gh w.heap A a) (aA:a.length≤140737488355328) (ao:∀ i,i < a.length→(bu a i).2.length≤1073741824):
 aY aq 103 (bd [.slice A a.length E]) w (fun v w'=>v= .int .i64 (tV a)∧Wk w w'):=by
 refine enter func103 U ntmps103 U<|aP 12 U<|gs (t:=7) U (fun ap=> ?_) fun ap=> ?_;exact ar 14 U<|aE U<|⟨iv (mu<|xg ag).symm,Md.refl _ _⟩
 refine aC 6 U<|cd U (fun am=> ?_) fun am=> ?_;exact aB 7 U<|aE U<|⟨iv (mu<|xg ag).symm,Md.refl _ _⟩
 refine az 7 U<|e<|jk (zv:= .int .u8 0) fE U U U U ag (by unfold maxLen; omega) fun C aw aG J au=> ?_;have ae:aD aw.heap C ((eM a.length 0).map lf):=by rw [IT]; exact FG<|au _<|bf _
 refine p (dE (ps:= [(0,.slice A a.length E),(2,.slice (some ⟨C,0,none⟩) a.length a.length)]) (L:= [.slice A a.length E,.int .i64 0,.slice (some ⟨C,0,none⟩) a.length a.length]) PG U<|U)<|e<|lV U fun V ab aF aa ad=> ?_;have ak:fQ lf ab V C A a.length E 0 (eM a.length 0):=⟨ad,aa.md.B ae,by have :=J.size; omega⟩
 have Z:Wk w ab:=Md.trans J.md aa.md;have aJ:=J.md.size;refine aj 7 U<|e<|aH (Qy (a.length+1) a A E V C w 0 (eM a.length 0) 0 _ ac ag ag Z ak (by simp) ag ag ag ao) U ?_;rintro aL av ⟨rfl,al,bK⟩;have I:Wk w av:=Md.trans' Z al fun k aI h=>by omega
 refine aj 2 U<|gb (t:=21) U (fun M=> ?_) fun M=> ?_;have hn:vs a (a.length+1) (0,eM a.length 0) 0=none:=by simpa using M
 exact ar 18 U<|aE U<|⟨iv (mu<|Gy hn).symm,I⟩
 obtain ⟨aK,O⟩:∃ s,vs a (a.length+1) (0,eM a.length 0) 0=some s:=oL.1<|by simpa using M
 have ah:=bK _ O;refine aj 3 U<|bo U (ay U<|ah.ax.aO 1)<|aC 6 U<|cd U (fun an=> ?_) fun an=> ?_;exact aB 7 U<|aE U<|⟨iv (mu<|by rw [xh ag ag O]; exact decide_eq_false ag).symm,I⟩
 exact aB 8 U<|aE U<|⟨iv (xf<|by rw [xh ag ag O]; exact decide_eq_true ag).symm,I⟩
set_option maxHeartbeats 1000000 in
theorem Qz (f:Nat) (a:List bH) (V:Option ba) (ad A ms:Nat) (w0:ai) (nx:Nat) (mk:List Nat) (n:Int) (w:ai) (a4:gh w0.heap V a) (ci:w0.heap.size≤A) (hm:w0.heap.size≤ms) (aR:Wk w0 w) (I:fQ lh w A ms V a.length ad nx mk) (ce:mk.length=a.length) (ch:nx≤a.length) (cc:a.length < f+nx) (hb:a.length≤1048576) (bN:∀ i,i < a.length→(bu a i).2.length≤1073741824) (bb:∀ i,nx≤i→mk.getD i 0=0):
 aY aq 165 (bd [aA A,.int .i64 n]) w (fun v w'=>v= .bool (vs a f (nx,mk) n).isSome∧Md (fun q=>q=A∨q=ms) w w'∧∀ s,vs a f (nx,mk) n=some s→fQ lh w' A ms V a.length ad s.1 s.2):=by
 induction f generalizing nx mk n w with
 | zero=>omega
 | succ f ih=>
   have aT:∀ k,k < w0.heap.size→(k=A∨k=ms)→False:=fun k b6 b7=>ag;have cj:=I.ax.lt;have cf:=I.jk.lt;have ao:=I.ne;obtain ⟨b5,bE⟩:=I.ax;refine enter func165 U ntmps165 U<|aP 11 U<|gs (t:=10) U (fun bO=> ?_) fun bO=> ?_;refine aj 8 U<|p mv<|ar 17 U<|aE U ?_;rw [ui ag ag];exact ⟨U,Md.refl _ _,fun s E=>by cases E⟩;refine aj 4 U<|bo U (ay U<|I.ax.aO 0)<|aj 4 U<|gs (t:=19) U (fun bP=> ?_) fun bP=> ?_;refine ar 17 U<|aE U ?_;have bY:vs a (f+1) (nx,mk) n=none:=by
    by_cases h:n=nx;exact HB h ag;exact ui h ag
   rw [bY];exact ⟨U,Md.refl _ _,fun s E=>by cases E⟩;refine aj 4 U<|bo U (ay U<|I.ax.aO 1)<|aC 4 U<|cd U (fun bF=> ?_) fun bF=> ?_;refine aB 7 U<|aE U ?_;rw [ui ag ag];exact ⟨U,Md.refl _ _,fun s E=>by cases E⟩;refine az 9 U<|p (ay U<|I.ax.aO 1)<|aC 3 U<|cd U (fun bI=> ?_) fun bI=> ?_;exact az 5 U<|p (ay U<|I.ax.aO 2)<|aj 1 U<|p (ia DK U U ag)<|p (ay U (show _=some (bB<|decide (mk.getD n.toNat 0=2)) from Ct I.jk (i:=n.toNat) ag))<|ar 5 U<|aE U<|⟨congrArg bB ((Hv ag ag ag).trans<|by rw [decide_eq_decide]; omega).symm,Md.refl _ _,fun s E=>by rw [Hw ag E]; exact I⟩
   obtain rfl :n=(nx:Int):=ag;refine az 8 U<|p (ay U<|I.ax.aO 1)<|p (bW<|nx+1)<|aj 2 U<|e<|fj fT U U U bE (by simp) fun aN a8 bq=> ?_;have aU:fQ lh aN A ms V a.length ad (nx+1) (mk.set nx 1):=⟨⟨_,bq⟩,by rw [Nl (bb nx<|bf _)]; exact a8.B I.jk (fun e=>ao e.symm),ao⟩
   have aV:Md (fun q=>q=A∨q=ms) w aN:=a8.mono fun k _ h=> .inl h;have a5:Wk w0 aN:=Md.trans' aR aV aT;obtain ⟨aG,aI,bn,O⟩:=a4.two (i:=nx) ag;refine aj 7 U<|p (ay U<|aU.ax.aO 0)<|aj 1 U<|p (bZ tl U U ag<|a4.ok ag)<|p (fi B7 U (U)<|mz a5 bn)<|e<|fv HN fun ac ck b9 bA br=>e<|fk CO U U U U br (by simp) fun aw bx bt=> ?_;have aQ:aD aw.heap ac [bB (bu a nx).1,.slice aG (bu a nx).2.length aI]:=⟨_,bt⟩
   have aJ:Wk aN aw:=Md.trans' bA.md bx fun k bS h=>by omega
   have a6:fQ lh aw A ms V a.length ad (nx+1) (mk.set nx 1):=⟨aJ.B aU.ax,aJ.B aU.jk,ao⟩
   have b8:=aV.size;have a9:Md (fun q=>q=A∨q=ms) w aw:=Md.trans' aV aJ fun k _ h=>h.elim;refine aC 2 U ?_;refine ei (fun bj bi=>(jR a (bu a nx)=true)∧(bi=aw)∧(Sl bj [(0,aA A),(1,.int .i64 (nx:Int)),(5,aA ac)])) ?_ ?_;refine aP 3 U<|p (ay U<|aQ.aO 1)<|aj 3 U<|gs (t:=59) U (fun bQ=> ?_) fun bQ=> ?_;refine aj 1 U<|bo U (ay U<|aQ.aO 0)<|aj 3 U<|gb (t:=64) U (fun aL=> ?_) fun aL=> ?_;refine aj 3 U<|bo U (ay U<|a6.ax.aO 0)<|aC 5 U<|cd U (fun bJ=> ?_) fun bJ=> ?_;refine aB 6 U<|tr<|aE U ?_;rw [QB ag (by rw [zP ag (by simpa using aL)]; exact decide_eq_false ag)];exact ⟨U,a9,fun s E=>by cases E⟩;exact aB 1 U<|tn<|⟨(by rw [zP ag (by simpa using aL)]; exact decide_eq_true ag),U,U⟩
   exact ar 11 U<|tn<|⟨(EH<|by simpa using aL),U,U⟩
   exact aj 4 U<|p mv<|ar 11 U<|tn<|⟨(EI ag),U,U⟩
   rintro bj bi ⟨bT,b1,bV⟩;refine bG bV ?_;subst b1;refine bD 7 U<|lp (fun a3 bm ah=> ∃ (k L:Nat) (J:List Nat),(k≤(bu a nx).2.length)∧(ic a f (nx+1) (mk.set nx 1) ((bu a nx).2.take k)=some (L,J))∧(jE<|(bu a nx).2.take k)∧(Wk w0 ah)∧(Md (fun q=>q=A∨q=ms) w ah)∧(fQ lh ah A ms V a.length ad L J)∧(aD (ah).heap ac [bB (bu a nx).1,.slice aG (bu a nx).2.length aI])∧(Sl bm [(0,aA A),(1,.int .i64 (nx:Int)),(5,aA ac),(6,.int .i64 k)])∧((bu a nx).2.length - k=a3)) _ ⟨0,nx+1,mk.set nx 1,ag,U,List.Pairwise.nil,(Md.trans a5 aJ),a9,a6,aQ,U,U⟩ ?_;rintro a3 bm ah ⟨k,L,J,bS,M,aM,ak,aK,al,ae,bX,rfl⟩;refine bG bX<|aP 5 U<|p (ay U<|ae.aO 1)<|aC 4 U<|cd U (fun bL=> ?_) fun bL=> ?_;refine bD 6 U ?_;have ca:=bN nx ag;obtain ⟨⟨c,z⟩,hek⟩:∃ e,(bu a nx).2[k]? =some e:=⟨_,cI ag⟩
   obtain ⟨⟨aF,b3⟩,hep⟩:∃ e,(bu a nx).2[k - 1]? =some e:=⟨_,cI ag⟩
   have aX:=xC M ag;simp only [qp] at aX;have bc:=QG M fun i hi=>by rw [getD_set_ne _ _ ag]; exact bb i ag
   have C:(fun w'=>Wk w0 w'∧aD w'.heap ac [bB (bu a nx).1,.slice aG (bu a nx).2.length aI]) ah.drew:=⟨ak.drew,ae⟩
   refine bK (fun w'=>Wk w0 w'∧aD w'.heap ac [bB (bu a nx).1,.slice aG (bu a nx).2.length aI]) U wide C<|aW [0,1,2] U C<|kJ (t:=81) U (fun bR=> ?_) fun bR=> ?_;refine aW [3] U C<|ek 4 U (fun w' aa=>ay U<|aa.2.aO 1) C<|aW [5] U C<|ek 6 U (fun _ _=>bZ qT U U ag<|O.ok ag) C<|aW [7] U C<|ek 8 U (fun w' aa=>ay U (show _=some (bh .u8 (c.toNat:Int)) from (O.wk aa.1).b k (c,z) hek)) C<|aW [9] U C<|ek 10 U (fun w' aa=>ay U<|aa.2.aO 1) C<|aW [11] U C<|ek 12 U (fun _ _=>pH<|k - 1) C<|ek 13 U (fun _ _=>bZ qT U U ag<|O.ok ag) C<|aW [14] U C<|ek 15 U (fun w' aa=>ay U (show _=some (bh .u8 (aF.toNat:Int)) from (O.wk aa.1).b (k - 1) (aF,b3) hep)) C<|aW [16,17] U C<|hn an<|ee 1 U<|cd U (fun bM=> ?_) fun bM=> ?_;refine aB 9 U<|tr<|bg 2 U<|aE U ?_;rw [HA ag (Fg ag hek hep<|by show c.toNat≤aF.toNat; omega)];exact ⟨U,aK.drew,fun s E=>by cases E⟩;refine az 6 U<|p (ay U<|ae.aO 1)<|aj 1 U<|p (bZ qT U U ag<|O.ok ag)<|aj 1 U<|p (ay U (show _=some (bh .i64 z) from (O.wk ak).to k (c,z) hek))<|e<|aH (ih L J z _ (Md.drew ak) (fQ.drew al) ag ag ag bc) U ?_;rintro b2 av ⟨rfl,am,a1⟩;have Z:Md (fun q=>q=A∨q=ms) w av:=Md.trans aK<|Md.gI am;have aS:Wk w0 av:=Md.trans' aR Z aT;refine aC 9 U<|cb U (fun ab=> ?_) fun ab=> ?_;have aZ:vs a f (L,J) z=none:=by simpa using ab
   refine aB 8 U<|tr<|bg 2 U<|aE U ?_;rw [xB (k:=k+1) ag (by rw [oA M hek]; exact aZ)];exact ⟨U,Z,fun s E=>by cases E⟩;obtain ⟨au,ap⟩:∃ s,vs a f (L,J) z=some s:=oL.1<|by simpa using ab
   exact aB 8 U<|tn<|⟨_,ag,k+1,au.1,au.2,ag,(by rw [oA M hek]; exact ap),(wV aM hek fun q h0 a0=>by rw [hep] at a0; cases a0; show aF.toNat < c.toNat; omega),aS,Z,(a1 _ ap),(am.B ae fun e=>by omega),U,U⟩
   refine aW [3,4,5,6,7,8,9,10,11,12,13,14,15,16,17] U C<|hn an<|fV 8 U<|p (ay U<|ae.aO 1)<|aj 1 U<|p (bZ qT U U ag<|O.ok ag)<|aj 1 U<|p (ay U (show _=some (bh .i64 z) from (O.wk ak).to k (c,z) hek))<|e<|aH (ih L J z _ (Md.drew ak) (fQ.drew al) ag ag ag bc) U ?_;rintro b2 av ⟨rfl,am,a1⟩;have Z:Md (fun q=>q=A∨q=ms) w av:=Md.trans aK<|Md.gI am;have aS:Wk w0 av:=Md.trans' aR Z aT;refine aC 9 U<|cb U (fun ab=> ?_) fun ab=> ?_;have aZ:vs a f (L,J) z=none:=by simpa using ab
   refine aB 8 U<|tr<|bg 2 U<|aE U ?_;rw [xB (k:=k+1) ag (by rw [oA M hek]; exact aZ)];exact ⟨U,Z,fun s E=>by cases E⟩;obtain ⟨au,ap⟩:∃ s,vs a f (L,J) z=some s:=oL.1<|by simpa using ab
   exact aB 8 U<|tn<|⟨_,ag,k+1,au.1,au.2,ag,(by rw [oA M hek]; exact ap),(wV aM hek fun q h0 a0=>by omega),aS,Z,(a1 _ ap),(am.B ae fun e=>by omega),U,U⟩
   refine aB 2 U<|cg<|ee 3 U ?_;obtain ⟨b4,bC⟩:=al.jk;rw [show k=(bu a nx).2.length by omega,ym] at M aM;have aX:=xC M ag;simp only [qp] at aX;have b0:=Hx ag aM M;refine az 4 U<|p (ay U<|al.ax.aO 2)<|aj 1 U<|p (ia DK U U ag)<|e<|fj CP U U U bC (by simp; omega) fun a2 a7 bp=> ?_;have bU:aD a2.heap ms ((J.set nx 2).map lh):=by rw [← Aa]; exact ⟨_,bp⟩
   have bv:fQ lh a2 A ms V a.length ad L (J.set nx 2):=⟨a7.B al.ax ao,bU,ao⟩
   have bz:Md (fun q=>q=A∨q=ms) w a2:=Md.trans aK<|a7.mono fun k _ h=> .inr h;refine ar 8 U<|aE U ?_;rw [b0,if_pos bT];exact ⟨U,bz,fun s E=>by cases E; exact bv⟩
set_option maxHeartbeats 1000000 in
theorem Pk (a:List bH) (A:Option ba) (E:Nat) (w:ai) (ac:gh w.heap A a) (aA:a.length≤140737488355328) (ao:∀ i,i < a.length→(bu a i).2.length≤1073741824):
 aY aq 108 (bd [.slice A a.length E]) w (fun v w'=>v= .int .i64 (tV a)∧Wk w w'):=by
 refine enter func108 U ntmps108 U<|aP 12 U<|gs (t:=8) U (fun ap=> ?_) fun ap=> ?_;exact ar 14 U<|aE U<|⟨iv (mu<|xg ag).symm,Md.refl _ _⟩
 refine aC 6 U<|cd U (fun am=> ?_) fun am=> ?_;exact aB 7 U<|aE U<|⟨iv (mu<|xg ag).symm,Md.refl _ _⟩
 refine az 7 U<|e<|jk (zv:= .bool false) Pu U U U U ag (by unfold maxLen; omega) fun C aw aG J au=> ?_;have ae:aD aw.heap C ((eM a.length 0).map lh):=by rw [IT]; exact FG<|au _<|bf _
 refine p (dE (ps:= [(0,.slice A a.length E),(2,.slice (some ⟨C,0,none⟩) a.length a.length)]) (L:= [.slice A a.length E,.int .i64 0,.slice (some ⟨C,0,none⟩) a.length a.length]) PH U<|U)<|e<|lV U fun V ab aF aa ad=> ?_;have ak:fQ lh ab V C A a.length E 0 (eM a.length 0):=⟨ad,aa.md.B ae,by have :=J.size; omega⟩
 have Z:Wk w ab:=Md.trans J.md aa.md;have aJ:=J.md.size;refine aj 6 U<|e<|aH (Qz (a.length+1) a A E V C w 0 (eM a.length 0) 0 _ ac ag ag Z ak (by simp) ag ag ag ao<|Q2 _) U ?_;rintro v20 av ⟨rfl,al,bK⟩;have I:Wk w av:=Md.trans' Z al fun k aI h=>by omega
 refine aj 9 U<|gb (t:=23) U (fun M=> ?_) fun M=> ?_;have hn:vs a (a.length+1) (0,eM a.length 0) 0=none:=by simpa using M
 exact ar 18 U<|aE U<|⟨iv (mu<|Gy hn).symm,I⟩
 obtain ⟨aK,O⟩:∃ s,vs a (a.length+1) (0,eM a.length 0) 0=some s:=oL.1<|by simpa using M
 have ah:=bK _ O;refine aj 3 U<|bo U (ay U<|ah.ax.aO 1)<|aC 6 U<|cd U (fun an=> ?_) fun an=> ?_;exact aB 7 U<|aE U<|⟨iv (mu<|by rw [xh ag ag O]; exact decide_eq_false ag).symm,I⟩
 exact aB 8 U<|aE U<|⟨iv (xf<|by rw [xh ag ag O]; exact decide_eq_true ag).symm,I⟩
end Go.Hb
end
