/-
  Walks and plain laws that the law rests on, laid together. No conditions but those that each theorem names.
-/
import Derived.Test.YtjaoldaegkmkjaaGreatDoorMnBookLoads1
set_option linter.unusedVariables false
open Bool renaming and_eq_true→aV
open Go.Extern.BytealgIndexByte renaming indexByte→H5
open Go.Instr renaming checkKey→iY,field→AF,findKey→lL,findNow→lM,keyThatStays→ot,sameBits→AJ,sameNow→uK,sliceAt→lN,sliceBounds→ja
open Go.Lib renaming indexByte→AL
open Go renaming Operand→aT,Program→aq,TypeId→an,Value→ag,World→ah
open Go.Region renaming Mode→lS,ready→dn
open Go.Value renaming ownBlock→ff
open List renaming foldlM_append→A8,foldlM_cons→oz,foldlM_nil→oA,getD_cons_zero→q7,getD_eq_getElem?_getD→cg,getElem?_drop→gU,getElem?_eq_getElem→bH,getElem?_eq_some_iff→cJ,getElem_take→q8,length_cons→cZ,length_drop→gV,length_take→cO,mem_singleton→Bi,pairwise_iff_getElem→Bk,replicate→dq,takeWhile_cons→Bn,take_of_length_le→oF,take_succ_eq_append_getElem→uZ
open Nat renaming le_refl→aY,le_trans→cH,pow_succ→rl
open Option renaming bind_eq_bind→oL,bind_eq_some_iff→oM,map_eq_some_iff→fA,map_some→eu,pure_def→oN
open Option.some renaming injEq→bu
open Prod.mk renaming injEq→gD
open Go.Proofs.Tryz
open Go.RowKit

section
namespace Go.Hb
end Go.Hb
namespace Go.Hb
section
variable {P:aq} {N:Fm} {σ:Nat→ag} {w:ah} {dst:Option Nat} {ty:an} {pos :String} {af:Array Edge} {g:Option (Nat×Bool)} {x y z:aT}
end
end Go.Hb
namespace Go.Hb
abbrev aN:Type :=Bool×List (UInt8×Int)
def dI:aN:=(false,[])
abbrev aC (a:List aN) (n:Nat):aN:=a.getD n dI
def fC (l:List (UInt8×Int)):Prop :=l.Pairwise fun x y=>x.1.toNat < y.1.toNat
instance (l:List (UInt8×Int)):Decidable (fC l):=by unfold fC; infer_instance
def fO (a:List aN) (p:aN):Bool:=decide (p.2≠[]) || p.1 || decide (a.length=1)
def vs (a:List aN):Nat→Nat×List Nat→Int→Option (Nat×List Nat)
 | 0,_,_=>none
 | f+1,(nx,mk),n=>
   if n≠nx then (if 0≤n∧n < nx∧mk.getD n.toNat 0=2 then some (nx,mk) else none)
   else if a.length≤nx then none
   else if fC (aC a nx).2∧fO a (aC a nx)=true then
    ((aC a nx).2.foldlM (fun s e=>vs a f s e.2) (nx+1,mk.set nx 1)).map fun s=>(s.1,s.2.set nx 2)
   else none
def shaped (a:List aN):Bool:=decide (0 < a.length) && decide (a.length≤1048576) && match vs a (a.length+1) (0,dq a.length 0) 0 with
 | some s=>decide (s.1=a.length)
 | none=>false
section
variable {a:List aN}
theorem zV:∀ (f:Nat) {nx A:Nat} {mk mk':List Nat} {n:Int},vs a f (nx,mk) n=some (A,mk')→nx≤A∧mk'.length=mk.length:=by
 intro f
 induction f with
 | zero=>intro nx A mk mk' n h; cases h
 | succ f ih=>
   intro nx A mk mk' n h;have C:∀ (es:List (UInt8×Int)) (nx A:Nat) (mk mk':List Nat),es.foldlM (fun s e=>vs a f s e.2) (nx,mk)=some (A,mk')→nx≤A∧mk'.length=mk.length:=by
    intro es
    induction es with
    | nil=>intro nx A mk mk' h; simp only [oA,oN,bu,gD] at h; obtain ⟨rfl,rfl⟩:=h; exact ⟨aY _,rfl⟩
    | cons e es E=>
      intro nx A mk mk' h;simp only [oz,oL,oM] at h;obtain ⟨⟨n1,m1⟩,h1,h2⟩:=h;have I:=ih h1;have J:=E _ _ _ _ h2;exact ⟨U,U⟩
   rw [vs] at h;split at h
   · split at h
     · cases h; exact ⟨aY _,rfl⟩
     · cases h
   · split at h
     · cases h
     · split at h
       · simp only [fA] at h;obtain ⟨⟨n1,m1⟩,h1,h2⟩:=h;simp only [gD] at h2;obtain ⟨rfl,rfl⟩:=h2;have :=C _ _ _ _ _ h1;simp only [List.length_set] at this ⊢;exact ⟨U,this.2⟩
       · cases h
variable {l:List Nat}
theorem um {f nx:Nat} {mk:List Nat} {n:Int} (h:n≠nx):vs a (f+1) (nx,mk) n=if 0≤n∧n < nx∧mk.getD n.toNat 0=2 then some (nx,mk) else none:=by rw [vs,if_pos h]
theorem zX {f nx:Nat} {mk:List Nat} {n:Int} (h:n=nx) (A:a.length≤nx):vs a (f+1) (nx,mk) n=none:=by rw [vs,if_neg (fun e=>e h),if_pos A]
theorem qE {f nx:Nat} {mk:List Nat} {n:Int} (h:n=nx) (A:nx < a.length) (C:¬(fC (aC a nx).2∧fO a (aC a nx)=true)):vs a (f+1) (nx,mk) n=none:=by grind [vs]
theorem zU {f nx:Nat} {mk:List Nat} {n:Int} (h:n=nx) (A:nx < a.length) (C:fC (aC a nx).2) (E:fO a (aC a nx)=true):
 vs a (f+1) (nx,mk) n=((aC a nx).2.foldlM (fun s e=>vs a f s e.2) (nx+1,mk.set nx 1)).map fun s=>(s.1,s.2.set nx 2):=by grind [vs]
theorem G9:∀ (f:Nat) {nx A:Nat} {mk mk':List Nat} {n:Int},vs a f (nx,mk) n=some (A,mk')→nx≤a.length→A≤a.length:=by
 intro f
 induction f with
 | zero=>intro nx A mk mk' n h; cases h
 | succ f ih=>
   intro nx A mk mk' n h hle;have C:∀ (es:List (UInt8×Int)) (nx A:Nat) (mk mk':List Nat),es.foldlM (fun s e=>vs a f s e.2) (nx,mk)=some (A,mk')→nx≤a.length→A≤a.length:=by
    intro es
    induction es with
    | nil=>intro nx A mk mk' h; simp only [oA,oN,bu,gD] at h; obtain ⟨rfl,rfl⟩:=h; exact id
    | cons e es E=>
      intro nx A mk mk' h hle;simp only [oz,oL,oM] at h;obtain ⟨⟨n1,m1⟩,h1,h2⟩:=h;exact E _ _ _ _ h2<|ih h1 hle
   rw [vs] at h;split at h
   · split at h
     · cases h; exact hle
     · cases h
   · split at h
     · cases h
     · split at h
       · simp only [fA] at h;obtain ⟨⟨n1,m1⟩,h1,h2⟩:=h;simp only [gD] at h2;obtain ⟨rfl,rfl⟩:=h2;exact C _ _ _ _ _ h1 U
       · cases h
def eB (a:List aN) (f nx:Nat) (mk:List Nat) (es:List (UInt8×Int)):Option (Nat×List Nat):=es.foldlM (fun s e=>vs a f s e.2) (nx,mk)
theorem Hd {f nx:Nat} {mk:List Nat} {es:List (UInt8×Int)} {e:UInt8×Int} {s:Nat×List Nat} (h:eB a f nx mk es=some s):eB a f nx mk (es++ [e])=vs a f s e.2:=by
 unfold eB at*;rw [A8,h];simp
theorem Hc {f nx:Nat} {mk:List Nat} {es es':List (UInt8×Int)} (h:eB a f nx mk es=none):eB a f nx mk (es++es')=none:=by grind [eB,A8]
theorem qG {f nx:Nat} {mk:List Nat} {es:List (UInt8×Int)} {s:Nat×List Nat} (h:eB a f nx mk es=some s) (hle:nx≤a.length):nx≤s.1∧s.2.length=mk.length∧s.1≤a.length:=by
 unfold eB at h
 induction es generalizing nx mk with
 | nil=>simp only [oA,oN,bu] at h; subst h; exact ⟨aY _,rfl,hle⟩
 | cons e es ih=>
   simp only [oz,oL,oM] at h;obtain ⟨⟨n1,m1⟩,h1,h2⟩:=h;have C:=zV f h1;have A:=ih h2<|G9 f h1 hle;exact ⟨U,U,A.2.2⟩
theorem pY {es:List (UInt8×Int)} {k:Nat} {e:UInt8×Int} (h:fC (es.take k)) (he:es[k]? =some e) (hp:∀ p,0 < k→es[k - 1]? =some p→p.1.toNat < e.1.toNat):fC (es.take<|k+1):=by
 obtain ⟨J,rfl⟩:=cJ.1 he;rw [uZ J];unfold fC at*;refine List.pairwise_append.2 ⟨h,by simp,fun x L y C=> ?_⟩;rw [Bi] at C; subst C;obtain ⟨j,I,rfl⟩:=List.mem_iff_getElem.1 L;simp only [cO] at I;have h1:=hp es[k - 1] U<|bH U;rcases Nat.lt_or_ge j (k - 1) with A | A
 · have E:=Bk.1 h j (k - 1) (by rw [cO]; omega) (by rw [cO]; omega) A;rw [q8,q8] at E;rw [q8]; omega
 · have :j=k - 1:=U;subst this;rw [q8]; exact h1
theorem yo {es:List (UInt8×Int)} {k:Nat} {e p:UInt8×Int} (h0:0 < k) (he:es[k]? =some e) (hp:es[k - 1]? =some p) (h:e.1.toNat≤p.1.toNat):¬fC es:=fun hr=>by
 obtain ⟨A,rfl⟩:=cJ.1 he;obtain ⟨C,rfl⟩:=cJ.1 hp;have :=Bk.1 hr (k - 1) k C A U;omega
theorem zT {f nx:Nat} {mk:List Nat} {s:Nat×List Nat} (A:nx < a.length) (hr:fC (aC a nx).2) (C:eB a f (nx+1) (mk.set nx 1) (aC a nx).2=some s):vs a (f+1) (nx,mk) (nx:Int)=if fO a (aC a nx)=true then some (s.1,s.2.set nx 2) else none:=by
 by_cases h:fO a (aC a nx)=true
 · rw [zU rfl A hr h,if_pos h];unfold eB at C;rw [C]; rfl
 · rw [qE rfl A (fun e=>h e.2),if_neg h]
theorem qF {f nx k:Nat} {mk:List Nat} (C:nx < a.length) (h:eB a f (nx+1) (mk.set nx 1) ((aC a nx).2.take k)=none):vs a (f+1) (nx,mk) (nx:Int)=none:=by
 by_cases A:fC (aC a nx).2∧fO a (aC a nx)=true
 · rw [zU rfl C A.1 A.2];have :=Hc (es':=(aC a nx).2.drop k) h;rw [List.take_append_drop] at this;unfold eB at this;rw [this]; rfl
 · exact qE J C A
theorem zW {f nx:Nat} {mk:List Nat} (A:nx < a.length) (h:¬fC (aC a nx).2):vs a (f+1) (nx,mk) (nx:Int)=none:=qE rfl A (fun e=>h e.1)
theorem G8 {f nx:Nat} {mk:List Nat} (A:nx < a.length) (h:fO a (aC a nx)=false):vs a (f+1) (nx,mk) (nx:Int)=none:=qE rfl A (fun e=>by rw [h] at e; exact Bool.noConfusion e.2)
theorem kf {f nx k:Nat} {mk:List Nat} {es:List (UInt8×Int)} {e:UInt8×Int} {s:Nat×List Nat} (h:eB a f nx mk (es.take k)=some s) (he:es[k]? =some e):eB a f nx mk (es.take<|k+1)=vs a f s e.2:=by
 obtain ⟨A,rfl⟩:=cJ.1 he;rw [uZ A];exact Hd h
theorem xV {q:aN} (h:0 < q.2.length):fO a q=true :=by grind [fO]
theorem xU {q:aN} (h:q.1=true):fO a q=true :=by
 unfold fO; rw [h,Bool.or_true,Bool.true_or]
theorem sP {q:aN} (h:¬0 < q.2.length) (A:q.1=false):fO a q=decide (a.length=1):=by grind [fO,List.eq_nil_of_length_eq_zero]
theorem getD_set_ne (mk:List Nat) {i j:Nat} (x:Nat) (h:i≠j):(mk.set i x).getD j 0=mk.getD j 0:=by grind
theorem Ha:∀ (f:Nat) {nx A:Nat} {mk mk':List Nat} {n:Int},vs a f (nx,mk) n=some (A,mk')→(∀ i,nx≤i→mk.getD i 0=0)→∀ i,A≤i→mk'.getD i 0=0:=by
 intro f
 induction f with
 | zero=>intro nx A mk mk' n h; cases h
 | succ f ih=>
   intro nx A mk mk' n h C;have I:∀ (es:List (UInt8×Int)) (nx A:Nat) (mk mk':List Nat),es.foldlM (fun s e=>vs a f s e.2) (nx,mk)=some (A,mk')→(∀ i,nx≤i→mk.getD i 0=0)→nx≤A∧∀ i,A≤i→mk'.getD i 0=0:=by
    intro es
    induction es with
    | nil=>intro nx A mk mk' h; simp only [oA,oN,bu,gD] at h; obtain ⟨rfl,rfl⟩:=h; exact fun h=>⟨aY _,h⟩
    | cons e es J=>
      intro nx A mk mk' h C;simp only [oz,oL,oM] at h;obtain ⟨⟨n1,m1⟩,h1,h2⟩:=h;have g:=J _ _ _ _ h2<|ih h1 C;exact ⟨cH (zV f h1).1 g.1,g.2⟩
   rw [vs] at h;split at h
   · split at h
     · cases h; exact C
     · cases h
   · split at h
     · cases h
     · split at h
       · simp only [fA] at h;obtain ⟨⟨n1,m1⟩,h1,h2⟩:=h;simp only [gD] at h2;obtain ⟨rfl,rfl⟩:=h2;obtain ⟨L,E⟩:=I _ _ _ _ _ h1 fun i hi=>by rw [getD_set_ne _ _ U]; exact C i U
         exact fun i hi=>by rw [getD_set_ne _ _ U]; exact E i hi
       · cases h
theorem He {f nx:Nat} {mk:List Nat} {es:List (UInt8×Int)} {s:Nat×List Nat} (h:eB a f nx mk es=some s) (A:∀ i,nx≤i→mk.getD i 0=0):∀ i,s.1≤i→s.2.getD i 0=0:=by
 unfold eB at h
 induction es generalizing nx mk with
 | nil=>simp only [oA,oN,bu] at h; subst h; exact A
 | cons e es ih=>
   simp only [oz,oL,oM] at h;obtain ⟨⟨n1,m1⟩,h1,h2⟩:=h;exact ih h2<|Ha f h1 A
theorem qo (h:¬(0 < a.length∧a.length≤1048576)):shaped a=false :=by grind [shaped]
theorem zj (h:vs a (a.length+1) (0,dq a.length 0) 0=none):shaped a=false :=by
 unfold shaped; rw [h,Bool.and_false]
theorem qp {s:Nat×List Nat} (h1:0 < a.length) (A:a.length≤1048576) (h:vs a (a.length+1) (0,dq a.length 0) 0=some s):shaped a=decide (s.1=a.length):=by grind [shaped]
end
end Go.Hb
namespace Go.Hb
structure jS (h:Array Obj) (ea:Option Addr) (es:List (UInt8×Int)):Prop where
 ok:0 < es.length→ea=some ⟨bk ea,fo ea,none⟩
 b:∀ k e,es[k]? =some e→av h (bk ea) (fo ea+k*2 +0)=some (.int .u8 e.1.toNat)
 to:∀ k e,es[k]? =some e→av h (bk ea) (fo ea+k*2 +1)=some (.int .i64 e.2)
theorem jS.wk {w w':ah} {A:Option Addr} {es:List (UInt8×Int)} (h:jS w.heap A es) (hm:Wk w w'):jS w'.heap A es:=⟨h.ok,fun k e he=>hm.av (h.b k e he),fun k e he=>hm.av<|h.to k e he⟩
theorem qC {h:Array Obj} {b o:Nat} {u v:ag} (h0:av h b (o+0)=some u) (h1:av h b (o+1)=some v):∀ j,j < 2→av h b (o+j)= [u,v][j]? :=by grind
theorem jS.two {h:Array Obj} {A:Option Addr} {es:List (UInt8×Int)} (C:jS h A es) {k:Nat} {e:UInt8×Int} (he:es[k]? =some e):∀ j,j < 2→av h (bk A) (fo A+k*2 +j)= [Value.int .u8 e.1.toNat,.int .i64 e.2][j]? :=qC (C.b k e he)<|C.to k e he
structure dg (h:Array Obj) (aa:Option Addr) (a:List aN):Prop where
 ok:0 < a.length→aa=some ⟨bk aa,fo aa,none⟩
 st:∀ i,i < a.length→∃ ea ec,av h (bk aa) (fo aa+i*2 +0)=some (.bool (aC a i).1)∧av h (bk aa) (fo aa+i*2 +1)=some (.slice ea (aC a i).2.length ec)∧jS h ea (aC a i).2
theorem dg.wk {w w':ah} {A:Option Addr} {a:List aN} (h:dg w.heap A a) (hm:Wk w w'):dg w'.heap A a:=
 ⟨h.ok,fun i hi=>by
  obtain ⟨C,E,h1,I,J⟩:=h.st i hi;exact ⟨C,E,hm.av h1,hm.av I,J.wk hm⟩⟩
theorem dg.two {h:Array Obj} {C:Option Addr} {a:List aN} (L:dg h C a) {i:Nat} (hi:i < a.length):∃ A E,(∀ j,j < 2→av h (bk C) (fo C+i*2 +j)= [Value.bool (aC a i).1,.slice A (aC a i).2.length E][j]?)∧jS h A (aC a i).2:=by
 obtain ⟨A,E,h1,I,J⟩:=L.st i hi;exact ⟨A,E,qC h1 I,J⟩
theorem yA {w:ah} {B e size n b:Nat} {xs:List ag} (h:w.ownsRow B e size (.slice (some ⟨b,0,none⟩) n n) n xs):aw w.heap b xs:=by
 rcases h.2 with ⟨hn,_⟩ | ⟨g,cap,cur,C,_,hg,_,_,E,A⟩
 · cases hn
 · simp only [Value.slice.injEq,bu,Addr.mk.injEq,and_true,true_and] at C;obtain ⟨rfl,rfl⟩:=C;rw [oF (by rw [Array.length_toList,E]; exact aY _)] at A;exact ⟨_,by rw [← A]; simpa using hg⟩
theorem fR {w w':ah} {b o:Nat} {u v:ag} (hm:Wk w w') (h:∀ j,j < 2→av w.heap b (o+j)= [u,v][j]?):∀ j,j < 2→av w'.heap b (o+j)= [u,v][j]? :=qC (hm.av<|h 0 U)<|hm.av<|h 1 U
theorem Md.fK {F:Nat→Prop} {w w':ah} (h:Md F w.drew w'):Md F w w':=⟨h.os,h.output,h.size,h.ey⟩
def g8 (n:Nat):ag:= .int .u8 n
theorem vy {h:Array Obj} {b:Nat} {f:Nat→ag} {mk:List Nat} {i:Nat} (hb:aw h b (mk.map f)) (hi:i < mk.length):av h b (0 +i*1)=some (f<|mk.getD i 0):=by
 rw [Nat.mul_one,Nat.zero_add,hb.av,List.getElem?_map,cg,bH hi]; rfl
end Go.Hb
namespace Go.Hb
abbrev Nr:Type :=List UInt8×Nat
theorem yB {w:ah} {B t size n pp t':Nat} {v:ag} {xs:List ag} {cs:Array ag} {z:Nat×Nat} (h:w.ownsRow B t size v n xs) (hp:w.heap[pp]? =some (.cells cs t' z)) (C:t≠t'):v.ownBlock≠some pp:=by
 intro A;rcases h.2 with ⟨h1,_⟩ | ⟨g,cap,cur,h1,_,hg,_⟩
 · rw [h1] at A; simp [ff] at A
 · rw [h1] at A; simp only [ff,bu] at A; subst A;rw [hg] at hp;simp only [bu,Obj.cells.injEq] at hp;exact C hp.2.1
end Go.Hb
namespace Go.Hb
theorem GO {α:Type} {l:List α} {m:Nat} {x:α} (h:l[m]? =some x):l.take (m+1)=l.take m++ [x]:=by
 obtain ⟨A,rfl⟩:=cJ.1 h;exact uZ A
section
variable {P:aq} {N:Fm} {σ:Nat→ag} {w:ah} {ty:an} {pos :String} {af:Array Edge} {g:Option (Nat×Bool)} {x y:aT} {K:(Nat→ag)→ah→Prop}
end
end Go.Hb
namespace Go.Hb
def y8 (l:List Nr) (c d:Nat):List Nr:=(l.drop c).take<|d - c
end Go.Hb
namespace Go.Hb
end Go.Hb
end
section
namespace Go.Hb
def c8:List UInt8→Nat
 | []=>0
 | b::l=>b.toNat % 128 +128 *c8 l
theorem sQ:∀ (l m:List UInt8),c8 (l++m)=c8 l+128 ^ l.length*c8 m
 | [],m=>by simp [c8]
 | b::l,m=>by
   rw [List.cons_append,c8,c8,sQ l m,cZ,rl,Nat.mul_add,← Nat.mul_assoc,Nat.mul_comm 128 (128 ^ l.length)]; omega
theorem pE:∀ (l:List UInt8),c8 l < 128 ^ l.length
 | []=>by simp [c8]
 | b::l=>by
   have :=pE l;rw [c8,cZ,rl]; omega
def eO (l:List UInt8):Nat:=((l.take 10).takeWhile fun b=>decide (128≤b.toNat)).length
theorem zK {f:UInt8→Bool} :∀ {l:List UInt8} {k:Nat},(∀ j,j < k→j < l.length∧f (l.getD j 0)=true)→(l.length≤k∨f (l.getD k 0)=false)→(l.takeWhile f).length=k
 | [],k,h,_=>by
   cases k with
   | zero=>rfl
   | succ k=>have :=(h 0 U).1; simp at this
 | b::l,0,_,A=>by
   rcases A with A | A
   · simp at A
   · simp only [q7] at A;rw [Bn,A]; rfl
 | b::l,k+1,h1,A=>by
   have h0:=(h1 0 U).2;simp only [q7] at h0;rw [Bn,h0,if_pos rfl,cZ,zK (k:=k) (fun j C=>by have :=h1 (j+1) U; simpa using this) (by simpa using A)]
theorem zE {l:List UInt8} {n j:Nat} (h:j < n):(l.take n).getD j 0=l.getD j 0:=by
 rw [cg,List.getElem?_take_of_lt h,cg]
theorem wz {l:List UInt8} {n j:Nat} :(l.drop n).getD j 0=l.getD (n+j) 0:=by
 rw [cg,gU,cg]
theorem iq {s:List UInt8} {a k:Nat} (J:k≤10) (h:∀ j,j < k→a+j < s.length∧128≤(s.getD (a+j) 0).toNat) (A:k=10∨s.length≤a+k∨(s.getD (a+k) 0).toNat < 128):eO (s.drop a)=k:=by
 unfold eO;refine zK (fun j E=> ?_) ?_
 · obtain ⟨h1,C⟩:=h j E;refine ⟨by rw [cO,gV]; omega,?_⟩;rw [zE U,wz];exact decide_eq_true C
 · rcases A with A | A | A
   · exact .inl<|by rw [cO]; omega
   · exact .inl<|by rw [cO,gV]; omega
   · by_cases I:k=10
     · exact .inl<|by rw [cO]; omega
     · refine .inr ?_;rw [zE U,wz];exact decide_eq_false U
def aU (s:List UInt8) (a:Nat):Except Nat (Nat×Nat):=
 if eO (s.drop a)=10 then .error 61 else if s.length≤a+eO (s.drop a) then .error 60
 else if (eO (s.drop a)=9∧1 < (s.getD (a+eO (s.drop a)) 0).toNat)∨(0 < eO (s.drop a)∧(s.getD (a+eO (s.drop a)) 0).toNat=0) then .error 61
 else .ok (c8 ((s.drop a).take<|eO (s.drop a)+1),a+eO (s.drop a)+1)
section
variable {s:List UInt8} {a k n p:Nat}
theorem yU (h:eO (s.drop a)=10):aU s a= .error 61:=by unfold aU; rw [if_pos h]
theorem qc (h:eO (s.drop a)=k) (A:k≠10) (C:s.length≤a+k):aU s a= .error 60:=by unfold aU; rw [h,if_neg A,if_pos C]
theorem mP (h:eO (s.drop a)=k) (C:k≠10) (E:a+k < s.length) (A:(k=9∧1 < (s.getD (a+k) 0).toNat)∨(0 < k∧(s.getD (a+k) 0).toNat=0)):aU s a= .error 61:=by
 unfold aU; rw [h,if_neg C,if_neg U,if_pos A]
theorem qa (h:eO (s.drop a)=k) (C:k≠10) (E:a+k < s.length) (A:¬((k=9∧1 < (s.getD (a+k) 0).toNat)∨(0 < k∧(s.getD (a+k) 0).toNat=0))):aU s a= .ok (c8 ((s.drop a).take<|k+1),a+k+1):=by
 unfold aU; rw [h,if_neg C,if_neg U,if_neg A]
theorem gO (h:aU s a= .ok (n,p)):a < p∧p≤s.length∧n < 18446744073709551616:=by
 unfold aU at h;split at h
 · cases h
 · split at h
   · cases h
   · split at h
     · cases h
     · rename_i h1 L M;simp only [Except.ok.injEq,gD] at h;obtain ⟨rfl,rfl⟩:=h;refine ⟨U,U,?_⟩;have Z:eO (s.drop a)≤10:=by
        unfold eO;exact cH (List.takeWhile_sublist _).length_le<|by rw [cO]; omega
       generalize V:eO (s.drop a)=k at*;have aJ:=pE<|(s.drop a).take<|k+1;have hlen:((s.drop a).take<|k+1).length=k+1:=by rw [cO,gV]; omega
       by_cases J:k=9
       · subst J;rw [show (9:Nat)+1=10 from rfl,List.take_add_one,sQ];have A:=pE<|(s.drop a).take 9;have E:((s.drop a).take 9).length=9:=by rw [cO,gV]; omega
         rw [E] at A ⊢;have I:(s.drop a)[9]? =some (s.getD (a+9) 0):=by
          rw [gU,cg,bH U]; rfl
         rw [I];simp only [Option.toList_some,c8];have O:(s.getD (a+9) 0).toNat≤1:=U;have C:(128:Nat) ^ 9=9223372036854775808:=aI;rw [C] at A ⊢;omega
       · rw [hlen] at aJ;have :(128:Nat) ^ (k+1)≤128 ^ 9:=Nat.pow_le_pow_right aI U;have C:(128:Nat) ^ 9=9223372036854775808:=aI;omega
end
def bL {α:Type} (f:Nat→Except Nat (α×Nat)):Nat→Nat→Except Nat (List α×Nat)
 | 0,a=> .ok ([],a)
 | k+1,a=>match bL f k a with
   | .error e=> .error e
   | .ok (l,p)=>match f p with
     | .error e=> .error e
     | .ok (x,q)=> .ok (l++ [x],q)
section
variable {α:Type} {f:Nat→Except Nat (α×Nat)} {k n a p q e:Nat} {l:List α} {x:α}
theorem j3 (h:bL f k a= .ok (l,p)) (A:f p= .ok (x,q)):bL f (k+1) a= .ok (l++ [x],q):=by rw [bL,h]; simp only [A]
theorem fN (h:bL f k a= .ok (l,p)) (A:f p= .error e) (hn:k < n):bL f n a= .error e:=by
 have h1:bL f (k+1) a= .error e:=by rw [bL,h]; simp only [A]
 obtain ⟨d,rfl⟩:∃ d,n=k+1 +d:=⟨n - (k+1),U⟩
 clear hn
 induction d with
 | zero=>exact h1
 | succ d ih=>rw [← Nat.add_assoc,bL,ih]
theorem gh:∀ {k:Nat} {l:List α} {p:Nat},bL f k a= .ok (l,p)→l.length=k
 | 0,l,p,h=>by cases h; rfl
 | k+1,l,p,h=>by
   rw [bL] at h;split at h
   · cases h
   · rename_i C p2 A;split at h
     · cases h
     · cases h;rw [List.length_append,gh A]; rfl
theorem kR {R:Nat→Prop} {S:α→Prop} (E:∀ p x q,R p→f p= .ok (x,q)→R q∧S x):∀ {k:Nat} {l:List α} {p:Nat},R a→bL f k a= .ok (l,p)→R p∧∀ x∈l,S x
 | 0,l,p,ha,h=>by cases h; exact ⟨ha,fun x C=>by simp at C⟩
 | k+1,l,p,ha,h=>by
   rw [bL] at h;split at h
   · cases h
   · rename_i U p2 I;obtain ⟨J,L⟩:=kR E ha I;split at h
     · cases h
     · rename_i x q C;cases h;obtain ⟨M,O⟩:=E _ _ _ J C;refine ⟨M,fun y A=> ?_⟩;rcases List.mem_append.1 A with A | A
       · exact L y A
       · rw [Bi.1 A]; exact O
end
def cn (s:List UInt8) (a:Nat):Except Nat (List UInt8×Nat):=match aU s a with
 | .error e=> .error e
 | .ok (n,p)=>if 255 < n then .error 62 else if s.length < p+n then .error 60 else .ok ((s.drop p).take n,p+n)
def eZ (s:List UInt8) (a:Nat):Except Nat ((List UInt8×List UInt8)×Nat):=match cn s a with
 | .error e=> .error e
 | .ok (f,p)=>match cn s p with
   | .error e=> .error e
   | .ok (t,q)=> .ok ((f,t),q)
def dt (s:List UInt8) (n a:Nat):Except Nat ((UInt8×Int)×Nat):=if s.length≤a then .error 60 else match aU s (a+1) with
 | .error e=> .error e
 | .ok (t,p)=>if n≤t then .error 190 else .ok ((s.getD a 0,(t:Int)),p)
def eo (s:List UInt8) (n a:Nat):Except Nat (aN×Nat):=match aU s a with
 | .error e=> .error e
 | .ok (v,p)=>if 256 < v / 2 then .error 190 else match bL (dt s n) (v / 2) p with
   | .error e=> .error e
   | .ok (es,q)=> .ok ((decide (v % 2=1),es),q)
def bZ (s:List UInt8) (a:Nat):Except Nat (List aN×Nat):=match aU s a with
 | .error e=> .error e
 | .ok (n,p)=>if n=0∨1048576 < n then .error 190 else match bL (eo s n) n p with
   | .error e=> .error e
   | .ok (l,q)=>if shaped l=true then .ok (l,q) else .error 190
def fu (r:List UInt8×List UInt8):Bool:=decide (r.1≠[]) && (eI r.1 && decide (r.1.length≤32)) && (eI r.2 && decide (r.2.length≤32))
def dv (n:Nat) (t:List UInt8) (rs:List (List UInt8×List UInt8)):Bool:=decide (1≤n∧n≤64∧rs.length≤256) && (decide (t= []) || decide (letE t=(t,0))) && rs.all fu
structure cI where
 least:Nat
 tr:List UInt8
 bW:List (List UInt8×List UInt8)
 bw:List (List aN)
def dM:List UInt8:= [72,66,75,49]
def eJ (s:List UInt8) (n:Nat) (t:List UInt8) (rs:List (List UInt8×List UInt8)) (a:Nat):Except Nat cI:=
 if dv n t rs=true then match bL (bZ s) 4 a with
  | .error e=> .error e
  | .ok (l,p)=>if p=s.length then .ok ⟨n,t,rs,l⟩ else .error 202
 else .error 201
def bE (s:List UInt8):Except Nat cI:=
 if s.take 4=dM then match aU s 4 with
  | .error e=> .error e
  | .ok (n,p1)=>match cn s p1 with
    | .error e=> .error e
    | .ok (t,p2)=>match aU s p2 with
      | .error e=> .error e
      | .ok (m,p3)=>if 256 < m then .error 201 else match bL (eZ s) m p3 with
        | .error e=> .error e
        | .ok (rs,p4)=>eJ s (if n≤64 then n else 0) t rs p4
 else .error 200
section
variable {s:List UInt8} {a n p:Nat}
theorem mw {f:List UInt8} (h:cn s a= .ok (f,p)):a < p∧p≤s.length∧f.length≤255:=by
 unfold cn at h;split at h
 · cases h
 · rename_i n q A;obtain ⟨h1,C,_⟩:=gO A;split at h
   · cases h
   · split at h
     · cases h
     · cases h;exact ⟨U,U,by rw [cO]; omega⟩
theorem FE {r:List UInt8×List UInt8} (h:eZ s a= .ok (r,p)):a < p∧p≤s.length∧r.1.length≤255∧r.2.length≤255:=by
 unfold eZ at h;split at h
 · cases h
 · rename_i f q I;obtain ⟨h1,L,A⟩:=mw I;split at h
   · cases h
   · rename_i t O J;obtain ⟨M,C,E⟩:=mw J;cases h;exact ⟨U,C,A,E⟩
theorem Dh {e:UInt8×Int} (h:dt s n a= .ok (e,p)):a < p∧p≤s.length∧0≤e.2∧e.2 < n:=by
 unfold dt at h;split at h
 · cases h
 · split at h
   · cases h
   · rename_i t q C;obtain ⟨h1,A,_⟩:=gO C;split at h
     · cases h
     · cases h;exact ⟨U,A,by show (0:Int)≤(t:Int); omega,by show (t:Int) < n; omega⟩
theorem n7 {x:aN} (h:eo s n a= .ok (x,p)):a < p∧p≤s.length∧x.2.length≤256∧∀ e∈x.2,0≤e.2∧e.2 < n:=by
 unfold eo at h;split at h
 · cases h
 · rename_i v q L;obtain ⟨h1,I,_⟩:=gO L;split at h
   · cases h
   · split at h
     · cases h
     · rename_i es aa A;have Z:=gh A;obtain ⟨⟨V,J⟩,h5⟩:=kR (R:=fun p=>q≤p∧p≤s.length) (S:=fun e:UInt8×Int=>0≤e.2∧e.2 < n) (fun p x q' hr M=>by
        obtain ⟨O,C,E⟩:=Dh M;exact ⟨⟨U,C⟩,E⟩) ⟨aY _,I⟩ A
       cases h;exact ⟨U,J,by show es.length≤256; omega,h5⟩
theorem y7 {l:List aN} (h:bZ s a= .ok (l,p)):a < p∧p≤s.length∧shaped l=true∧l.length≤1048576∧∀ x∈l,x.2.length≤256∧∀ e∈x.2,0≤e.2∧e.2 < l.length:=by
 unfold bZ at h;split at h
 · cases h
 · rename_i n q M;obtain ⟨h1,I,_⟩:=gO M;split at h
   · cases h
   · split at h
     · cases h
     · rename_i ab ac A;have L:=gh A;obtain ⟨⟨aa,J⟩,h5⟩:=kR (R:=fun p=>q≤p∧p≤s.length) (S:=fun x:aN=>x.2.length≤256∧∀ e∈x.2,0≤e.2∧e.2 < n) (fun p x q' hr V=>by
        obtain ⟨Z,C,E⟩:=n7 V;exact ⟨⟨U,C⟩,E⟩) ⟨aY _,I⟩ A
       split at h
       · cases h;rename_i O;exact ⟨U,J,O,U,by rw [L]; exact h5⟩
       · cases h
structure cI.Is (s:List UInt8) (b:cI):Prop where
 least:1≤b.least∧b.least≤64
 yp:b.bW.length≤256
 bW:∀ r∈b.bW,r.1≠[]∧r.1.length≤32∧r.2.length≤32
 tr:b.tr.length≤255
 pL:b.bw.length=4
 bw:∀ l∈b.bw,shaped l=true∧l.length≤1048576∧∀ x∈l,x.2.length≤256∧∀ e∈x.2,0≤e.2∧e.2 < l.length
theorem wj {b:cI} (h:bE s= .ok b):b.Is s:=by
 unfold bE at h;split at h
 · split at h
   · cases h
   · rename_i n p1 h1;split at h
     · cases h
     · rename_i t p2 L;split at h
       · cases h
       · rename_i m p3 O;split at h
         · cases h
         · split at h
           · cases h
           · rename_i rs p4 U;generalize (if n≤64 then n else 0)=n0 at h;unfold eJ at h;split at h
             · rename_i A;split at h
               · cases h
               · rename_i l p5 C;split at h
                 · cases h;unfold dv at A;simp only [aV,decide_eq_true_eq,List.all_eq_true] at A;obtain ⟨⟨⟨E,I,J⟩,_⟩,g4⟩:=A;refine ⟨⟨E,I⟩,J,fun r hr=> ?_,(mw L).2.2,gh C,(kR (R:=fun _=>True) (fun p x q _ M=>⟨trivial,(y7 M).2.2⟩) trivial C).2⟩;have :=g4 r hr;unfold fu at this;simp only [aV,decide_eq_true_eq] at this;exact ⟨this.1.1,this.1.2.2,this.2.2⟩
                 · cases h
             · cases h
 · cases h
end
end Go.Hb
end
section
namespace Go.Hb
section
variable {P:aq} {N:Fm} {σ:Nat→ag} {w:ah} {dst:Option Nat} {ty:an} {pos :String} {af:Array Edge} {g:Option (Nat×Bool)} {x y:aT}
theorem r9 (d:Nat) {t e:an} {a:Option Addr} {n c:Nat} (hu:P.underlying t=some (.slice e)):(Op.equalIn (d+1) t (.slice a n c)<|.slice none 0 0).run P w= .ok a.isNone w:=by
 cases a <;> simp [Op.equalIn,ba hu]
theorem Dt {t e:an} {a:Option Addr} {n c:Nat} (hu:P.underlying t=some (.slice e)):(Op.equal t (.slice a n c)<|.slice none 0 0).run P w= .ok a.isNone w:=r9 9999 hu
theorem sa {t t' e:an} {a:Option Addr} {n c:Nat} (hu:P.underlying t=some (.slice e)) (A:ev N σ x= .slice a n c) (C:ev N σ y= .slice none 0 0):
 (execOp (ev N σ) ⟨dst,.binOp .eql t x y t',ty,pos,af,g⟩).run P w= .ok (.value<|.bool a.isNone) w:=by
 have h:(binOp .eql t (.slice a n c)<|.slice none 0 0).run P w= .ok (.bool a.isNone) w:=by
  simp only [binOp]; simp [Dt hu]
 simp [execOp,A,C,eqGuard,h]
end
section
variable {P:aq} {N:Fm} {σ:Nat→ag} {w:ah} {dst:Option Nat} {ty:an} {pos :String} {af:Array Edge} {g:Option (Nat×Bool)} {x y z u:aT} {K:(Nat→ag)→ah→Prop}
theorem Gc {t n len cap:Nat} {a:Option Addr} {k I J:IntKind} {i j m:Nat} (he:cK P t=some n) (A:ev N σ x= .slice a len cap) (C:ev N σ y= .int k (i:Nat)) (E:ev N σ z= .int I (j:Nat)) (hu:ev N σ u= .int J (m:Nat)) (h:i≤j∧j≤m∧m≤cap):
 (execOp (ev N σ) ⟨dst,.slice t x (some y) (some z) (some u),ty,pos,af,g⟩).run P w= .ok (.value<|.slice (dw a m i n) (j - i)<|m - i) w:=by
 have h1:(0:Int)≤(i:Int):=U;have L:(0:Int)≤(j:Int):=U;have M:(0:Int)≤(m:Int):=U;unfold cK at he;cases hd:P.underlying t with
 | none=>rw [hd] at he; cases he
 | some d=>
   rw [hd] at he;cases d <;> first | (cases he; done) | skip
   rename_i e;cases hi':P.info? e with
   | none=>simp [hi'] at he
   | some q=>
     simp only [hi',eu,bu] at he;subst he;simp only [execOp,lN,Instr.slice,A,C,E,hu,eu,ja,Instr.sliceBound,asIntOf];simp [ba hd,cG hi',sizeOf,h.1,h.2.1,h.2.2,dw]
end
end Go.Hb
end
section
namespace Go.Hb
def DY (f:Nat→Nat) (es:List (UInt8×Int)):Nat:=es.foldl (fun m e=>max m<|f e.2.toNat+1) 0
def hg (a:List aN):Nat→Nat→Nat
 | 0,_=>0
 | f+1,n=>DY (hg a f) (aC a n).2
section
variable {a:List aN} {l:List Nat}
end
end Go.Hb
end
section
namespace Go.Hb
theorem Ee (c:UInt8):∀ l:List UInt8,AL l c=jr c l:=by
 intro l
 induction l with
 | nil=>rfl
 | cons b l ih=>
   unfold AL;rw [ih];rw [show jr c (b::l)=if (b::l).idxOf c < (b::l).length then ((b::l).idxOf c:Int) else -1 from rfl,List.idxOf_cons];by_cases h:(b==c)=true
   · rw [if_pos h,h]; rfl
   · have h':(b==c)=false :=by simpa using h
     rw [if_neg h,h'];simp only [cond_false,cZ];by_cases h1:l.idxOf c < l.length
     · have A:jr c l=l.idxOf c:=if_pos h1;rw [A,if_neg (fun hb=>by have :=eq_of_beq hb; omega),if_pos U]; rfl
     · have A:jr c l= -1:=if_neg h1;rw [A,if_pos aI,if_neg U]
theorem FR {P:aq} {f:FuncId} {fn:Func} (A:P.funcs[f]? =some fn) (C:(fn.name== "runtime.NumGoroutine")=false) (hb:fn.body.isNone=true) (hn:Extern.findNext fn=none)
 (he:Extern.find fn=some H5) (l:List UInt8) (c:UInt8) (w:ah):(callFunc f #[str l,.int .u8 c.toNat]).run P w= .ok (.value<|.int .i64<|jr c l) w:=by
 rw [run_callFunc_extern A C hb hn he];unfold str;rw [Lib.run_indexByteString];have h1:((c.toNat:Int)).toNat.toUInt8=c:=UInt8.toNat_inj.1<|by simp
 rw [h1,Ee];rfl
section
variable {P:aq} {N:Fm} {σ:Nat→ag} {w:ah} {dst:Option Nat} {ty:an} {pos :String} {af:Array Edge} {g:Option (Nat×Bool)}
end
end Go.Hb
end
section
namespace Go.Hb
section
variable {B B':Nat} {fp fp' fp'':Nat→Prop} {w w' w'':ah}
end
section
variable {F fp:Nat→Prop} {W W':ah} {B:Nat}
end
section
variable {P:aq} {N:Fm} {ops:Array Oper} {Q:Exit→(Nat→ag)→ah→Prop} {rest:List Oper} {σ:Nat→ag} {w:ah} {d':Option Nat} {d:Nat} {op:Op} {ty:an} {pos :String} {af:Array Edge} {v:ag}
end
section
variable {P:aq} {n:Nat} {F:List Nat} {σ:Nat→ag} {w:ah} {fn:Func} {R:ag→ah→Prop}
end
def si (P:aq) (s f:Nat):Option Nat:=
 match P.underlying s with
 | some (.struct A)=>match A[f]? with
   | some fd=>if cB P fd.type=some none then some fd.offset else none
   | none=>none
 | _=>none
theorem yV {P:aq} {t:Nat} (hu:cB P t=some none) (w:ah):(isAgg t).run P w= .ok false w:=by
 unfold cB at hu;cases hd:P.underlying t with
 | none=>rw [hd] at hu; cases hu
 | some d=>
   rw [hd] at hu;cases d <;> first
    | (simp only [fA] at hu; obtain ⟨_,_,h⟩:=hu; cases h; done)
    | simp [isAgg,ba hd]
theorem DC {P:aq} {N:Fm} {σ:Nat→ag} {w:ah} {dst:Option Nat} {ty:an} {pos :String} {af:Array Edge} {g:Option (Nat×Bool)} {x:aT} {s f n:Nat} {cs:Array ag} {v:ag} (A:si P s f=some n) (I:ev N σ x= .agg cs) (E:cs[n]? =some v):
 (execOp (ev N σ) ⟨dst,.field s x f,ty,pos,af,g⟩).run P w= .ok (.value v) w:=by
 unfold si at A;split at A
 · rename_i J hu;split at A
   · rename_i fd C;split at A
     · rename_i ha;cases A;simp [execOp,AF,ba hu,C,I,asAgg,part,yV ha,E]
     · cases A
   · cases A
 · cases A
section
variable {P:aq} {ops:Array Oper} {Q:Exit→Act→ah→Prop} {S:ah→Prop} {md:lS}
def z4 (P:aq) (md:lS) (ops:Array Oper) (Q:Exit→Act→ah→Prop) (S:ah→Prop):Nat→Array Bool→Act→ah→Prop
 | 0,listed,a,w=>dn md ops listed= []∧Q .normal a w
 | fuel+1,listed,a,w=>
   (dn md ops listed= []→Q .normal a w)∧
   ∀ i∈dn md ops listed,wpOpIn Fence.wide 0 P ops Q i (fun A w'=>S w'∧z4 P md ops Q S fuel (listed.setIfInBounds i true) A w') a w
end
def HL (P:aq) (N:Fm) (ops:Array Oper) (Q:Exit→(Nat→ag)→ah→Prop) (S:ah→Prop) (fuel:Nat) (listed:Array Bool) (σ:Nat→ag) (w:ah):Prop :=
 z4 P .any ops (lift N Q) S fuel listed (act N σ) w
section
variable {P:aq} {N:Fm} {ops:Array Oper} {Q:Exit→(Nat→ag)→ah→Prop} {σ:Nat→ag} {w:ah} {d':Option Nat} {d:Nat} {op:Op} {ty:an} {pos :String} {af:Array Edge} {v:ag}
variable {S:ah→Prop} {fuel:Nat} {listed:Array Bool}
end
attribute [irreducible] HL
end Go.Hb
end
section
namespace Go.Hb
theorem F2 {L:List ag} {o:Nat} {v:ag} (h:o < L.length):(L.set o v).take (o+1)=L.take o++ [v]:=by grind [List.set_eq_take_append_cons_drop,List.take_append,cO,Nat.min_eq_left,Nat.add_sub_cancel_left,oF]
theorem F0 {L:List ag} {o m:Nat} {v:ag} (h:o < m):(L.set o v).drop m=L.drop m:=by
 rw [List.drop_set,if_pos h]
section
variable {P:aq} {N:Fm} {σ:Nat→ag} {w:ah} {ty:an} {pos :String} {af:Array Edge} {g:Option (Nat×Bool)} {x:aT} {K:(Nat→ag)→ah→Prop}
end
end Go.Hb
end
section
namespace Go.Hb
section
variable {P:aq} {N:Fm} {σ:Nat→ag} {w:ah} {dst:Option Nat} {ty:an} {pos :String} {af:Array Edge} {g:Option (Nat×Bool)} {x:aT}
theorem B3 {t n C b:Nat} (he:jh P t=some (n,C)) (A:ev N σ x= .pointer (some ⟨b,0,none⟩)):
 (execOp (ev N σ) ⟨dst,.slice t x none none none,ty,pos,af,g⟩).run P w= .ok (.value<|.slice (some ⟨b,0,none⟩) n n) w:=by
 unfold jh at he;cases hd:P.underlying t with
 | none=>rw [hd] at he; cases he
 | some d=>
   rw [hd] at he;cases d <;> first | (cases he; done) | skip
   rename_i m e;cases hi:P.info? e with
   | none=>simp [hi] at he
   | some j=>
     simp only [hi,eu,bu,gD] at he;obtain ⟨rfl,rfl⟩:=he;simp [execOp,lN,Instr.sureAddr,ja,A,ba hd,sizeOf,cG hi,eH]
def sj (P:aq) (t f:Nat):Option (Nat×Nat):=
 match P.underlying t with
 | some (.struct A)=>(A[f]?).map fun d=>(d.type,d.offset)
 | _=>none
theorem DK {t f A off n:Nat} {cs vs:List ag} (h:sj P t f=some (A,off)) (ha:cB P A=some (some n)) (I:ev N σ x= .agg cs.toArray) (E:(cs.drop off).take n=vs):
 (execOp (ev N σ) ⟨dst,.field t x f,ty,pos,af,g⟩).run P w= .ok (.value<|.agg vs.toArray) w:=by
 subst E;unfold sj at h;cases hd:P.underlying t with
 | none=>rw [hd] at h; cases h
 | some d=>
   rw [hd] at h;cases d <;> first | (cases h; done) | skip
   rename_i J;simp only [fA] at h;obtain ⟨fd,C,he⟩:=h;cases he;unfold cB at ha;cases hd2:P.underlying fd.type with
   | none=>rw [hd2] at ha; cases ha
   | some d2=>
     rw [hd2] at ha;cases hi:P.info? fd.type with
     | none=>simp [Program.underlying,hi] at hd2
     | some i=>
       rw [hi] at ha;have L:cs.toArray.extract fd.offset (fd.offset+n)=((cs.drop fd.offset).take n).toArray:=by simp
       cases d2 <;> first
        | (cases ha; done)
        | (simp only [eu,bu] at ha; subst ha
           simp [execOp,AF,ba hd,C,I,asAgg,part,isAgg,ba hd2,sizeOf,cG hi])
end
end Go.Hb
end
section
set_option linter.unusedSimpArgs false
namespace Go.Hb
open Classical
structure vg (P:aq) (k:an) (cD:ag→Prop):Prop where
 key:l5 P k cD
 stays:∀ w v,cD v→(ot v v).run P w= .ok v w
def Eb (v:ag):Prop := ∃ s:List UInt8,v=str s
def xH (q:IntKind) (v:ag):Prop := ∃ a:Int,v= .int q a
theorem xm {d:TypeDesc} {cD:ag→Prop} (L:∀ x y,cD x→cD y→∃ A,uK d x y=some A∧(A=true↔x=y)) {x:ag} (M:cD x):∀ (es:List MapEntry) (i:Nat),(∀ e∈es,cD e.key)→
 (lM d x es i=some none∧∀ e∈es,e.key≠x)∨∃ j e,lM d x es i=some (some (i+j,e.val))∧es[j]? =some e∧e.key=x
 | [],i,_=> .inl ⟨rfl,fun _ h=>by simp at h⟩
 | e::es,i,h=>by
   obtain ⟨A,h1,J⟩:=L x e.key M<|h e<|by simp
   cases A with
   | true =>exact .inr ⟨0,e,by simp [lM,h1],rfl,(J.1 rfl).symm⟩
   | false =>
     have V:e.key≠x:=fun U=>by cases J.2 U.symm
     rcases xm L M es (i+1) (fun e he=>h e<|by simp [he]) with ⟨C,E⟩ | ⟨j,e',C,E,O⟩
     · refine .inl ⟨by simp [lM,h1,C],fun e' I=> ?_⟩;rcases List.mem_cons.1 I with rfl | I
       · exact V
       · exact E e' I
     · refine .inr ⟨j+1,e',?_,E,O⟩;simp only [lM,h1,C]; rw [show i+1 +j=i+(j+1) from by omega]
theorem xN {P:aq} {k:an} {d:TypeDesc} {cD:ag→Prop} (E:P.underlying k=some d) (L:∀ x y,cD x→cD y→∃ C,uK d x y=some C∧(C=true↔x=y)) (J:∀ em w v,cD v→(iY em 10000 k v).run P w= .ok () w):l5 P k cD where
 check:=J
 find w x es hx hes:=by
  rcases xm L hx es 0 hes with ⟨h1,A⟩ | ⟨j,e,h1,A,I⟩
  · exact .inl ⟨by simp [lL,ba E,h1],A⟩
  · exact .inr ⟨j,e,by simp [lL,ba E,h1],A,I⟩
theorem vx (a b:ByteArray):(a==b)=decide (a=b):=by
 rw [Bool.eq_iff_iff,decide_eq_true_iff];show ((a.data==b.data)=true)↔_;rw [beq_iff_eq];exact ⟨fun h=>by cases a; cases b; cases h; rfl,fun h=>by rw [h]⟩
theorem xM {P:aq} {k:an} (A:P.underlying k=some .string):vg P k Eb where
 key:=xN A (by
  rintro _ _ ⟨a,rfl⟩ ⟨b,rfl⟩;refine ⟨_,J,?_⟩;rw [vx,decide_eq_true_iff];constructor
  · intro h; unfold str; rw [h]
  · intro h; unfold str at h; cases h; rfl) (by rintro em w _ ⟨a,rfl⟩; exact vG (n:=9999) A w)
 stays w v hv:=by obtain ⟨a,rfl⟩:=hv; simp [ot,AJ,str,vx]
theorem Cv {P:aq} {k:an} {q r:IntKind} {em:Bool} {n:Nat} {a:Int} (A:P.underlying k=some (.int q)) (w:ah):(iY em (n+1) k<|.int r a).run P w= .ok () w:=by
 simp only [iY,Sem.run_bind,ba A,Result.andThen_ok,Sem.run_pure]
theorem xL {P:aq} {k:an} {q r:IntKind} (A:P.underlying k=some (.int q)):vg P k (xH r) where
 key:=xN A (by
  rintro _ _ ⟨a,rfl⟩ ⟨b,rfl⟩;refine ⟨decide (a=b),by simp [uK]; rfl,?_⟩;rw [decide_eq_true_iff];exact ⟨fun h=>by rw [h],fun h=>by cases h; rfl⟩) (by rintro em w _ ⟨a,rfl⟩; exact Cv (n:=9999) A w)
 stays w v hv:=by obtain ⟨a,rfl⟩:=hv; simp [ot,AJ]
section
variable {P:aq} {N:Fm} {σ:Nat→ag} {w:ah} {dst:Option Nat} {ty:an} {pos :String} {af:Array Edge} {g:Option (Nat×Bool)} {x y z:aT} {K:(Nat→ag)→ah→Prop}
variable {t k e:an} {cD:ag→Prop} {b:Nat} {f:ag→Option ag} {kx v zv:ag}
end
end Go.Hb
end
