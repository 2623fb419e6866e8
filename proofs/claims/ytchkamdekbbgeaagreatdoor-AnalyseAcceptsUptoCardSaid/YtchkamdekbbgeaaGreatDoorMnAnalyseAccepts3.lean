/-
  Walks and plain laws that the law rests on, laid together. No conditions but those that each theorem names.
-/
import Derived.Test.YtchkamdekbbgeaaGreatDoorMnAnalyseAccepts2
set_option linter.unusedVariables false
set_option maxRecDepth 20000
set_option maxHeartbeats 1000000
open Array renaming getElem?_eq_some_iff→dD
open Bool renaming eq_iff_iff→sg,noConfusion→dM,or_eq_false_iff→po
open Go renaming Addr→bF,Value→ag,World→ak
open Go.IntKind renaming u64→eU
open Go.Proofs.Tryz renaming prog→az
open Go.Sort renaming Below→Ei,PermIn→pA,SortedIn→uU,heapBuild→Mk,heapSort→Ml,insInner→Mm,insertionSort→Mn,partLoop→Ek,partialIns→sr,partialInsertionSort→uV,partition→su,partitionEqual→xr,permIn_refl→Mo,permIn_trans→tz,reverseRange→El,scanDown→pB,scanSorted→uW,scanUp→pC,shiftDown→zU,shiftUp→Em,siftDown→sv,swp→cX
open Go.Sort.Below renaming perm→Ej
open Go.Value renaming bool→bR,int→gq,oneCell'→fX,pointer→Mp,slice→bQ,tuple→gR
open Go.Value.slice renaming injEq→mq
open Go.World renaming ownsRow→bo,ownsRow_nil→dE
open List renaming append_assoc→eX,append_nil→ez,count_le_length→uY,count_pos_iff→zX,drop_drop→tA,drop_eq_nil_of_le→iR,getD_eq_getElem?_getD→cH,getElem?_eq_getElem→bY,length→jr,length_append→bG,length_drop→fP,length_eq_zero_iff→Ad,length_map→fC,length_nil→gr,length_pos_iff→mu,length_replicate→pE,length_singleton→fg,length_take→dJ,map_append→gS,replicate→ku,take_of_length_le→eY,take_zero→pH,toArray→a7
open Nat renaming blt→gu,le_refl→cE,lt_or_ge→fG
open Prod renaming fst→gU
open UInt8 renaming toNat_inj→lC,toNat_lt→js
open Go.Proofs.Tryz
open Go.Proofs

namespace Go.Hb.eH
def lu (l:List (Tx×Tx)):List ag:=l.flatMap fun p=> [str p.1,str p.2]
def oU (c:di):List ag:= [bf c.flag,.int .i64 (c.kind:Nat),.bool c.eB,.int .i64 (c.first:Nat),.int .i64 (c.count:Nat)]
def nZ (l:List di):List ag:=l.flatMap oU
def eS (q:cJ×ag):List ag:= [.int .i64 (q.1.kind:Nat),bf q.1.flag,.bool q.1.eB,str q.1.strip,str q.1.add,str q.1.cond,q.2]
def iw (l:List (cJ×ag)):List ag:=l.flatMap eS
structure dw where
 rb:Nat
 fb:Nat
 ms:Nat
 mt:Nat
 mc:Nat
 eof:Nat
structure fy where
 v9:ag
 v10:ag
 v11:ag
 v12:ag
 sa:List ag
 rn:List ag
structure iD where
 vr:ag
 vs:List (Nat×ag)
 vn:ag
def pS (F:aE) (V:fy) (mc:Nat):List ag:= [.int .i64 (F.kind:Nat),str F.sL,str F.tr,bf (F.sp.getD 0 0),bf (F.sp.getD 1 0),bf (F.sp.getD 2 0),bf (F.sp.getD 3 0),bf (F.sp.getD 4 0),.int .i64 (F.least:Nat),V.v9,V.v10,V.v11,V.v12,.map (some mc)]
def wx (H:dw) (R:iD) (ln:Nat):List ag:= [.pointer (some ⟨H.fb,0,none⟩),R.vr,.int .i64 (ln:Nat),.int .i64 (H.eof:Nat),.map (some H.ms),.map (some H.mt),R.vn]
structure dX (w:ak) (B fb mc:Nat) (F:aE) (V:fy):Prop where
 cells:w.heap[fb]? =some (.cells (pS F V mc).toArray 164 (0,0))
 o9:bo w B 189 2 V.v9 F.dp.length (lu F.dp)
 e6:bo w B 51 1 V.v10 F.aliases.length V.sa
 al:eD w B 95 V.sa F.aliases
 eC:bo w B 192 5 V.v11 F.bw.length (nZ F.bw)
 dB:bo w B 134 7 V.v12 F.rules.length (iw<|F.rules.zip V.rn)
 nx:eD w B 95 V.rn (F.rules.map (·.next))
 cm:∃ f,cR w.heap mc (kV .u16) f∧∀ x:Nat,f (bf x)=(F.bw.findIdx? fun c=>decide (c.flag=x)).map fun i:Nat=>gq .i64 i
 lo:B≤fb∧B≤mc
 gl:F.sp.length=5
theorem dX.md {G:Nat→Prop} {w w':ak} {B fb mc:Nat} {F:aE} {V:fy} (h:dX w B fb mc F V) (hm:Md G w w') {L:List Nat} (hT:TF w L G) (A:(L.contains 166 || L.contains 191 || L.contains 53 || L.contains 97 || L.contains 194 || L.contains 136)=false) (O:¬G mc):dX w' B fb mc F V:=by
 simp only [po] at A;obtain ⟨⟨⟨⟨⟨h1,h2⟩,h3⟩,h4⟩,h5⟩,h6⟩:=A;have C:∀ k,G k→∀ cur z,w.heap[k]?≠some (.cells cur 95 z):=fun k hk cur z J=>hT.no (dC J) h4 hk;obtain ⟨f,E,I⟩:=h.cm;exact ⟨hm.iK hT h.cells h1,cj h.o9 hm hT h2,cj h.e6 hm hT h3,h.al.md hm C,cj h.eC hm hT h5,cj h.dB hm hT h6,h.nx.md hm C,⟨f,E.md hm O,I⟩,h.lo,h.gl⟩
theorem dX.wk {w w':ak} {B fb mc:Nat} {F:aE} {V:fy} (h:dX w B fb mc F V) (hm:Wk w w'):dX w' B fb mc F V:=h.md (L:= []) hm (fun _ hk=>hk.elim) rfl id
structure dy (w:ak) (B:Nat) (H:dw) (F:aE) (R:iD) (rows:List Rw) (ln:Nat) (seen:List Tx):Prop where
 cells:w.heap[H.rb]? =some (.cells (wx H R ln).toArray 167 (0,0))
 rws:nf w B 181 rows.length R.vr (k3 R.vs)
 rt:iH w B 9 R.vs rows
 sm:∃ f,cR w.heap H.ms jN f∧∀ s:Tx,(f<|str s).getD (.int .i64 0)= .int .i64 (seen.count s:Nat)
 tm:∃ f,cR w.heap H.mt (kV .u16) f∧∀ x:Nat,x≠0→(f<|bf x).getD (.int .i64 0)= .int .i64 ((if eM F x=true then 1 else 0:Nat):Nat)
 on :bo w B 3 1 R.vn F.rules.length (F.rules.map fun r=>gq .i64 (r.line:Nat))
 lo:B≤H.rb∧B≤H.ms∧B≤H.mt
 ne:H.ms≠H.mt∧H.ms≠H.mc∧H.mt≠H.mc
theorem dy.md {G:Nat→Prop} {w w':ak} {B:Nat} {H:dw} {F:aE} {R:iD} {rows:List Rw} {ln:Nat} {seen:List Tx} (h:dy w B H F R rows ln seen) (hm:Md G w w') {L:List Nat} (hT:TF w L G) (C:(L.contains 169 || L.contains 183 || L.contains 11 || L.contains 5)=false) (V:¬G H.ms) (Y:¬G H.mt):dy w' B H F R rows ln seen:=by
 simp only [po] at C;obtain ⟨⟨⟨h1,h2⟩,h3⟩,h4⟩:=C;obtain ⟨f,E,I⟩:=h.sm;obtain ⟨g,J,O⟩:=h.tm;exact ⟨hm.iK hT h.cells h1,h.rws.md hm (fun k hk cur z A=>hT.no (dC A) h2 hk),h.rt.md hm (fun k hk cur z A=>hT.no (dC A) h3 hk),⟨f,E.md hm V,I⟩,⟨g,J.md hm Y,O⟩,cj h.on hm hT h4,h.lo,h.ne⟩
theorem dy.wk {w w':ak} {B:Nat} {H:dw} {F:aE} {R:iD} {rows:List Rw} {ln:Nat} {seen:List Tx} (h:dy w B H F R rows ln seen) (hm:Wk w w'):dy w' B H F R rows ln seen:=h.md (L:= []) hm (fun _ hk=>hk.elim) rfl id id
theorem dy.du {w:ak} {B:Nat} {H:dw} {F:aE} {R:iD} {rows:List Rw} {ln:Nat} {seen:List Tx} (h:dy w B H F R rows ln seen):Hb.aV w.heap H.rb 2=some (.int .i64 (ln:Nat)):=(a8 h.cells).trans rfl
structure k6 (F:aE) (rows:List Rw) (seen:List Tx):Prop where
 len:F.dp.length+F.aliases.length+F.bw.length+F.rules.length+rows.length≤70000
 sl:seen.length+rows.length≤70000
 row:∀ q∈rows,q.2≠[]∧q.2.length≤70000∧∀ x∈q.2,x.length≤70000
 kd:F.kind=1∨F.kind=2∨F.kind=3
 al:∀ l∈F.aliases,l.length≤64∧l.Pairwise (· < ·)
def St (w:ak) (B:Nat) (H:dw) (F:aE) (rows:List Rw) (ln:Nat) (seen:List Tx):Prop := ∃ V R,dX w B H.fb H.mc F V∧dy w B H F R rows ln seen∧k6 F rows seen
abbrev fQ (B:Nat) (H:dw) (w w':ak):Prop :=Mw [169,166,191,53,194,136,5] H.ms H.mt H.mc B w w'
theorem dy.cU {w w':ak} {B:Nat} {H:dw} {F:aE} {R R':iD} {rows rows':List Rw} {ln ln':Nat} {seen:List Tx} (h:dy w B H F R rows ln seen) (hm:Md (fun k=>k=H.rb) w w') (G:w'.heap[H.rb]? =some (.cells (wx H R' ln').toArray 167 (0,0))) (Y:R'.vn=R.vn) (O:nf w B 181 rows'.length R'.vr (k3 R'.vs)) (V:iH w B 9 R'.vs rows'):dy w' B H F R' rows' ln' seen:=by
 obtain ⟨f,C,I⟩:=h.sm;obtain ⟨g,E,J⟩:=h.tm;have hT:TF w [169] (fun k=>k=H.rb):=TF.eq (dC h.cells) aw;exact ⟨G,O.md hm (fun k hk cur z A=>hT.no (dC A) aw hk),V.md hm (fun k hk cur z A=>hT.no (dC A) aw hk),⟨f,C.md hm (hT.no (eJ C) aw),I⟩,⟨g,E.md hm (hT.no (eJ E) aw),J⟩,Y ▸ cj h.on hm hT aw,h.lo,h.ne⟩
theorem iH.tl {w:ak} {B e:Nat} {q:Nat×ag} {r:Rw} {vs:List (Nat×ag)} {rs:List Rw} (h:iH w B e (q::vs) (r::rs)):iH w B e vs rs:=⟨by have :=h.1; simpa using this,fun i A C h1 h2=>h.2 (i+1) A C h1 h2⟩
theorem dX.put {w w':ak} {B fb mc:Nat} {F F':aE} {V:fy} (h:dX w B fb mc F V) (hm:Md (fun k=>k=fb) w w') (E:w'.heap[fb]? =some (.cells (pS F' V mc).toArray 164 (0,0))) (h1:F'.dp=F.dp) (h2:F'.aliases=F.aliases) (h3:F'.bw=F.bw) (h4:F'.rules=F.rules) (h5:F'.sp.length=5):dX w' B fb mc F' V:=by
 have hT:TF w [166] (fun k=>k=fb):=TF.eq (dC h.cells) aw;have C:∀ k,k=fb→∀ cur z,w.heap[k]?≠some (.cells cur 95 z):=fL h.cells aw;obtain ⟨f,A,G⟩:=h.cm;exact ⟨E,h1 ▸ cj h.o9 hm hT aw,h2 ▸ cj h.e6 hm hT aw,h2 ▸ h.al.md hm C,h3 ▸ cj h.eC hm hT aw,h4 ▸ cj h.dB hm hT aw,h4 ▸ h.nx.md hm C,⟨f,A.md hm (hT.no (eJ A) aw),h3 ▸ G⟩,h.lo,h5⟩
theorem dy.fb {w w':ak} {B:Nat} {H:dw} {F A:aE} {V:fy} {R:iD} {rows:List Rw} {ln:Nat} {seen:List Tx} (h:dy w B H F R rows ln seen) (C:dX w B H.fb H.mc A V) (hm:Md (fun k=>k=H.fb) w w'):dy w' B H F R rows ln seen:=by
 have hT:TF w [166] (fun k=>k=H.fb):=TF.eq (dC C.cells) aw;obtain ⟨f,E,I⟩:=h.sm;obtain ⟨g,G,J⟩:=h.tm;exact h.md hm hT aw (hT.no (eJ E) aw)<|hT.no (eJ G) aw
theorem dX.rb {w w':ak} {B:Nat} {H:dw} {F A:aE} {V:fy} {R:iD} {rows:List Rw} {ln:Nat} {seen:List Tx} (h:dX w B H.fb H.mc A V) (C:dy w B H F R rows ln seen) (hm:Md (fun k=>k=H.rb) w w'):dX w' B H.fb H.mc A V:=by
 have hT:TF w [169] (fun k=>k=H.rb):=TF.eq (dC C.cells) aw;obtain ⟨f,E,G⟩:=h.cm;exact h.md hm hT aw<|hT.no (eJ E) aw
theorem dy.congr {w:ak} {B:Nat} {H:dw} {F F':aE} {R:iD} {rows:List Rw} {ln:Nat} {seen:List Tx} (h:dy w B H F R rows ln seen) (E:F'.rules=F.rules) (hd:∀ x,eM F' x=eM F x):dy w B H F' R rows ln seen:=by
 obtain ⟨g,A,C⟩:=h.tm;exact ⟨h.cells,h.rws,h.rt,h.sm,⟨g,A,fun x G=>by rw [hd]; exact C x G⟩,E ▸ h.on,h.lo,h.ne⟩
theorem dy.vZ {w w':ak} {B:Nat} {H:dw} {F F':aE} {R:iD} {rows:List Rw} {ln:Nat} {seen:List Tx} {f:ag→Option ag} (h:dy w B H F R rows ln seen) (hm:Md (fun k=>k=H.mt) w w') (C:cR w'.heap H.mt (kV .u16) f) (J:F'.rules=F.rules) (hd:∀ x:Nat,x≠0→(f<|bf x).getD (.int .i64 0)= .int .i64 ((if eM F' x=true then 1 else 0:Nat):Nat)):dy w' B H F' R rows ln seen:=by
 obtain ⟨g,I,_⟩:=h.tm;obtain ⟨f0,E,G⟩:=h.sm;have hT:TF w [1] (fun k=>k=H.mt):=TF.eq (eJ I) aw;exact ⟨hm.iK hT h.cells aw,h.rws.md hm (fun k hk cur z A=>hT.no (dC A) aw hk),h.rt.md hm (fun k hk cur z A=>hT.no (dC A) aw hk),⟨f0,E.md hm h.ne.1,G⟩,⟨f,C,hd⟩,J ▸ cj h.on hm hT aw,h.lo,h.ne⟩
theorem dX.vZ {w w':ak} {B:Nat} {H:dw} {F A:aE} {V:fy} {R:iD} {rows:List Rw} {ln:Nat} {seen:List Tx} (h:dX w B H.fb H.mc A V) (C:dy w B H F R rows ln seen) (hm:Md (fun k=>k=H.mt) w w'):dX w' B H.fb H.mc A V:=by
 obtain ⟨g,E,_⟩:=C.tm;exact h.md (L:= [1]) hm (TF.eq (eJ E) aw) aw fun h=>C.ne.2.2 h.symm
theorem fQ.fb {w w':ak} {B:Nat} {H:dw} {C:aE} {V:fy} (A:dX w B H.fb H.mc C V) (hm:Md (fun k=>k=H.fb) w w'):fQ B H w w':=Mw.of hm (TF.eq (dC A.cells) aw) fun k hk=>hk ▸ A.lo.1
theorem fQ.rb {w w':ak} {B:Nat} {H:dw} {F:aE} {R:iD} {rows:List Rw} {ln:Nat} {seen:List Tx} (A:dy w B H F R rows ln seen) (hm:Md (fun k=>k=H.rb) w w'):fQ B H w w':=Mw.of hm (TF.eq (dC A.cells) aw) fun k hk=>hk ▸ A.lo.1
theorem fQ.mt {w w':ak} {B:Nat} {H:dw} {F:aE} {R:iD} {rows:List Rw} {ln:Nat} {seen:List Tx} (A:dy w B H F R rows ln seen) (hm:Md (fun k=>k=H.mt) w w'):fQ B H w w':=hm.mono fun k _ hk=>⟨hk ▸ A.lo.2.2,.inr<|.inl hk⟩
def jV (B:Nat) (H:dw) (seen:List Tx) (X:Except (Nat×Nat) (aE×List Rw)) (w:ak) (v:ag) (w':ak):Prop :=v= .tuple #[]∧∃ F' rows' ln',X= .ok (F',rows')∧St w' B H F' rows' ln' seen∧fQ B H w w'
def jU (B:Nat) (H:dw) (X:Except (Nat×Nat) (aE×List Rw)) (w:ak) (c:List PanicEntry) (w':ak):Prop := ∃ l e,X= .error (l,e)∧c=jM 45 l (e:Nat)∧fQ B H w w'
def kR (F:aE) (seen:List Tx):Prop := ∀ k∈eh,k∉seen→F.sp.getD (eh.idxOf k) 0=0
theorem QF {F:aE} {i x:Nat} (hi:i < F.sp.length) (A:F.sp.getD i 0=0) (y:Nat) (G:y≠0):eM {F with sp:=F.sp.set i x} y=(decide (y=x) || eM F y):=by
 unfold eM;show (decide (y∈F.sp.set i x) || _)=_;rw [← Bool.or_assoc];congr 1;rw [← Bool.decide_or,decide_eq_decide];constructor
 · intro h;rcases List.mem_or_eq_of_mem_set h with h | h
   · exact .inr h
   · exact .inl h
 · rintro (h | h)
   · subst h; exact List.mem_set hi _
   · obtain ⟨j,E⟩:=List.getElem?_of_mem h;by_cases C:i=j
     · subst C;rw [cH,E] at A;exact absurd A G
     · exact List.mem_of_getElem? (i:=j)<|by rw [List.getElem?_set,if_neg C]; exact E
theorem Tg.wa {w:ak} {B e E n cp b:Nat} {a:Option bF} {xs:List ag} {cs:Array ag} {z:Nat×Nat} (h:Tg w B e n (.slice a n cp) xs) (V:xs≠[]) (A:w.heap[b]? =some (.cells cs E z)) (J:e≠E):¬(bk a=b):=by
 obtain ⟨Y,c',O,_,I⟩:=h;cases O;rcases I with rfl | ⟨C,cur,z2,rfl,_,G,_⟩
 · exact absurd aa V
 · rintro rfl;rw [show (bk<|some ⟨C,0,none⟩)=C from rfl] at A;rw [G] at A;simp only [Option.some.injEq,Obj.cells.injEq] at A;exact J A.2.1
theorem RT {F:aE} {V:fy} {mc i o x:Nat} (h5:F.sp.length=5) (hi:i < 5) (A:o=3 +i):(pS F V mc).set o (bf x)=pS {F with sp:=F.sp.set i x} V mc:=by
 subst A;obtain ⟨k,cs,tr,sp,le,re,al,cl,ru⟩:=F
 match sp,h5 with
 | [a,b,c,d,e],_=>
   match i,hi with
   | 0,_=>rfl
   | 1,_=>rfl
   | 2,_=>rfl
   | 3,_=>rfl
   | 4,_=>rfl
theorem Gi (b:Bool):decide (((if b=true then 1 else 0:Nat):Int)=0)= !b:=by cases b <;> rfl
theorem Lc {x y:Nat} (h:bf x=bf y):x=y:=by unfold bf at h; injection h with _ h; omega
theorem K2 {F F':aE} {f:ag→Option ag} {x:Nat} (hd:eM F x=false) (E:∀ y:Nat,y≠0→(f<|bf y).getD (.int .i64 0)= .int .i64 ((if eM F y=true then 1 else 0:Nat):Nat)) (C:∀ y,y≠0→eM F' y=(decide (y=x) || eM F y)) (y:Nat) (A:y≠0):(bM f (bf x) (.int .i64 (1:Nat))<|bf y).getD (.int .i64 0)= .int .i64 ((if eM F' y=true then 1 else 0:Nat):Nat):=by
 rw [C y A];by_cases h:y=x
 · subst h; rw [ow]; simp
 · rw [me (fun h2=>h<|Lc h2),E y A]; simp [h]
theorem iQ {G:Nat→Prop} {w w':ak} (h:Md G w.drew w'):Md G w w':=⟨h.os,h.output,h.size,h.dx⟩
theorem eD.get {w:ak} {B e i:Nat} {vs:List ag} {A:List (List Nat)} (h:eD w B e vs A) (hi:i < A.length):∃ v,vs[i]? =some v∧Tg w B e (A.getD i []).length v ((A.getD i []).map bf):=by
 have h1:i < vs.length:=by rw [h.1]; exact hi
 refine ⟨vs[i],bY h1,h.2 i _ _ (bY h1) ?_⟩;rw [cH,bY hi]; rfl
theorem Tg.uu {w:ak} {B e n cp:Nat} {a:Option bF} {xs:List ag} (h:Tg w B e n (.slice a n cp) xs) (E:xs.length=n) (A:a=none):n=0:=by
 obtain ⟨I,c',G,_,C⟩:=h;cases G;rcases C with rfl | ⟨J,cur,z2,h2,_⟩
 · exact E.symm
 · rw [A] at h2; cases h2
theorem Tg.IZ {G:Nat→Prop} {w w':ak} {B e n:Nat} {v:ag} {xs:List ag} (h:Tg w B e n v xs) (hm:Md G w w') (E:∀ k,G k→k < B):Tg w' B e n v xs:=by
 obtain ⟨a,cp,rfl,A,h | ⟨b,cur,z,rfl,I,C,J⟩⟩:=h
 · exact ⟨a,cp,aa,A,.inl h⟩
 · exact ⟨_,cp,aa,A,.inr ⟨b,cur,z,aa,I,by rw [hm.dx b (dD.1 C).1 (fun hk=>by have :=E b hk; omega)]; exact C,J⟩⟩
end Go.Hb.eH
section
namespace Go.Hb
abbrev ay (n:Nat):ag:= .int .i64 (n:Nat)
abbrev bj (b:Nat):ag:= .pointer<|some ⟨b,0,none⟩
variable {P:Program} {N:Fm} {ops:Array Oper} {Q:Exit→(Nat→ag)→ak→Prop} {σ:Nat→ag} {w:ak} {S:ak→Prop} {r fuel:Nat} {aW:Array Bool} {d:Nat} {op:Op} {ty:TypeId} {pos :String} {af:Array Edge} {v:ag}
theorem fz (i:Nat) (hi:ops[i]? =some ⟨some d,op,ty,pos,af,none⟩) (E:∀ w,S w→(execOp (ev N σ) ⟨some d,op,ty,pos,af,none⟩).run P w= .ok (.value v) w) (A:S w) (k:eK P N ops Q S fuel (aW.setIfInBounds i true) (cU σ d v) w) (C:jY N.F ops aW i=true :=by kernel_rfl):eK P N ops Q S (fuel+1) aW σ w:=hp i hi C E A k
theorem eW (i:Nat) (hi:ops[i]? =some ⟨some d,op,ty,pos,af,none⟩) (E:∀ w,S w→(execOp (ev N σ) ⟨some d,op,ty,pos,af,none⟩).run P w= .ok (.value v) w) (A:S w) (k:eT P N ops Q S r fuel (aW.setIfInBounds i true) (cU σ d v) w) (C:yr N.F ops aW r i=true :=by kernel_rfl):eT P N ops Q S r (fuel+1) aW σ w:=kJ i hi C E A k
theorem kK (i:Nat) (hi:ops[i]? =some ⟨some d,op,ty,pos,af,none⟩) (E:∀ w,(execOp (ev N σ) ⟨some d,op,ty,pos,af,none⟩).run P w= .ok (.value v) w) (A:aW.getD r false =false→S w) (k:eT P N ops Q S r fuel (aW.setIfInBounds i true) (cU σ d v) w) (C:sP N.F ops aW r i=true :=by kernel_rfl):eT P N ops Q S r (fuel+1) aW σ w:=qL i hi C E A k
theorem bP (i:Nat) (hi:ops[i]? =some ⟨some d,op,ty,pos,af,none⟩) (E:∀ {w},(execOp (ev N σ) ⟨some d,op,ty,pos,af,none⟩).run P w= .ok (.value v) w) (A:S w) (k:eK P N ops Q S fuel (aW.setIfInBounds i true) (cU σ d v) w) (C:jY N.F ops aW i=true :=by kernel_rfl):eK P N ops Q S (fuel+1) aW σ w:=hp i hi C (fun _ _=>E) A k
theorem qK (i:Nat) (hi:ops[i]? =some ⟨some d,op,ty,pos,af,none⟩) (E:∀ {w},(execOp (ev N σ) ⟨some d,op,ty,pos,af,none⟩).run P w= .ok (.value v) w) (A:S w) (k:eT P N ops Q S r fuel (aW.setIfInBounds i true) (cU σ d v) w) (C:ue N.F ops aW r i=true :=by kernel_rfl):eT P N ops Q S r (fuel+1) aW σ w:=lq i hi C (fun _ _=>E) A k
theorem cT (i:Nat) (hi:ops[i]? =some ⟨some d,op,ty,pos,af,none⟩) (E:∀ {w},(execOp (ev N σ) ⟨some d,op,ty,pos,af,none⟩).run P w= .ok (.value v) w) (A:S w) (k:eT P N ops Q S r fuel (aW.setIfInBounds i true) (cU σ d v) w) (C:sP N.F ops aW r i=true :=by kernel_rfl):eT P N ops Q S r (fuel+1) aW σ w:=qL i hi C (fun _=>E) (fun _=>A) k
theorem uh {x:Operand} (i:Nat) (hi:ops[i]? =some ⟨some d,.move x,ty,pos,af,none⟩) (v:ag) (A:S w) (k:eK P N ops Q S fuel (aW.setIfInBounds i true) (cU σ d v) w) (E:ev N σ x=v:=by exact aa) (C:jY N.F ops aW i=true :=by kernel_rfl):eK P N ops Q S (fuel+1) aW σ w:=hp i hi C (fun _ _=>rS v E) A k
theorem Z1 {x:Operand} (i:Nat) (hi:ops[i]? =some ⟨some d,.move x,ty,pos,af,none⟩) (v:ag) (A:S w) (k:eT P N ops Q S r fuel (aW.setIfInBounds i true) (cU σ d v) w) (E:ev N σ x=v:=by exact aa) (C:sP N.F ops aW r i=true :=by kernel_rfl):eT P N ops Q S r (fuel+1) aW σ w:=qL i hi C (fun _=>rS v E) (fun _=>A) k
theorem jK {P:Program} {f:FuncId} {fn:Func} (C:P.funcs[f]? =some fn) (hn:(fn.name== "runtime.NumGoroutine")=false :=by kernel_rfl) (A:fn.body.isNone=false :=by kernel_rfl):gC P f:=Fy C hn A
section
variable {rest:List Oper} {x:Operand} {K:(Nat→ag)→ak→Prop} {l:List Oper} {id:Nat} {y z:Code} {j t:Nat} {want b:Bool} {fn:Func} {R:ag→ak→Prop}
theorem Z4 (h:∀ {K:(Nat→ag)→ak→Prop},(∀ {σ w},dA P N y Q σ w→mj K Q .normal σ w)→dA P N z (mj K Q) σ w):dA P N (.seq z y) Q σ w:=sq fun K A=>h fun hw=>A _ _ hw
theorem Z5 (h:∀ {K:(Nat→ag)→ak→Prop},(∀ {σ w},dA P N y Q σ w→mj K Q .normal σ w)→ej P N l.toArray (mj K Q) l σ w) (C:pX N.r l=true :=by exact aa):dA P N (.seq (.region id l.toArray false) y) Q σ w:=sq fun K A=>rg C<|h fun hw=>A _ _ hw
theorem ZX (h:Q .normal (cU σ d<|ev N σ x) w):ej P N ops Q [⟨some d,.assign x,ty,pos,af,none⟩] σ w:=p bm<|nl h
theorem bK {id:Nat} (h:Q (.exit id) σ w):mj K Q (.exit id) σ w:=h
theorem Z2 (h:(j0 ops j,gu t N.n,σ t,b==want)=(some t,true,.bool b,false)) (k:ej P N ops Q rest (cU σ d undef) w):ej P N ops Q (⟨some d,op,ty,pos,af,some (j,want)⟩::rest) σ w:=sk (congrArg gU h) (congrArg (·.2.1) h) (congrArg (·.2.2.1) h) (congrArg (·.2.2.2) h) k
theorem Z3 (h:(j0 ops j,gu t N.n,σ t)=(some t,true,undef)) (k:ej P N ops Q rest (cU σ d undef) w):ej P N ops Q (⟨some d,op,ty,pos,af,some (j,want)⟩::rest) σ w:=Kv (congrArg gU h) (congrArg (·.2.1) h) (congrArg (·.2.2) h) k
theorem bI (h:(j0 ops j,gu t N.n,σ t)=(some t,true,.bool want)) (A:(execOp (ev N σ) ⟨some d,op,ty,pos,af,some (j,want)⟩).run P w= .ok (.value v) w) (k:ej P N ops Q rest (cU σ d v) w):ej P N ops Q (⟨some d,op,ty,pos,af,some (j,want)⟩::rest) σ w:=pg (congrArg gU h) (congrArg (·.2.1) h) (congrArg (·.2.2) h) A k
theorem ZZ (i:Nat) (h:(ops[i]?,j0 ops j,gu t N.n,σ t,b==want)=(some ⟨some d,op,ty,pos,af,some (j,want)⟩,some t,true,.bool b,false)) (A:S w) (k:eK P N ops Q S fuel (aW.setIfInBounds i true) (cU σ d undef) w) (C:jY N.F ops aW i=true :=by kernel_rfl):eK P N ops Q S (fuel+1) aW σ w:=Ii i (congrArg gU h) C (congrArg (·.2.1) h) (congrArg (·.2.2.1) h) (congrArg (·.2.2.2.1) h) (congrArg (·.2.2.2.2) h) A k
theorem cB (i:Nat) (h:(ops[i]?,j0 ops j,gu t N.n,σ t)=(some ⟨some d,op,ty,pos,af,some (j,want)⟩,some t,true,.bool want)) (E:∀ w,S w→(execOp (ev N σ) ⟨some d,op,ty,pos,af,some (j,want)⟩).run P w= .ok (.value v) w) (A:S w) (k:eK P N ops Q S fuel (aW.setIfInBounds i true) (cU σ d v) w) (C:jY N.F ops aW i=true :=by kernel_rfl):eK P N ops Q S (fuel+1) aW σ w:=sQ i (congrArg gU h) C (congrArg (·.2.1) h) (congrArg (·.2.2.1) h) (congrArg (·.2.2.2) h) E A k
theorem aR (h:(fn.results,ev N σ (.tmp t))=(#[.tmp t],v)) (A:R v w):fin P fn N R .ret σ w:=f1 (congrArg gU h) (congrArg Prod.snd h) A
theorem ep (v:ag) (h:ej P N ops Q rest (cU σ d v) w) (A:ev N σ x=v:=by exact aa):ej P N ops Q (⟨some d,.move x,ty,pos,af,none⟩::rest) σ w:=p (rS v A) h
end
end Go.Hb
end
namespace Go.Hb.dP
theorem Aw:fK az 102=some (some 13):=aj
theorem NM:fK az 112=some (some 2):=aj
theorem lI:fK az 134=some (some 7):=aj
theorem xJ:fK az 181=some (some 2):=aj
theorem vt:fK az 192=some (some 5):=aj
theorem sH:fK az 214=some (some 8):=aj
theorem tM:fK az 216=some (some 5):=aj
theorem nS:fK az 275=some (some 1):=aj
theorem la:fK az 321=some (some 4):=aj
theorem tN:fK az 359=some (some 1):=aj
theorem lJ:fK az 45=some (some 3):=aj
theorem oN:fK az 49=some (some 5):=aj
theorem l0:fK az 53=some (some 2):=aj
theorem Ax:fK az 69=some (some 3):=aj
theorem vu:fK az 74=some (some 5):=aj
theorem pM:fK az 87=some (some 2):=aj
theorem EV:fK az 88=some none:=aj
theorem EW:fK az 96=some (some 5):=aj
theorem tP:rq az 148=some (5,1):=aj
theorem sJ:rq az 321=some (4,1):=aj
theorem Fa:rq az 337=some (256,1):=aj
theorem vw:rq az 96=some (5,1):=aj
theorem Fb:AE az 321=some ([.int .u64 0,.int .u64 0,.int .u64 0,.int .u64 0]):=aj
theorem nV:xQ az 261 5 9=true :=aj
theorem Ox:gC az 127:=jK func127
theorem Oy:gC az 128:=jK func128
theorem Oz:gC az 129:=jK func129
theorem vB:gC az 130:=jK func130
theorem OA:gC az 131:=jK func131
theorem OB:gC az 132:=jK func132
theorem OC:gC az 133:=jK func133
theorem Fs:gC az 134:=jK func134
theorem pN:gC az 135:=jK func135
theorem Ft:gC az 189:=jK func189
theorem AK:gC az 193:=jK func193
theorem AL:gC az 195:=jK func195
theorem xR:gC az 196:=jK func196
theorem AM:gC az 197:=jK func197
theorem Fu:gC az 198:=jK func198
theorem Fv:gC az 199:=jK func199
theorem OD:gC az 201:=jK func201
theorem Fw:gC az 235:=jK func235
theorem OE:gC az 61:=jK func61
theorem OF:gC az 64:=jK func64
theorem OG:gC az 72:=jK func72
theorem iW:gC az 75:=jK func75
theorem OH:gC az 76:=jK func76
theorem PO:∀ (l:List UInt8) (c:UInt8) (w:ak),(callFunc 307 #[str l,.int .u8 c.toNat]).run az w= .ok (.value<|.int .i64 (l.count c:Nat)) w:=Xf func307 aj aj aj aj
theorem Qk:∀ v w,(callFunc 267 #[v]).run az w= .ok (.value v) w:=fun v w=>aj
theorem F4:eA az 100=some 1:=aj
theorem AY:eA az 102=some 13:=aj
theorem F5:eA az 103=some 1:=aj
theorem Ql:eA az 112=some 2:=aj
theorem oW:eA az 134=some 7:=aj
theorem Qm:eA az 149=some 1:=aj
theorem Qn:eA az 150=some 1:=aj
theorem Qo:eA az 151=some 1:=aj
theorem F6:eA az 152=some 1:=aj
theorem F7:eA az 156=some 1:=aj
theorem Qp:eA az 174=some 2:=aj
theorem F8:eA az 181=some 2:=aj
theorem sM:eA az 192=some 5:=aj
theorem AZ:eA az 214=some 8:=aj
theorem rB:eA az 216=some 5:=aj
theorem Qq:eA az 242=some 1:=aj
theorem Qr:eA az 261=some 1:=aj
theorem F9:eA az 273=some 1:=aj
theorem rC:eA az 275=some 1:=aj
theorem xZ:eA az 287=some 1:=aj
theorem gM:eA az 3=some 1:=aj
theorem Qs:eA az 307=some 1:=aj
theorem Qt:eA az 32=some 1:=aj
theorem qC:eA az 321=some 4:=aj
theorem Ga:eA az 35=some 1:=aj
theorem Gb:eA az 4=some 1:=aj
theorem kj:eA az 45=some 3:=aj
theorem Gc:eA az 49=some 5:=aj
theorem tY:eA az 51=some 1:=aj
theorem kT:eA az 53=some 2:=aj
theorem x2:eA az 69=some 3:=aj
theorem Gd:eA az 85=some 1:=aj
theorem pP:eA az 87=some 2:=aj
theorem A0:eA az 88=some 1:=aj
theorem l7:eA az 9=some 1:=aj
theorem gF:eA az 95=some 1:=aj
theorem Qu:eA az 96=some 5:=aj
theorem Ge:eA az 97=some 1:=aj
theorem Gf:eA az 98=some 1:=aj
theorem Gg:eA az 99=some 1:=aj
theorem nk:gw az 100=some 7:=aj
theorem Bf:gw az 103=some 2:=aj
theorem GL:gw az 108=some 1:=aj
theorem Rz:gw az 113=some 2:=aj
theorem RA:gw az 150=some 1:=aj
theorem yb:gw az 151=some 5:=aj
theorem oY:gw az 152=some 8:=aj
theorem ub:gw az 156=some 2:=aj
theorem oZ:gw az 202=some 2:=aj
theorem mI:gw az 261=some 1:=aj
theorem GM:gw az 273=some 4:=aj
theorem yc:gw az 29=some 5:=aj
theorem GN:gw az 331=some 1:=aj
theorem cM:gw az 35=some 1:=aj
theorem bX:gw az 51=some 1:=aj
theorem GO:gw az 76=some 2:=aj
theorem ke:gw az 85=some 1:=aj
theorem Bg:gw az 98=some 1:=aj
theorem RB:gw az 99=some 5:=aj
theorem GV:Bn az 102 8=some 12:=aj
theorem RX:uc az 105 3=some 15:=aj
theorem TM:(az.info? 309).isSome=true :=aj
theorem T1:∀ (l:List UInt8) (c:UInt8) (w:ak),(callFunc 295 #[str l,.int .u8 c.toNat]).run az w= .ok (.value<|.int .i64<|fF c l) w:=Xg func295 aj aj aj aj
theorem B7:mD az 3 (kV .i64):=Iz (q:= .i64) aj
theorem jk:mD az 9 jN:=Ue aj
theorem sS:mD az 95 (kV .u16):=Iz (q:= .u16) aj
theorem Cp:sX az 45=true :=aj
theorem Wl:ptrTo az 342 5=true :=aj
theorem zf:gj az 100 134 7 88=true :=aj
theorem zg:gj az 103 53 2 40=true :=aj
theorem XF:gj az 113 112 2 32=true :=aj
theorem Kx:gj az 149 351 2 32=true :=aj
theorem Ky:gj az 150 85 1 24=true :=aj
theorem Kz:gj az 151 216 5 40=true :=aj
theorem zh:gj az 152 214 8 104=true :=aj
theorem KA:gj az 156 181 2 32=true :=aj
theorem zi:gj az 202 209 2 32=true :=aj
theorem iP:gj az 261 5 1 1=true :=aj
theorem zj:gj az 273 321 4 32=true :=aj
theorem zk:gj az 29 49 5 48=true :=aj
theorem KB:gj az 32 74 5 48=true :=aj
theorem KC:gj az 331 359 1 16=true :=aj
theorem gk:gj az 35 9 1 16=true :=aj
theorem zl:gj az 51 95 1 2=true :=aj
theorem KD:gj az 76 87 2 40=true :=aj
theorem lx:gj az 85 3 1 8=true :=aj
theorem zm:gj az 97 189 2 32=true :=aj
theorem zn:gj az 98 51 1 24=true :=aj
theorem zo:gj az 99 192 5 40=true :=aj
theorem XR:ik az 105=some ([(0,1),(1,1),(2,13),(15,1)],[.pointer none,.pointer none,.int .i64 0,.string ⟨⟨[]⟩⟩,.string ⟨⟨[]⟩⟩,.int .u16 0,.int .u16 0,.int .u16 0,.int .u16 0,.int .u16 0,.int .i64 0,.slice none 0 0,.slice none 0 0,.slice none 0 0,.slice none 0 0,.slice none 0 0]):=aj
theorem Dm:ik az 112=some ([(0,1),(1,1)],[.slice none 0 0,.int .i64 0]):=aj
theorem XS:ik az 132=some ([(0,1),(1,1),(2,1),(3,1)],[.pointer none,.slice none 0 0,.map none,.map none]):=aj
theorem Dn:ik az 134=some ([(0,1),(1,1),(2,1),(3,1),(4,1),(5,1),(6,1)],[.int .i64 0,.int .u16 0,.bool false,.string ⟨⟨[]⟩⟩,.string ⟨⟨[]⟩⟩,.string ⟨⟨[]⟩⟩,.slice none 0 0]):=aj
theorem XT:ik az 140=some ([(0,1),(1,1),(2,1),(3,1),(4,1),(5,1),(6,1),(7,1)],[.bool false,.bool false,.string ⟨⟨[]⟩⟩,.int .i64 0,.int .i64 0,.int .i64 0,.int .i64 0,.slice none 0 0]):=aj
theorem XU:ik az 154=some ([(0,1),(1,1),(2,1),(3,5),(8,1),(9,1),(10,1),(11,1),(12,1)],[.int .i64 0,.string ⟨⟨[]⟩⟩,.string ⟨⟨[]⟩⟩,.int .i64 0,.int .i64 0,.int .i64 0,.int .i64 0,.int .i64 0,.int .i64 0,.slice none 0 0,.slice none 0 0,.slice none 0 0,.slice none 0 0]):=aj
theorem XV:ik az 164=some ([(0,13),(13,1)],[.int .i64 0,.string ⟨⟨[]⟩⟩,.string ⟨⟨[]⟩⟩,.int .u16 0,.int .u16 0,.int .u16 0,.int .u16 0,.int .u16 0,.int .i64 0,.slice none 0 0,.slice none 0 0,.slice none 0 0,.slice none 0 0,.map none]):=aj
theorem XW:ik az 167=some ([(0,1),(1,1),(2,1),(3,1),(4,1),(5,1),(6,1)],[.pointer none,.slice none 0 0,.int .i64 0,.int .i64 0,.map none,.map none,.slice none 0 0]):=aj
theorem nJ:ik az 174=some ([(0,1),(1,1)],[.int .i64 0,.nilFunc]):=aj
theorem XX:ik az 181=some ([(0,1),(1,1)],[.int .i64 0,.slice none 0 0]):=aj
theorem XY:ik az 184=some ([(0,1),(1,1)],[.slice none 0 0,.map none]):=aj
theorem XZ:ik az 189=some ([(0,1),(1,1)],[.string ⟨⟨[]⟩⟩,.string ⟨⟨[]⟩⟩]):=aj
theorem Dp:ik az 192=some ([(0,1),(1,1),(2,1),(3,1),(4,1)],[.int .u16 0,.int .i64 0,.bool false,.int .i64 0,.int .i64 0]):=aj
theorem X2:ik az 208=some ([(0,1),(1,1),(2,1),(3,1),(4,1),(5,1)],[.pointer none,.slice none 0 0,.int .i64 0,.int .i64 0,.slice none 0 0,.int .i64 0]):=aj
theorem KJ:ik az 209=some ([(0,1),(1,1)],[.int .i64 0,.slice none 0 0]):=aj
theorem KK:ik az 214=some ([(0,1),(1,1),(2,1),(3,1),(4,1),(5,1),(6,1),(7,1)],[.int .i64 0,.int .i64 0,.bool false,.string ⟨⟨[]⟩⟩,.string ⟨⟨[]⟩⟩,.string ⟨⟨[]⟩⟩,.slice none 0 0,.int .i64 0]):=aj
theorem KL:ik az 216=some ([(0,1),(1,1),(2,1),(3,1),(4,1)],[.int .i64 0,.int .i64 0,.bool false,.int .i64 0,.int .i64 0]):=aj
theorem wW:ik az 275=some ([(0,1)],[.slice none 0 0]):=aj
theorem X3:ik az 351=some ([(0,1),(1,1)],[.string ⟨⟨[]⟩⟩,.string ⟨⟨[]⟩⟩]):=aj
theorem X4:ik az 359=some ([(0,1)],[.string ⟨⟨[]⟩⟩]):=aj
theorem uA:ik az 45=some ([(0,1),(1,1),(2,1)],[.int .i64 0,.int .i64 0,.int .i64 0]):=aj
theorem Dq:ik az 49=some ([(0,1),(1,1),(2,1),(3,1),(4,1)],[.string ⟨⟨[]⟩⟩,.int .i64 0,.int .i64 0,.int .i64 0,.int .i64 0]):=aj
theorem pf:ik az 53=some ([(0,1),(1,1)],[.string ⟨⟨[]⟩⟩,.slice none 0 0]):=aj
theorem Dr:ik az 69=some ([(0,1),(1,1),(2,1)],[.int .i64 0,.int .i64 0,.int .i64 0]):=aj
theorem Ds:ik az 74=some ([(0,1),(1,1),(2,1),(3,1),(4,1)],[.string ⟨⟨[]⟩⟩,.int .i64 0,.int .i64 0,.int .i64 0,.int .i64 0]):=aj
theorem X5:ik az 78=some ([(0,1),(1,1)],[.pointer none,.slice none 0 0]):=aj
theorem qR:ik az 87=some ([(0,1),(1,1)],[.string ⟨⟨[]⟩⟩,.slice none 0 0]):=aj
theorem YH:az.underlying 100=some (.slice 134):=aj
theorem YI:az.underlying 103=some (.slice 53):=aj
theorem DB:az.underlying 129=some (.map 3 85):=aj
theorem DC:az.underlying 130=some (.map 49 3):=aj
theorem Lb:az.underlying 145=some (.int .u64):=aj
theorem ta:az.underlying 162=some (.map 95 3):=aj
theorem r8:az.underlying 165=some (.map 9 3):=aj
theorem mU:az.underlying 169=some (.map 9 174):=aj
theorem DD:az.underlying 182=some (.map 9 85):=aj
theorem xc:az.underlying 24=some (.pointer 105):=aj
theorem DE:az.underlying 25=some (.pointer 78):=aj
theorem YJ:az.underlying 261=some (.slice 5):=aj
theorem YK:az.underlying 287=some (.int .u64):=aj
theorem YL:az.underlying 29=some (.slice 49):=aj
theorem u3:az.underlying 3=some (.int .i64):=aj
theorem Ld:az.underlying 307=some (.pointer 309):=aj
theorem u32:az.underlying 32=some (.slice 74):=aj
theorem u4:az.underlying 4=some (.bool):=aj
theorem u5:az.underlying 5=some (.int .u8):=aj
theorem Le:az.underlying 51=some (.slice 95):=aj
theorem YM:az.underlying 85=some (.slice 3):=aj
theorem xd:az.underlying 88=some (.pointer 164):=aj
theorem u9:az.underlying 9=some (.string):=aj
theorem DG:az.underlying 91=some (.pointer 184):=aj
theorem zz:az.underlying 95=some (.int .u16):=aj
theorem YQ:az.underlying 97=some (.slice 189):=aj
theorem YR:az.underlying 98=some (.slice 51):=aj
theorem YS:az.underlying 99=some (.slice 192):=aj
theorem Lh:xe az 307 364 309 2=true :=aj
theorem Y1:(az.underlying 145).isSome=true :=aj
theorem Y2:(az.underlying 242).isSome=true :=aj
theorem r9:(az.underlying 3).isSome=true :=aj
theorem qU:(az.underlying 5).isSome=true :=aj
theorem wide:az.follows .mixedOrders=true :=aj
theorem LF:zeroOf az 102=some (some [.int .i64 0,.string ⟨⟨[]⟩⟩,.string ⟨⟨[]⟩⟩,.int .u16 0,.int .u16 0,.int .u16 0,.int .u16 0,.int .u16 0,.int .i64 0,.slice none 0 0,.slice none 0 0,.slice none 0 0,.slice none 0 0]):=aj
theorem ZC:zeroOf az 112=some (some [.slice none 0 0,.int .i64 0]):=aj
theorem qZ:zeroOf az 134=some (some [.int .i64 0,.int .u16 0,.bool false,.string ⟨⟨[]⟩⟩,.string ⟨⟨[]⟩⟩,.string ⟨⟨[]⟩⟩,.slice none 0 0]):=aj
theorem ZD:zeroOf az 156=some (some [.slice none 0 0]):=aj
theorem ZE:zeroOf az 174=some (some [.int .i64 0,.nilFunc]):=aj
theorem LG:zeroOf az 181=some (some [.int .i64 0,.slice none 0 0]):=aj
theorem uN:zeroOf az 192=some (some [.int .u16 0,.int .i64 0,.bool false,.int .i64 0,.int .i64 0]):=aj
theorem DT:zeroOf az 214=some (some [.int .i64 0,.int .i64 0,.bool false,.string ⟨⟨[]⟩⟩,.string ⟨⟨[]⟩⟩,.string ⟨⟨[]⟩⟩,.slice none 0 0,.int .i64 0]):=aj
theorem tg:zeroOf az 216=some (some [.int .i64 0,.int .i64 0,.bool false,.int .i64 0,.int .i64 0]):=aj
theorem zJ:zeroOf az 275=some (some [.slice none 0 0]):=aj
theorem ZF:zeroOf az 287=some (some [.int .u64 0]):=aj
theorem ZG:zeroOf az 3=some (some [.int .i64 0]):=aj
theorem LH:zeroOf az 309=some (some [.pointer none,.slice none 0 0]):=aj
theorem th:zeroOf az 321=some (some [.int .u64 0,.int .u64 0,.int .u64 0,.int .u64 0]):=aj
theorem ZH:zeroOf az 35=some (some [.slice none 0 0]):=aj
theorem q4:zeroOf az 45=some (some [.int .i64 0,.int .i64 0,.int .i64 0]):=aj
theorem LI:zeroOf az 49=some (some [.string ⟨⟨[]⟩⟩,.int .i64 0,.int .i64 0,.int .i64 0,.int .i64 0]):=aj
theorem sd:zeroOf az 53=some (some [.string ⟨⟨[]⟩⟩,.slice none 0 0]):=aj
theorem LJ:zeroOf az 69=some (some [.int .i64 0,.int .i64 0,.int .i64 0]):=aj
theorem LK:zeroOf az 87=some (some [.string ⟨⟨[]⟩⟩,.slice none 0 0]):=aj
theorem ZI:zeroOf az 88=some (some [.pointer none]):=aj
theorem ZJ:zeroOf az 9=some (some [.string ⟨⟨[]⟩⟩]):=aj
theorem ZK:zeroOf az 96=some (some [.int .u16 0,.int .u16 0,.int .u16 0,.int .u16 0,.int .u16 0]):=aj
theorem ZL:zeroOf az 337=some (some<|ku 256<|.bool false):=aj
theorem ZM:zeroV az 174=some (.agg #[.int .i64 0,.nilFunc]):=aj
theorem oD:zeroV az 3=some (.int .i64 0):=aj
theorem ZN:zeroV az 45=some (.agg #[.int .i64 0,.int .i64 0,.int .i64 0]):=aj
theorem ZO:zeroV az 5=some (.int .u8 0):=aj
theorem zK:zeroV az 85=some (.slice none 0 0):=aj
theorem ZP:zeroV az 95=some (.int .u16 0):=aj
end Go.Hb.dP
section
namespace Go.Hb
open Go.Hb.dP
theorem P1 (b:Nat) (C:Option bF) (G:ag) (w:ak) (A:w.heap[b]? =some (.cells [Mp C,G].toArray 309 (0,0))) (hp:C=none∨C=some ⟨b,0,none⟩):
 ba az 240 (a7 [bj b]) w (fun v w'=>v= .tuple #[]∧w'.heap[b]? =some (.cells [Mp (some ⟨b,0,none⟩),G].toArray 309 (0,0))∧Md (fun k=>k=b) w w'):=by
 refine enter func240 aa ntmps240 aa<|bg 5 aa<|p (ld1 aa<|(a8 A).trans aa)<|p (lh Ld aa aa)<|aQ 2 aa<|cb aa (fun E=> ?_) fun E=> ?_;obtain rfl :C=none:=by simpa using E
 exact aH 3 aa<|p (Yz Lh aa A aa)<|p (PF Qk aa)<|p (R8 Lh aa A aa)<|au 2 aa<|e<|dd Qs aa aa aa A (by simp) fun O J I=>aC 1 aa<|f0 aa<|⟨aa,I,J⟩
 obtain rfl :C=some ⟨b,0,none⟩:=hp.resolve_left<|by rintro rfl; simp at E
 exact aH 5 aa<|p (ld1 aa<|(a8 A).trans aa)<|au 1 aa<|p (Vj Ld TM aa aa)<|aC 4 aa<|f0 aa<|⟨aa,A,Md.refl _ _⟩
theorem LD (b:Nat) (A:ag) (l:List UInt8) (c:UInt8) (w:ak) (aj:Bd 309 5 w b A l) (ay:l.length≤70368744177664):
 ba az 204 (a7 [bj b,.int .u8 c.toNat]) w (fun v w'=>v= .nilIface∧∃ I,Bd 309 5 w' b I (l++ [c])∧Md (BF b A) w w'∧∀ k,BF b I k→BF b A k∨w.heap.size≤k):=by
 obtain ⟨⟨av,Y,ao⟩,hown,hnil⟩:=aj;have aA:b < w.heap.size:=(dD.1 Y).1;have Z:∀ k,A.ownBlock=some k→k≠b∧k < w.heap.size:=fun k hk=>by have :=hown.lt k hk; exact ⟨ab,this.2⟩
 refine enter func204 aa ntmps204 aa<|bg 8 aa<|e<|aM (P1 b av A w Y ao) aa ?_;rintro v6 aH ⟨_,V,E⟩;have an:=da hown E fun k hk=>(Z k hk).1;have aD:=E.size;refine au 8 aa<|p (ld1 aa<|(a8 V).trans aa)<|au 1 aa<|e<|gv iP aa aa fun aw aE ax C ah=>e<|ap iP (aU an C.md) aa (by have :=C.size; omega) aa (aB.dT ah) (aa) (aa) ab ab fun ac aF G J aq am=> ?_;have al:=J.bl (Wk.bl C.md V) fun h=>(Z b h).1 rfl;refine au 2 aa<|e<|dd Qr aa aa (by obtain ⟨a,c,h,_⟩:=uw G; exact congrArg fX h) al (by simp) fun aG O ai=>aC 8 aa<|aR aa ?_;have ae:∀ k,ac.ownBlock=some k→k≠b:=fun k hk=>by have :=G.lt k hk; omega
 refine ⟨aa,ac,⟨⟨_,ai,.inr aa⟩,?_,?_⟩,?_,?_⟩;rw [bG,xF]; exact da G O fun k hk=>ae k hk;rw [aq]; simp;refine Md.trans' (Md.trans' (Md.trans' (E.mono fun k _ h=> .inl h) C.md fun _ _ h=>h.elim) J fun k _ h=> .inr h) O fun k _ h=> .inl h;rintro k (rfl | hk);exact .inl<|.inl aa;by_cases h:A.ownBlock=some k;exact .inl<|.inr h;have :=am k hk; have h1:=E.size; have h2:=C.md.size; exact .inr<|by rcases this with h3 | h3; exact absurd h3 h; omega
theorem Dv (b:Nat) (G:ag) (l:List UInt8) (w:ak) (O:Bd 309 5 w b G l) (ac:l.length≤70368744177664):
 ba az 202 (a7 [bj b]) w (fun v w'=>v=str l∧Md (fun k=>G.ownBlock=some k) w w'):=by
 obtain ⟨⟨ai,I,ae⟩,hown,hnil⟩:=O;obtain ⟨a,c,rfl,Y,hle,hk,Z⟩:=uw hown;refine enter func202 aa ntmps202 aa<|bq 6 aa ?_;have A:(fun w'=>Md (fun k=>(bQ a l.length c).ownBlock=some k) w w') w.drew:=(Md.refl _ _).drew;refine dY (fun w'=>Md (fun k=>(bQ a l.length c).ownBlock=some k) w w') aa wide A<|aT [0,1,2] aa A<|fz 3 aa (fun w' C=>ld1 aa<|C.aV ((a8 I).trans aa) fun h=>by have :=hown.lt _ h; omega) A<|aT [5,6,7] aa A<|fz 8 aa (fun w' C=>ld1 aa<|C.aV ((a8 I).trans aa) fun h=>by have :=hown.lt _ h; omega) A<|aT [9] aa A ?_;refine bP 4 aa (Y3 (v:= .nilFunc) aa (by
  by_cases h:l= []
  have :=hnil.2 h; simp only [mq] at this; exact .inl this.1;right; have :0 < l.length:=mu.2 h; omega)) A ?_
 refine he 10 aa aj<|Y4 Wl aa aa hown aa ab fun V J ah=> ?_;have E:(fun w'=>Md (fun k=>(bQ a l.length c).ownBlock=some k) w w') V:=A.trans' J fun _ _ h=>h;refine ⟨E,?_⟩;exact bP 11 aa (bm) E<|hn aj<|bc 2 aa<|aR aa<|⟨aa,E⟩
end Go.Hb
end
section
namespace Go.Hb
open Go.Hb.dP
theorem lM (b:UInt8):sO b=decide ((b.toNat:Int)=92∨(b.toNat:Int)=47∨(b.toNat:Int)=35):=by
 unfold sO; exact decide_eq_decide.2 ab
theorem Bs (b:UInt8):jh b=decide (32 < (b.toNat:Int)∧(b.toNat:Int)≠127):=by
 unfold jh; exact decide_eq_decide.2 ab
theorem RS {b:UInt8} (h:32 < (b.toNat:Int)) (h1:(b.toNat:Int)≠127):jh b=true :=by rw [Bs]; exact decide_eq_true ⟨h,h1⟩
theorem Bq {b:UInt8} (h:¬(32 < (b.toNat:Int)∧(b.toNat:Int)≠127)):jh b=false :=by rw [Bs]; exact decide_eq_false h
theorem Hd (b:UInt8) (w:ak):
 ba az 205 (a7 [.int .u8 b.toNat]) w (fun v w'=>v= .bool (jh b)∧Wk w w'):=by
 refine enter func205 aa ntmps205 aa<|bg 10 aa<|gs (t:=5) aa (fun A=> ?_) fun A=> ?_;exact aC 7 aa<|aR aa<|⟨by show bR (decide _)=_; rw [Bs]; exact bv (by constructor <;> intro h <;> first | exact ⟨ab,h⟩ | exact h.2),Md.refl _ _⟩
 exact au 3 aa<|p bm<|aC 3 aa<|aR aa<|⟨by show bR false =_; rw [Bq ab],Md.refl _ _⟩
theorem UP (b:UInt8) (w:ak):
 ba az 203 (a7 [.int .u8 b.toNat]) w (fun v w'=>v= .bool (sO b)∧Wk w w'):=by
 refine enter func203 aa ntmps203 aa<|bq 19 aa<|cd aa (fun A=> ?_) fun A=> ?_;refine bz 2 aa<|cd aa (fun A=> ?_) fun A=> ?_;refine aJ 8 aa<|aR aa ?_
 first | exact ⟨by show bR true =_; rw [lM,decide_eq_true ab],Md.refl _ _⟩ | exact ⟨by show bR false =_; rw [lM,decide_eq_false ab],Md.refl _ _⟩
 refine aJ 9 aa<|aR aa ?_
 first | exact ⟨by show bR true =_; rw [lM,decide_eq_true ab],Md.refl _ _⟩ | exact ⟨by show bR false =_; rw [lM,decide_eq_false ab],Md.refl _ _⟩
 refine bz 6 aa<|cd aa (fun A=> ?_) fun A=> ?_;refine bz 2 aa<|cd aa (fun A=> ?_) fun A=> ?_;refine aJ 8 aa<|aR aa ?_
 first | exact ⟨by show bR true =_; rw [lM,decide_eq_true ab],Md.refl _ _⟩ | exact ⟨by show bR false =_; rw [lM,decide_eq_false ab],Md.refl _ _⟩
 refine aJ 9 aa<|aR aa ?_
 first | exact ⟨by show bR true =_; rw [lM,decide_eq_true ab],Md.refl _ _⟩ | exact ⟨by show bR false =_; rw [lM,decide_eq_false ab],Md.refl _ _⟩
 refine bz 5 aa<|cd aa (fun A=> ?_) fun A=> ?_;refine aJ 8 aa<|aR aa ?_
 first | exact ⟨by show bR true =_; rw [lM,decide_eq_true ab],Md.refl _ _⟩ | exact ⟨by show bR false =_; rw [lM,decide_eq_false ab],Md.refl _ _⟩
 refine aJ 9 aa<|aR aa ?_
 first | exact ⟨by show bR true =_; rw [lM,decide_eq_true ab],Md.refl _ _⟩ | exact ⟨by show bR false =_; rw [lM,decide_eq_false ab],Md.refl _ _⟩
theorem Lq (s:List UInt8) (w:ak) (hs:s.length≤1048576):
 ba az 139 (a7 [str s]) w (fun v w'=>v= .bool (qV s)∧Wk w w'):=by
 refine enter func139 aa ntmps139 aa<|bg 11 aa<|gs (t:=6) aa (fun E=> ?_) fun E=> ?_;exact aC 14 aa<|aR aa<|⟨by show bR false =_; unfold qV; rw [decide_eq_false (by rw [E]; simp)],Md.refl _ _⟩
 refine aQ 6 aa<|cd aa (fun Z=> ?_) fun Z=> ?_;exact aJ 7 aa<|aR aa<|⟨by show bR false =_; unfold qV; rw [decide_eq_false ab],Md.refl _ _⟩
 refine bz 11 aa<|lp (fun I Y V=> ∃ (i:Nat),(i≤s.length∧1≤s.length∧s.length≤64)∧(∀ j,j < i→jh (s.getD j 0)=true)∧(Wk w V)∧(Sl Y [(0,str s),(12,.int .i64 s.length),(13,.int .i64 i)])∧(s.length - i=I)) _ ⟨0,(⟨ab,by rcases Nat.eq_zero_or_pos s.length with h | h <;> first | exact absurd (Ad.1 h) E | exact h,ab⟩),(fun j O=>by omega),(Md.refl _ _),aa,aa⟩ ?_;rintro I Y V ⟨i,hi,hp,A,ae,rfl⟩;refine bA ae<|bq 6 aa<|cd aa (fun ac=> ?_) fun ac=> ?_;refine aH 14 aa<|p (e5 u9 aa aa ab)<|e<|aM (Hd (s.getD i 0) _) aa ?_;rintro ag ah ⟨rfl,J⟩;refine aQ 3 aa<|cb aa (fun C=> ?_) fun C=> ?_;have G:jh (s.getD i 0)=false :=by simpa using C
 exact aJ 8 aa<|tr<|bc 2 aa<|aR aa<|⟨by show bR false =_; unfold qV; rw [tU (i:=i) ab G,decide_eq_false (by simp)],Md.trans A J⟩
 have G:jh (s.getD i 0)=true :=by simpa using C
 exact aJ 7 aa<|tn<|⟨_,ab,i+1,ab,(fun j O=>by rcases fG j i with h | h <;> first | exact hp j h | (rw [show j=i by omega]; exact G)),(Md.trans A J),aa,aa⟩
 exact aJ 2 aa<|bK<|bc 8 aa<|aR aa<|⟨by show bR true =_; unfold qV; rw [vA (fun j O=>hp j ab),decide_eq_true ⟨hi.2.1,hi.2.2,aa⟩],A⟩
theorem DS (s:List UInt8) (w:ak) (hs:s.length≤1048576):
 ba az 138 (a7 [str s]) w (fun v w'=>v=JQ (bD s)∧Wk w w'):=by
 refine enter func138 aa ntmps138 aa<|bg 10 aa<|e<|gK LH fun A aW aL ax an=>aQ 9 aa<|lp (fun ac ai J=> ∃ (i:Nat) (acc:List UInt8) (C:ag),(i≤s.length∧acc.length≤i)∧(Bd 309 5 J A C acc)∧(Wk w J)∧(jR acc (s.drop i)=bD s)∧(Sl ai [(0,str s),(6,bj A),(7,.int .i64 i)])∧(s.length - i=ac)) _ ⟨0,[],.slice none 0 0,(by simp),(Bd.new an),ax.md,aa,aa,aa⟩ ?_;rintro ac ai J ⟨i,acc,C,hi,E,G,hd,aG,rfl⟩;refine bA aG<|bq 9 aa<|cd aa (fun aA=> ?_) fun aA=> ?_;refine aH 8 aa<|p (e5 u9 aa aa ab)<|aQ 3 aa ?_;refine ei (fun al Z=> ∃ (k:Nat),(k < s.length∧i≤k∧k≤i+1)∧(Bd 309 5 Z A C acc)∧(Wk w Z)∧(jR (acc++ [s.getD k 0]) (s.drop<|k+1)=bD s)∧(Sl al [(0,str s),(6,bj A),(7,.int .i64 k)])) ?_ ?_;refine bq 13 aa<|cd aa (fun aB=> ?_) fun aB=> ?_;have ay:(s.getD i 0).toNat=47:=ab;refine bz 7 aa ?_;have I:(fun w'=>True) J.drew:=trivial;refine dY (fun w'=>True) aa wide I<|aT [1,2] aa I<|bP 3 aa (bC<|i+1) I<|bP 4 aa (mS u9 aa aa ab) I<|he 0 aa aj<|aM (Dv A C acc _ (E.md (Md.refl (fun _=>False) _).drew fun _ _ h=>h) ab) aa ?_;rintro v21 aK ⟨rfl,aq⟩;have ah:(fun w'=>True) aK:=trivial;refine ⟨ah,?_⟩;refine aT [5,6,7,8] aa ah<|hn aj<|bc 6 aa<|tr<|bc 3 aa<|tr<|bc 2 aa<|f4 aa aa aa aa aa ?_
 skip
 exact ⟨by rw [← hd,drop_cons 0 (by omega :i < s.length),DR ay]; rfl,E.Dt G (Md.trans (Md.refl _ _).drew aq) ab⟩;refine bz 8 aa<|cd aa (fun aD=> ?_) fun aD=> ?_;have V:(s.getD i 0).toNat=92:=ab;refine aH 9 aa<|p (bC<|i+1)<|au 10 aa<|gs (t:=32) aa (fun aF=> ?_) fun aF=> ?_;exact aC 19 aa<|tr<|bc 3 aa<|tr<|bc 2 aa<|f4 aa aa aa aa aa<|⟨by rw [← hd,drop_cons 0 (by omega :i < s.length),iR ab,DO V]; rfl,G⟩
 refine au 2 aa<|bI aa (e5 u9 aa aa ab)<|eg aa aa aa<|aM (UP (s.getD (i+1) 0) _) aa ?_;rintro aO aS ⟨rfl,O⟩;refine aQ 4 aa<|cb aa (fun Y=> ?_) fun Y=> ?_;exact aJ 10 aa<|tr<|bc 3 aa<|tr<|bc 2 aa<|f4 aa aa aa aa aa<|⟨by rw [← hd,drop_cons 0 (by omega :i < s.length),drop_cons 0 (by omega :i+1 < s.length),DP V (by simpa using Y)]; rfl,Md.trans G O⟩
 exact aJ 2 aa<|tn<|⟨i+1,ab,(E.md O fun _ _ h=>h),(Md.trans G O),(by rw [← hd,drop_cons 0 (by omega :i < s.length),drop_cons 0 (by omega :i+1 < s.length),xf V (by simpa using Y)]),aa⟩
 exact aJ 8 aa<|tn<|⟨i,ab,E,G,(by rw [← hd,drop_cons 0 (by omega :i < s.length),DQ ab ab]),aa⟩
 rintro al Z ⟨k,hk,ae,ap,aE,aI⟩;refine bA aI<|aH 4 aa<|p (e5 u9 aa aa ab)<|e<|aM (LD A C (acc) (s.getD k 0) _ ae ab) aa ?_;rintro aP aU ⟨rfl,am,ao,av,aN⟩;exact aC 11 aa<|tn<|⟨_,ab,k+1,acc++ [s.getD k 0],am,(by rw [bG,fg]; omega),ao,(ae.step ap av ab),aE,aa,aa⟩
 refine aJ 2 aa<|bK<|dq 4 aa<|e<|aM (Dv A C acc _ E ab) aa ?_;rintro aR aV ⟨rfl,aw⟩;exact aC 7 aa<|f4 aa aa aa aa aa<|⟨by rw [← hd,iR ab,zI]; rfl,E.Dt G aw ab⟩
theorem Uu (s:List UInt8) (w:ak) (hs:s.length≤1048576):
 ba az 194 (a7 [str s]) w (fun v w'=>v= .tuple #[str (letE s).1,.int .i64 (letE s).2]∧Wk w w'):=by
 refine enter func194 aa ntmps194 aa<|bg 8 aa<|e<|al ZL fun V aS aU I ap=> ?_;have aE:bO aS.heap V (marksOf []):=by rw [UR]; exact ap
 refine aQ 9 aa<|cd aa (fun am=> ?_) fun am=> ?_;exact aJ 8 aa<|f2 aa aa aa<|⟨by show gR #[str [],.int .i64 21]=_; unfold letE; rw [if_pos (.inl am)]; rfl,I.md⟩
 refine aH 4 aa<|e<|gK LH fun G a3 aW ay aF=>aQ 11 aa ?_;have aV:=ap.lt;refine lp (fun ao aA O=> ∃ (i:Nat) (A:ag),(i≤s.length)∧(∀ j,j < i→jh (s.getD j 0)=true)∧(bO O.heap V<|marksOf<|lets<|s.take i)∧(Bd 309 5 O G A<|lets<|s.take i)∧(Wk w O)∧(Sl aA [(0,str s),(4,bj V),(5,bj G),(10,.int .i64 s.length),(11,.int .i64 i)])∧(s.length - i=ao)) _ ⟨0,.slice none 0 0,ab,(fun j an=>by omega),(ay.md.B aE),(Bd.new aF),(Md.trans I.md ay.md),aa,aa⟩ ?_;rintro ao aA O ⟨i,A,hi,hp,ax,Z,ah,aP,rfl⟩;refine bA aP ?_;have aO:=Cb<|s.take i;rw [dJ] at aO;have aX:=ax.lt;refine bq 6 aa<|cd aa (fun aN=> ?_) fun aN=> ?_;refine aH 15 aa<|p (e5 u9 aa aa ab)<|e<|aM (Hd (s.getD i 0) _) aa ?_;rintro v17 aR ⟨rfl,C⟩;refine aQ 3 aa<|cb aa (fun ai=> ?_) fun ai=> ?_;have J:jh (s.getD i 0)=false :=by simpa using ai
 exact aJ 10 aa<|tr<|bc 2 aa<|f2 aa aa aa<|⟨by show gR #[str [],.int .i64 21]=_; unfold letE; rw [if_pos (.inr<|tU ab J)]; rfl,Md.trans ah C⟩
 have J:jh (s.getD i 0)=true :=by simpa using ai
 have aq:Wk w aR:=Md.trans ah C;have Y:=C.B ax;have ae:=Z.md C fun _ _ h=>h;have aZ:=C.size;refine aH 6 aa<|p (e5 u9 aa aa ab)<|p (kF Fa aa aa<|by have :=js (s.getD i 0); omega)<|p (ld1 aa<|UT Y _)<|aQ 3 aa<|cb aa (fun aj=> ?_) fun aj=> ?_;have E:¬s.getD i 0∈lets (s.take i):=of_decide_eq_false<|by simpa using aj
 refine aH 4 aa<|p (e5 u9 aa aa ab)<|p (kF Fa aa aa<|by have :=js (s.getD i 0); omega)<|e<|st Gb aa aa (aa) (Y) (by rw [IX]; have :=js (s.getD i 0); omega) fun aT av aD=> ?_;have aL:=UU aD;have aI:Wk w aT:=Md.trans' aq av fun k hk h=>by omega
 have ac:=ae.md av fun k hk h=>by have :=ae.jM hk; omega
 refine au 5 aa<|p (e5 u9 aa aa ab)<|e<|aM (LD G A (lets<|s.take i) (s.getD i 0) _ ac ab) aa ?_;rintro v32 a1 ⟨rfl,aB,aG,aw,aY⟩;exact aC 7 aa<|tn<|⟨_,ab,i+1,aB,ab,(fun j an=>by rcases fG j i with h | h <;> first | exact hp j h | (rw [show j=i by omega]; exact J)),(by rw [rP ab,if_neg E]; exact aw.B aL fun h=>by have :=ac.jM h; omega),(by rw [rP ab,if_neg E]; exact aG),(ac.step aI aw<|by have :=I.md.size; omega),aa,aa⟩
 have E:s.getD i 0∈lets (s.take i):=by simpa using aj
 exact aJ 7 aa<|tn<|⟨_,ab,i+1,A,ab,(fun j an=>by rcases fG j i with h | h <;> first | exact hp j h | (rw [show j=i by omega]; exact J)),(by rw [rP ab,if_pos E]; exact Y),(by rw [rP ab,if_pos E]; exact ae),aq,aa,aa⟩
 refine aJ 2 aa<|bK<|dq 4 aa<|e<|aM (Dv G A (lets<|s.take i) _ Z<|by have :=Cb (s.take i); rw [dJ] at this; omega) aa ?_;rintro a0 a2 ⟨rfl,aK⟩;exact aC 5 aa<|f2 aa aa aa<|⟨by show gR #[str (lets<|s.take i),.int .i64 0]=_; unfold letE; rw [if_neg (by rw [vA (fun j an=>hp j ab)]; exact fun h=>h.elim am dM),show s.take i=s from eY ab]; rfl,Z.Dt ah aK<|by have :=I.md.size; omega⟩
end Go.Hb
end
section
namespace Go.Hb
open Go.Hb.dP
theorem yy {s:List UInt8} (h:¬s= []) (h1:¬(1 < s.length∧(s.getD 0 0).toNat=48)):¬rM s:=fun A=>A.elim h h1
theorem JJ {s:List UInt8} (h:¬rM s):0 < s.length:=mu.2 fun e=>h<|.inl e
theorem yQ (s:List UInt8) (most:Int) (w:ak) (hs:s.length≤1048576) (hm: -9223372036854775808≤most∧most≤9223372036854775807):
 ba az 137 (a7 [str s,.int .i64 most]) w (fun v w'=>v= .tuple #[.int .i64 (ee s most).1,.int .i64 (ee s most).2]∧Wk w w'):=by
 refine enter func137 aa ntmps137 aa<|bq 6 aa ?_;refine ei (fun Y E=>(¬rM s)∧(E=w)∧(Sl Y [(0,str s),(1,.int .i64 most)])) ?_ ?_;refine bg 5 aa<|gs (t:=11) aa (fun A=> ?_) fun A=> ?_;exact aC 19 aa<|tr<|f2 aa aa aa<|⟨by show gR #[.int .i64 0,.int .i64 13]=_; rw [yP (.inl A)]; rfl,Md.refl _ _⟩
 refine au 4 aa<|gs (t:=15) aa (fun aj=> ?_) fun aj=> ?_;refine au 1 aa<|bI aa (jz 0 u9 aa aa ab)<|aQ 5 aa<|cd aa (fun ae=> ?_) fun ae=> ?_;exact aJ 7 aa<|tr<|f2 aa aa aa<|⟨by show gR #[.int .i64 0,.int .i64 13]=_; rw [yP (.inr ⟨ab,ab⟩)]; rfl,Md.refl _ _⟩
 have C:=yy (s:=s) A ab;exact aJ 1 aa<|tn<|⟨C,aa,aa⟩
 exact au 4 aa<|p (rX aa)<|aC 4 aa<|tn<|⟨(yy (s:=s) A ab),aa,aa⟩
 rintro Y E ⟨C,Z,ao⟩;refine bA ao ?_;subst Z;have hp:=JJ C;refine bz 14 aa<|lp (fun I G V=> ∃ (i:Nat),(i≤s.length)∧(V=E)∧((gG (s.take i):Int)≤max 0 most∧(0 < i→(gG (s.take i):Int)≤most))∧(∀ j,j < i→rD (s.getD j 0)=true)∧(G 6=ay (gG<|s.take i))∧(Sl G [(0,str s),(1,.int .i64 most),(22,.int .i64 s.length),(23,.int .i64 i)])∧(s.length - i=I)) _ ⟨0,ab,aa,(by rw [pH]; show (0:Int)≤_∧_; omega),(fun j O=>by omega),(iv<|by first | rfl | (rw [oa ab])),aa,aa⟩ ?_;rintro I G V ⟨i,hi,ac,hn,J,aq,ap,rfl⟩;refine bA ap<|fx 6 aq ?_;subst ac;have av:=js<|s.getD i 0;refine bq 6 aa<|cd aa (fun ag=> ?_) fun ag=> ?_;refine aH 14 aa<|p (e5 u9 aa aa ab)<|p (xY u3 qU aa<|qX ab)<|au 10 aa<|gs (t:=33) aa (fun al=> ?_) fun al=> ?_;exact au 3 aa<|p mv<|au 4 aa<|p mv<|aC 20 aa<|tr<|bc 2 aa<|f2 aa aa aa<|⟨by show gR #[.int .i64 0,.int .i64 13]=_; rw [yO (i:=i) ab (x5 ab)]; rfl,Md.refl _ _⟩
 refine au 4 aa<|gs (t:=37) aa (fun am=> ?_) fun am=> ?_;exact au 4 aa<|p mv<|aC 20 aa<|tr<|bc 2 aa<|f2 aa aa aa<|⟨by show gR #[.int .i64 0,.int .i64 13]=_; rw [yO (i:=i) ab (x5 ab)]; rfl,Md.refl _ _⟩
 refine au 5 aa<|gs (t:=42) aa (fun an=> ?_) fun an=> ?_;exact aC 20 aa<|tr<|bc 2 aa<|f2 aa aa aa<|⟨by show gR #[.int .i64 0,.int .i64 13]=_; rw [wh (i+1) (by rw [oa ab]; omega)]; rfl,Md.refl _ _⟩
 have aw:((s.getD i 0).toNat:Int) - 48≤most:=ab;refine au 4 aa<|bI aa (rY (((most - (((s.getD i 0).toNat:Int) - 48)).toNat / 10:Nat):Int) aa aa ab<|kq ab ab)<|aQ 4 aa<|cd aa (fun ah=> ?_) fun ah=> ?_;exact aJ 10 aa<|tr<|bc 2 aa<|f2 aa aa aa<|⟨by show gR #[.int .i64 0,.int .i64 13]=_; rw [wh (i+1) (by rw [oa ab]; omega)]; rfl,Md.refl _ _⟩
 have ai:rD (s.getD i 0)=true :=decide_eq_true ab;exact aH 4 aa<|p (pV ((gG (s.take i)*10:Nat):Int) aa aa<|kq ab ab)<|au 1 aa<|p (bC<|gG (s.take i)*10 +((s.getD i 0).toNat - 48))<|aC 8 aa<|tn<|⟨_,ab,i+1,ab,aa,(by rw [oa ab]; omega),(fun j O=>by rcases fG j i with h | h <;> first | exact J j h | (rw [show j=i by omega]; exact ai)),(iv<|by first | rfl | (rw [oa ab])),aa,aa⟩
 exact aJ 2 aa<|bK<|bc 10 aa<|f2 aa aa aa<|⟨by show gR #[ay (gG<|s.take i),.int .i64 0]=_; rw [show s.take i=s from eY ab,Cw C (fun j O=>J j ab) (by rw [show s.take i=s from eY ab] at hn; omega)],Md.refl _ _⟩
theorem s6 (s:List UInt8) (most:Int) (w:ak) (hs:s.length≤1048576) (hm: -9223372036854775808≤most∧most≤9223372036854775807):
 ba az 99 (a7 [str s,.int .i64 most]) w (fun v w'=>v= .tuple #[.int .i64 (ee s most).1,.int .i64 (ee s most).2]∧Wk w w'):=by
 refine enter func99 aa ntmps99 aa<|bq 6 aa ?_;refine ei (fun Z G=>(¬rM s)∧(G=w)∧(Sl Z [(0,str s),(1,.int .i64 most)])) ?_ ?_;refine bg 6 aa<|gs (t:=13) aa (fun E=> ?_) fun E=> ?_;exact aC 19 aa<|tr<|f2 aa aa aa<|⟨by show gR #[.int .i64 0,.int .i64 13]=_; rw [yP (.inl<|Ad.1 ab)]; rfl,Md.refl _ _⟩
 refine au 4 aa<|gs (t:=17) aa (fun aq=> ?_) fun aq=> ?_;refine au 1 aa<|bI aa (jz 0 u9 aa aa ab)<|aQ 5 aa<|cd aa (fun ai=> ?_) fun ai=> ?_;exact aJ 7 aa<|tr<|f2 aa aa aa<|⟨by show gR #[.int .i64 0,.int .i64 13]=_; rw [yP (.inr ⟨ab,ab⟩)]; rfl,Md.refl _ _⟩
 exact aJ 1 aa<|tn<|⟨(yy (s:=s) (fun e=>by subst e; exact E aa) ab),aa,aa⟩
 exact au 4 aa<|p (rX aa)<|aC 4 aa<|tn<|⟨(yy (s:=s) (fun e=>by subst e; exact E aa) ab),aa,aa⟩
 rintro Z G ⟨O,ae,aA⟩;refine bA aA ?_;subst ae;have hp:=JJ O;refine bz 12 aa<|lp (fun A ac I=> ∃ (i:Nat),(i≤s.length)∧(I=G)∧(∀ j,j < i→rD (s.getD j 0)=true)∧(Sl ac [(0,str s),(1,.int .i64 most),(6,.int .i64 0),(7,.int .i64 i)])∧(s.length - i=A)) _ ⟨0,ab,aa,(fun j V=>by omega),aa,aa⟩ ?_;rintro A ac I ⟨i,hi,ag,C,aB,rfl⟩;refine bA aB ?_;subst ag;refine bq 9 aa<|cd aa (fun aj=> ?_) fun aj=> ?_;refine aH 8 aa<|p (e5 u9 aa aa ab)<|au 2 aa<|gs (t:=33) aa (fun av=> ?_) fun av=> ?_;exact aC 17 aa<|tr<|bc 2 aa<|f2 aa aa aa<|⟨by show gR #[.int .i64 0,.int .i64 13]=_; rw [yO (i:=i) ab (x5 ab)]; rfl,Md.refl _ _⟩
 refine au 2 aa<|bI aa (e5 u9 aa aa ab)<|aQ 4 aa<|cd aa (fun al=> ?_) fun al=> ?_;exact aJ 9 aa<|tr<|bc 2 aa<|f2 aa aa aa<|⟨by show gR #[.int .i64 0,.int .i64 13]=_; rw [yO (i:=i) ab (x5 ab)]; rfl,Md.refl _ _⟩
 have ap:rD (s.getD i 0)=true :=decide_eq_true ab;exact aJ 8 aa<|tn<|⟨_,ab,i+1,ab,aa,(fun j V=>by rcases fG j i with h | h <;> first | exact C j h | (rw [show j=i by omega]; exact ap)),aa,aa⟩
 refine aJ 2 aa<|bK<|dz 9 aa<|lp (fun A J Y=> ∃ (j:Nat),(j≤s.length)∧(Y=I)∧(gG (s.take j)≤9223372036854775807)∧(J 6=ay (gG<|s.take j))∧(Sl J [(0,str s),(1,.int .i64 most),(8,.int .i64 j)])∧(s.length - j=A)) _ ⟨0,ab,aa,(by rw [pH]; exact Nat.zero_le _),(iv<|by first | rfl | (rw [oa ab])),aa,aa⟩ ?_;rintro A J Y ⟨j,V,ah,hn,aE,aD,rfl⟩;refine bA aD<|fx 6 aE ?_;subst ah;refine bq 9 aa<|cd aa (fun am=> ?_) fun am=> ?_;refine bz 5 aa ?_;have aF:=A4<|C j ab;refine aH 3 aa<|p (e5 u9 aa aa ab)<|au 1 aa<|p (xY u3 qU aa<|qX ab)<|au 9 aa<|gs (t:=52) aa (fun aw=> ?_) fun aw=> ?_;exact aC 20 aa<|tr<|bc 2 aa<|f2 aa aa aa<|⟨by show gR #[.int .i64 0,.int .i64 13]=_; rw [wh (j+1) (by rw [oa ab]; omega)]; rfl,Md.refl _ _⟩
 refine au 3 aa<|gs (t:=55) aa (fun ax=> ?_) fun ax=> ?_;refine aQ 6 aa<|cd aa (fun an=> ?_) fun an=> ?_;exact aJ 10 aa<|tr<|bc 2 aa<|f2 aa aa aa<|⟨by show gR #[.int .i64 0,.int .i64 13]=_; rw [wh (j+1) (by rw [oa ab]; omega)]; rfl,Md.refl _ _⟩
 exact aH 4 aa<|p (pV ((gG (s.take j)*10:Nat):Int) aa aa<|kq ab ab)<|au 1 aa<|p (bC<|gG (s.take j)*10 +((s.getD j 0).toNat - 48))<|aC 9 aa<|tn<|⟨_,ab,j+1,ab,aa,(by have :=A4 (C j ab); rw [oa ab]; omega),(iv<|by first | rfl | (rw [oa ab])),aa,aa⟩
 exact au 3 aa<|p (rX aa)<|au 7 aa<|p (pV ((gG (s.take j)*10:Nat):Int) aa aa<|kq ab ab)<|au 1 aa<|p (bC<|gG (s.take j)*10 +((s.getD j 0).toNat - 48))<|aC 9 aa<|tn<|⟨_,ab,j+1,ab,aa,(by have :=A4 (C j ab); rw [oa ab]; omega),(iv<|by first | rfl | (rw [oa ab])),aa,aa⟩
 refine aJ 2 aa<|bK<|dz 10 aa<|cd aa (fun ao=> ?_) fun ao=> ?_;exact aJ 8 aa<|f2 aa aa aa<|⟨by show gR #[.int .i64 0,.int .i64 13]=_; rw [wh j ab]; rfl,Md.refl _ _⟩
 exact aJ 10 aa<|f2 aa aa aa<|⟨by show gR #[ay (gG<|s.take j),.int .i64 0]=_; rw [show s.take j=s from eY ab,Cw O (fun q aG=>C q ab) (by rw [show s.take j=s from eY ab] at*; omega)],Md.refl _ _⟩
end Go.Hb
end
section
namespace Go.Hb
open Go.Hb.dP
theorem CS {s pr:List UInt8} (h:s.take pr.length=pr):pr.length≤s.length:=by
 have :=congrArg jr h;rw [dJ] at this; omega
theorem Yf {s:List UInt8} (h:decide (1≤s.length∧s.drop (s.length - 1)= [13])=true):ka s=s.take (s.length - 1):=by
 have h1:=of_decide_eq_true h;rw [IE ab] at h1;exact Gy ab<|by simpa using h1.2
theorem Yg {s:List UInt8} (h:decide (1≤s.length∧s.drop (s.length - 1)= [13])=false):ka s=s:=by
 have h1:=of_decide_eq_false h;refine Ba fun h2=>h1 ⟨ab,?_⟩;rw [IE ab,h2.2]
theorem T0 (c:UInt8):fF c [c]=0:=by unfold fF; simp
theorem BT (s pr:List UInt8) (w:ak) (hs:s.length≤1099511627776) (hp:pr.length≤1099511627776):
 ba az 217 (a7 [str s,str pr]) w (fun v w'=>v= .bool (decide (s.take pr.length=pr))∧Wk w w'):=by
 refine enter func217 aa ntmps217 aa<|bg 13 aa<|gs (t:=10) aa (fun A=> ?_) fun A=> ?_;exact au 3 aa<|bI aa (r6 u9 aa aa ab)<|aC 7 aa<|aR aa<|⟨aa,Md.refl _ _⟩
 exact au 7 aa<|p bm<|aC 3 aa<|aR aa<|⟨by show bR false =_; rw [decide_eq_false (fun h=>by have :=CS h; omega)],Md.refl _ _⟩
theorem YB (s pr:List UInt8) (w:ak) (hs:s.length≤1099511627776) (hp:pr.length≤1099511627776):
 ba az 210 (a7 [str s,str pr]) w (fun v w'=>v=str (gn s pr)∧Wk w w'):=by
 refine enter func210 aa ntmps210 aa<|bg 10 aa<|e<|aM (BT s pr _ hs hp) aa ?_;rintro I J ⟨rfl,E⟩;refine aQ 2 aa<|cb aa (fun C=> ?_) fun C=> ?_;have A:=of_decide_eq_true C;have G:=CS A;exact aH 5 aa<|p (mS u9 aa aa ab)<|aC 5 aa<|aR aa<|⟨by show str (s.drop (pr.length:Int).toNat)=_; unfold gn; rw [if_pos A]; rfl,E⟩
 have A:=of_decide_eq_false C;exact aJ 9 aa<|aR aa<|⟨by show str s=_; unfold gn; rw [if_neg A],E⟩
theorem K6 (s pr:List UInt8) (w:ak) (hs:s.length≤1099511627776) (hp:pr.length≤1099511627776):
 ba az 146 (a7 [str s,str pr]) w (fun v w'=>v=str (gn s pr)∧Wk w w'):=by
 refine enter func146 aa ntmps146 aa<|bg 9 aa<|e<|aM (YB s pr _ hs hp) aa ?_;rintro C E ⟨rfl,A⟩;exact aC 4 aa<|aR aa<|⟨aa,A⟩
theorem yw (s pr:List UInt8) (w:ak) (hs:s.length≤1099511627776) (hp:pr.length≤1099511627776):
 ba az 216 (a7 [str s,str pr]) w (fun v w'=>v= .bool (decide (pr.length≤s.length∧s.drop (s.length - pr.length)=pr))∧Wk w w'):=by
 refine enter func216 aa ntmps216 aa<|bg 13 aa<|gs (t:=10) aa (fun A=> ?_) fun A=> ?_;exact au 6 aa<|bI aa (mS u9 aa aa ab)<|aC 7 aa<|aR aa<|⟨by show bR (decide (s.drop ((s.length:Int) - (pr.length:Int)).toNat=pr))=_; rw [show ((s.length:Int) - (pr.length:Int)).toNat=s.length - pr.length from by omega]; exact bv (by constructor <;> intro h <;> first | exact ⟨ab,h⟩ | exact h.2),Md.refl _ _⟩
 exact au 10 aa<|p bm<|aC 3 aa<|aR aa<|⟨by show bR false =_; rw [decide_eq_false ab],Md.refl _ _⟩
theorem YE (s:List UInt8) (w:ak) (hs:s.length≤1099511627776):
 ba az 209 (a7 [str s,str [13]]) w (fun v w'=>v=str (ka s)∧Wk w w'):=by
 refine enter func209 aa ntmps209 aa<|bg 10 aa<|e<|aM (yw s [13] _ hs aw) aa ?_;rintro I J ⟨rfl,C⟩;refine aQ 2 aa<|cb aa (fun A=> ?_) fun A=> ?_;have G:=(of_decide_eq_true A).1;have E:([13]:List UInt8).length=1:=rfl;exact aH 8 aa<|p (r6 u9 aa aa ab)<|aC 5 aa<|aR aa<|⟨by show str (s.take ((s.length:Int) - (([13]:List UInt8).length:Int)).toNat)=_; rw [Yf A,show ((s.length:Int) - (([13]:List UInt8).length:Int)).toNat=s.length - 1 from by simp only [fg]; omega],C⟩
 exact aJ 9 aa<|aR aa<|⟨by show str s=_; rw [Yg A],C⟩
theorem YF (s:List UInt8) (w:ak) (hs:s.length≤1099511627776):
 ba az 145 (a7 [str s,str [13]]) w (fun v w'=>v=str (ka s)∧Wk w w'):=by
 refine enter func145 aa ntmps145 aa<|bg 9 aa<|e<|aM (YE s _ hs) aa ?_;rintro C E ⟨rfl,A⟩;exact aC 4 aa<|aR aa<|⟨aa,A⟩
theorem Ik (s:List UInt8) (c:UInt8) (w:ak):
 ba az 275 (a7 [str s,.int .u8 c.toNat]) w (fun v w'=>v= .int .i64 (fF c s)∧Wk w w'):=by
 exact enter func275 aa ntmps275 aa<|bg 9 aa<|p (FN (T1 s c _) aa)<|aC 4 aa<|aR aa<|⟨aa,Md.refl _ _⟩
theorem Ij (s:List UInt8) (c:UInt8) (w:ak):
 ba az 263 (a7 [str s,str [c]]) w (fun v w'=>v= .int .i64 (fF c s)∧Wk w w'):=by
 refine enter func263 aa ntmps263 aa<|bg 19 aa<|gs (t:=19) aa (fun h=>absurd h<|by simp) fun G=>aQ 7 aa<|cd aa (fun A=> ?_) fun A=> ?_;exact aJ 8 aa<|aR aa<|⟨by show gq .i64 0=_; rw [← A,T0],Md.refl _ _⟩
 refine bz 7 aa<|cd aa (fun E=> ?_) fun h=>absurd aa h;refine aH 4 aa<|p (jz 0 u9 aa aa<|by simp)<|e<|aM (Ik s c _) aa ?_;rintro v30 I ⟨rfl,C⟩;exact aC 6 aa<|aR aa<|⟨aa,C⟩
theorem TL (s:List UInt8) (c:UInt8) (w:ak):
 ba az 299 (a7 [str s,str [c]]) w (fun v w'=>v= .int .i64 (fF c s)∧Wk w w'):=by
 refine enter func299 aa ntmps299 aa<|bg 9 aa<|e<|aM (Ij s c _) aa ?_;rintro C E ⟨rfl,A⟩;exact aC 4 aa<|aR aa<|⟨aa,A⟩
theorem Qd (s:List UInt8) (c:UInt8) (w:ak) (hs:s.length≤1099511627776):
 ba az 232 (a7 [str s,str [c]]) w (fun v w'=>v= .tuple #[str (nj c s),str (oV c s),.bool (!decide (fF c s < 0))]∧Wk w w'):=by
 refine enter func232 aa ntmps232 aa<|bg 12 aa<|e<|aM (Ij s c _) aa ?_;rintro v10 J ⟨rfl,C⟩;refine aQ 9 aa<|cd aa (fun E=> ?_) fun E=> ?_;have G:=sR (c:=c) (l:=s) ab;have I:[c].length=1:=rfl;exact bz 1 aa<|dZ fun A=>aT [0,1] aa A<|bP 2 aa (r6 u9 aa aa ab) A<|aT [3,4,5,6] aa A<|bP 7 aa (bC<|s.idxOf c+1) A<|bP 8 aa (mS u9 aa aa ab) A<|aT [9,10,11] aa A<|hn aj<|bc 3 aa<|f3 aa aa aa aa<|⟨by show gR #[str (s.take (fF c s).toNat),str (s.drop<|s.idxOf c+1),.bool true]=_; unfold nj oV; rw [if_neg ab,if_neg ab,G.1,decide_eq_false ab]; rfl,Md.trans C (Md.refl _ _).drew⟩
 exact aJ 11 aa<|f3 aa aa aa aa<|⟨by show gR #[str s,str [],.bool false]=_; unfold nj oV; rw [if_pos ab,if_pos ab,decide_eq_true ab]; rfl,C⟩
theorem Qg (s:List UInt8) (c:UInt8) (w:ak) (hs:s.length≤1099511627776):
 ba az 190 (a7 [str s,str [c]]) w (fun v w'=>v= .tuple #[str (nj c s),str (oV c s),.bool (!decide (fF c s < 0))]∧Wk w w'):=by
 refine enter func190 aa ntmps190 aa<|bg 11 aa<|e<|aM (Qd s c _ hs) aa ?_;rintro v9 C ⟨rfl,A⟩;exact aC 9 aa<|f3 aa aa aa aa<|⟨aa,A⟩
end Go.Hb
end
section
namespace Go.Hb
open Go.Hb.dP
theorem TX (x:Nat) (w:ak):
 ba az 303 (a7 [bf x]) w (fun v w'=>v= .bool false∧Wk w w'):=by
 exact enter func303 aa ntmps303 aa<|bg 7 aa<|ep (bf x)<|ep (bf x)<|aC 5 aa<|aR aa<|⟨congrArg bR (decide_eq_false fun h=>h aa),Md.refl _ _⟩
theorem mK (x y:Nat) (w:ak):
 ba az 290 (a7 [bf x,bf y]) w (fun v w'=>v= .bool (bZ x y)∧Wk w w'):=by
 refine enter func290 aa ntmps290 aa<|bg 7 aa<|ep (bf x)<|e<|aM (TX x _) aa ?_;rintro v6 C ⟨rfl,A⟩;exact au 5 aa<|p mv<|bI aa (rS (bf x) aa)<|bI aa (rS (bf y) aa)<|aC 6 aa<|aR aa<|⟨by show bR (decide ((x:Int) < (y:Int)))=_; unfold bZ; exact congrArg bR (decide_eq_decide.2 ab),A⟩
theorem TT (d:Array Nat) (a b:Nat) (B n cp:Nat) (C:Option bF) (w:ak) (hO:w.ownsRow B 95 1 (.slice C n cp) n (LE bf d)) (aK:a≤b∧b≤n) (aP:n≤1099511627776):
 ba az 284 (a7 [.slice C n cp,ay a,ay b]) w (fun v w'=>v= .tuple #[]∧w'.ownsRow B 95 1 (.slice C n cp) n (LE bf<|Mn bZ d a b)∧Md (fun q=>(bQ C n cp).ownBlock=some q) w w'):=by
 have aN:=gi hO;refine enter func284 aa ntmps284 aa<|bg 3 aa<|p (bC<|a+1)<|aQ 4 aa<|lp (fun ac aq am=> ∃ (i:Nat) (Z:Array Nat),(a+1≤i∧i≤n+1)∧(Go.Sort.insOuter bZ a b i Z=Mn bZ d a b)∧(am.ownsRow B 95 1 (.slice C n cp) n<|LE bf Z)∧(Md (fun q=>(bQ C n cp).ownBlock=some q) w am)∧(Sl aq [(0,.slice C n cp),(1,ay a),(2,ay b),(6,ay i)])∧(b - i=ac)) _ ⟨a+1,d,ab,aa,hO,(Md.refl _ _),aa,aa⟩ ?_;rintro ac aq am ⟨i,Z,hi,ai,ao,an,aH,rfl⟩;refine bA aH<|bq 8 aa<|cd aa (fun aE=> ?_) fun aE=> ?_;refine bz 11 aa<|lp (fun ac au V=> ∃ (j:Nat) (E:Array Nat),(a≤j∧j≤i)∧(Mm bZ a j E=Mm bZ a i Z)∧(V.ownsRow B 95 1 (.slice C n cp) n<|LE bf E)∧(Md (fun q=>(bQ C n cp).ownBlock=some q) w V)∧(Sl au [(0,.slice C n cp),(1,ay a),(2,ay b),(6,ay i),(7,ay j)])∧(j=ac)) _ ⟨i,Z,ab,aa,ao,an,aa,aa⟩ ?_;rintro ac au V ⟨j,E,aO,al,J,ag,aI,rfl⟩;refine bA aI<|bq 2 aa ?_;have aL:=gi J;have G:(fun w'=>Wk V w') V.drew:=(Md.refl _ _).drew;refine dY (fun w'=>Wk V w') aa wide G<|aT [0,1,2,3] aa G<|ji (t:=19) aa (fun aD=> ?_) fun aD=> ?_;refine aT [4,5] aa G<|cB 6 aa (fun _ _=>a6 bX aa aa ab<|aB.ok ((aX J).2)<|cy ab) G<|cB 7 aa (fun w' I=>ld1 aa<|dN (i:=j) ((aX J).2.wk I) ab) G<|aT [8,9] aa G<|cB 10 aa (fun _ _=>dQ<|j - 1) G<|cB 11 aa (fun _ _=>a6 bX aa aa ab<|aB.ok ((aX J).2)<|cy ab) G<|cB 12 aa (fun w' I=>ld1 aa<|dN (i:=j - 1) ((aX J).2.wk I) ab) G<|nq 13 aa aj aa aa aa<|aM (mK E[j]! E[j - 1]! _) aa ?_;rintro aR ae ⟨rfl,av⟩;have Y:(fun w'=>Wk V w') ae:=Md.trans G av;refine ⟨Y,?_⟩;refine aT [14] aa Y<|hn aj<|dz 1 aa<|cb aa (fun ah=> ?_) fun ah=> ?_;refine bz 4 aa ?_;have O:=aU J Y;have A:(fun w'=>Wk ae w') ae.drew:=(Md.refl _ _).drew;refine gO (fun w'=>Wk ae w') 15 aa wide A<|bU [0,1,2,3] aa A<|cT 4 aa (dQ<|j - 1) A<|bU [5,6] aa A<|cT 7 aa (dQ<|j - 1) A<|cT 8 aa (a6 bX aa aa ab<|aB.ok ((aX O).2)<|cy ab) A<|eW 9 aa (fun w' I=>ld1 aa<|dN (i:=j - 1) ((aX O).2.wk I) ab) A<|bU [10,11] aa A<|cT 12 aa (a6 bX aa aa ab<|aB.ok ((aX O).2)<|cy ab) A<|eW 13 aa (fun w' I=>ld1 aa<|dN (i:=j) ((aX O).2.wk I) ab) A<|cT 14 aa (a6 bX aa aa ab<|aB.ok ((aX O).2)<|cy ab) A<|dK 15 aa aj aj<|gP (u:=E[j - 1]!) (j) (aU O A) gF aa aa aa ab fun aS ax aF=>kK 16 aa (fun _=>a6 bX aa aa ab<|aB.ok ((aX O).2)<|cy ab) (fun h=>dM<|(show true =_ from by kernel_rfl).trans h)<|dK 17 aa aj aj<|gP (u:=E[j]!) (j - 1) aF gF aa aa aa ab fun ap aA aG=> ?_;have I:ap.ownsRow B 95 1 (.slice C n cp) n (LE bf<|cX E (j)<|j - 1):=aG;have aw:Md (fun q=>(bQ C n cp).ownBlock=some q) ae ap:=Md.trans (A.mono fun _ _ h=>h.elim)<|Md.trans ax aA;exact eQ aj<|dq 4 aa<|p (dQ<|j - 1)<|aC 2 aa<|tn<|⟨_,ab,j - 1,cX E j (j - 1),ab,(by rw [← al,TQ (show a < j by omega) ah]),I,(Md.trans ag<|Md.trans (Y.mono fun _ _ h=>h.elim) aw),aa,aa⟩
 exact aJ 2 aa<|bK<|dq 5 aa<|p (bC<|i+1)<|aC 2 aa<|tn<|⟨_,ab,i+1,E,ab,(by rw [← ai,Io (show i < b by omega),← al,TR (by simpa using ah)]),(aU J Y),(Md.trans ag<|Y.mono fun _ _ h=>h.elim),aa,aa⟩
 exact aT [4,5,6,7,8,9,10,11,12,13,14] aa G<|hn aj<|bc 4 aa<|bK<|dq 5 aa<|p (bC<|i+1)<|aC 2 aa<|tn<|⟨_,ab,i+1,E,ab,(by rw [← ai,Io (show i < b by omega),← al,TS ab]),(aU J (Md.refl _ _).drew),ag.drew,aa,aa⟩
 exact aJ 2 aa<|bK<|bc 1 aa<|f0 aa<|⟨aa,by rw [← ai,TP ab]; exact ao,an⟩
theorem XC (d:Array Nat) (lo hi first :Nat) (B n cp:Nat) (I:Option bF) (w:ak) (hO:w.ownsRow B 95 1 (.slice I n cp) n (LE bf d)) (aS:lo≤hi∧first+hi≤n) (aW:n≤1099511627776):
 ba az 300 (a7 [.slice I n cp,ay lo,ay hi,ay first]) w (fun v w'=>v= .tuple #[]∧w'.ownsRow B 95 1 (.slice I n cp) n (LE bf<|sv bZ hi first lo d)∧Md (fun q=>(bQ I n cp).ownBlock=some q) w w'):=by
 refine enter func300 aa ntmps300 aa<|bq 7 aa<|lp (fun ao av ac=> ∃ (r:Nat) (A:Array Nat),(r≤hi)∧(sv bZ hi first r A=sv bZ hi first lo d)∧(ac.ownsRow B 95 1 (.slice I n cp) n<|LE bf A)∧(Md (fun q=>(bQ I n cp).ownBlock=some q) w ac)∧(Sl av [(0,.slice I n cp),(2,ay hi),(3,ay first),(8,ay r)])∧(hi - r=ao)) _ ⟨lo,d,ab,aa,hO,(Md.refl _ _),aa,aa⟩ ?_;rintro ao av ac ⟨r,A,aY,an,O,ai,aO,rfl⟩;refine bA aO<|bg 4 aa<|p (pV ((2 *r:Nat):Int) aa aa<|kq ab ab)<|p (bC<|2 *r+1)<|aQ 11 aa<|cd aa (fun aG=> ?_) fun aG=> ?_;exact aJ 3 aa<|bK<|bc 1 aa<|f0 aa<|⟨aa,by rw [← an,XA ab]; exact O,ai⟩
 refine bz 2 aa ?_;refine ei (fun aw Z=> ∃ (c:Nat),(r < c∧c < hi)∧(sv bZ hi first r A=if (!bZ A[first+r]! A[first+c]!)=true then A else sv bZ hi first c (cX A (first+r)<|first+c))∧(Z.ownsRow B 95 1 (.slice I n cp) n<|LE bf A)∧(Md (fun q=>(bQ I n cp).ownBlock=some q) w Z)∧(Sl aw [(0,.slice I n cp),(2,ay hi),(3,ay first),(8,ay r),(9,ay c)])) ?_ ?_;refine bq 1 aa ?_;have aI:=gi O;have E:(fun w'=>Wk ac w') ac.drew:=(Md.refl _ _).drew;refine dY (fun w'=>Wk ac w') aa wide E<|aT [0] aa E<|bP 1 aa (bC<|2 *r+1 +1) E<|aT [2,3,4] aa E<|ji (t:=21) aa (fun aK=> ?_) fun aK=> ?_;refine aT [5,6,7] aa E<|cB 8 aa (fun _ _=>bC<|first+(2 *r+1)) E<|cB 9 aa (fun _ _=>a6 bX aa aa ab<|aB.ok ((aX O).2)<|cy ab) E<|cB 10 aa (fun w' G=>ld1 aa<|dN (i:=first+(2 *r+1)) ((aX O).2.wk G) ab) E<|aT [11,12,13] aa E<|cB 14 aa (fun _ _=>bC<|first+(2 *r+1)) E<|cB 15 aa (fun _ _=>bC<|first+(2 *r+1)+1) E<|cB 16 aa (fun _ _=>a6 bX aa aa ab<|aB.ok ((aX O).2)<|cy ab) E<|cB 17 aa (fun w' G=>ld1 aa<|dN (i:=first+(2 *r+1)+1) ((aX O).2.wk G) ab) E<|nq 18 aa aj aa aa aa<|aM (mK A[first+(2 *r+1)]! A[first+(2 *r+1)+1]! _) aa ?_;rintro v35 aR ⟨rfl,ax⟩;have ae:(fun w'=>Wk ac w') aR:=Md.trans E ax;refine ⟨ae,?_⟩;refine aT [19] aa ae<|hn aj<|dz 1 aa<|cb aa (fun al=> ?_) fun al=> ?_;exact aH 2 aa<|p (bC<|2 *r+2)<|aC 2 aa<|tn<|⟨2 *r+2,ab,(XB ab al),(aU O ae),(Md.trans ai<|ae.mono fun _ _ h=>h.elim),aa⟩
 exact aJ 1 aa<|tn<|⟨2 *r+1,ab,(Kr ab<|.inr al),(aU O ae),(Md.trans ai<|ae.mono fun _ _ h=>h.elim),aa⟩
 exact aT [5,6,7,8,9,10,11,12,13,14,15,16,17,18,19] aa E<|hn aj<|bc 3 aa<|tn<|⟨2 *r+1,ab,(Kr ab<|.inl ab),(aU O (Md.refl _ _).drew),ai.drew,aa⟩
 rintro aw Z ⟨c,aV,aq,Y,ap,aP⟩;refine bA aP<|bz 2 aa ?_;have aI:=gi Y;have J:(fun w'=>Wk Z w') Z.drew:=(Md.refl _ _).drew;refine dY (fun w'=>Wk Z w') aa wide J<|aT [0,1,2] aa J<|bP 3 aa (bC<|first+r) J<|bP 4 aa (a6 bX aa aa ab<|aB.ok ((aX Y).2)<|cy ab) J<|fz 5 aa (fun w' G=>ld1 aa<|dN (i:=first+r) ((aX Y).2.wk G) ab) J<|aT [6,7,8] aa J<|bP 9 aa (bC<|first+c) J<|bP 10 aa (a6 bX aa aa ab<|aB.ok ((aX Y).2)<|cy ab) J<|fz 11 aa (fun w' G=>ld1 aa<|dN (i:=first+c) ((aX Y).2.wk G) ab) J<|he 12 aa aj<|aM (mK A[first+r]! A[first+c]! _) aa ?_;rintro v51 ah ⟨rfl,aA⟩;have ag:(fun w'=>Wk Z w') ah:=Md.trans J aA;refine ⟨ag,?_⟩;refine aT [13] aa ag<|hn aj<|dz 1 aa<|cb aa (fun am=> ?_) fun am=> ?_;exact aJ 3 aa<|tr<|bc 1 aa<|rG aa<|⟨aa,by rw [← an,aq,if_pos am]; exact aU Y ag,Md.trans ap<|ag.mono fun _ _ h=>h.elim⟩
 refine bz 3 aa ?_;have V:=aU Y ag;have C:(fun w'=>Wk ah w') ah.drew:=(Md.refl _ _).drew;refine gO (fun w'=>Wk ah w') 21 aa wide C<|bU [0,1,2] aa C<|cT 3 aa (bC<|first+r) C<|bU [4,5,6] aa C<|cT 7 aa (bC<|first+c) C<|bU [8,9,10] aa C<|cT 11 aa (bC<|first+c) C<|cT 12 aa (a6 bX aa aa ab<|aB.ok ((aX V).2)<|cy ab) C<|eW 13 aa (fun w' G=>ld1 aa<|dN (i:=first+c) ((aX V).2.wk G) ab) C<|bU [14,15,16] aa C<|cT 17 aa (bC<|first+r) C<|cT 18 aa (a6 bX aa aa ab<|aB.ok ((aX V).2)<|cy ab) C<|eW 19 aa (fun w' G=>ld1 aa<|dN (i:=first+r) ((aX V).2.wk G) ab) C<|cT 20 aa (a6 bX aa aa ab<|aB.ok ((aX V).2)<|cy ab) C<|dK 21 aa aj aj<|gP (u:=A[first+c]!) (first+r) (aU V C) gF aa aa aa ab fun aZ aE aL=> ?_;refine kK 22 aa (fun _=>a6 bX aa aa ab<|aB.ok ((aX V).2)<|cy ab) (fun h=>dM<|(show true =_ from by kernel_rfl).trans h)<|dK 23 aa aj aj<|gP (u:=A[first+r]!) (first+c) aL gF aa aa aa ab fun au aF aN=> ?_;have G:au.ownsRow B 95 1 (.slice I n cp) n (LE bf<|cX A (first+r)<|first+c):=aN;have aD:Md (fun q=>(bQ I n cp).ownBlock=some q) ah au:=Md.trans (C.mono fun _ _ h=>h.elim)<|Md.trans aE aF;exact eQ aj<|bc 6 aa<|tn<|⟨_,ab,c,cX A (first+r) (first+c),ab,(by rw [← an,aq,if_neg (by rw [am]; exact dM)]),G,(Md.trans ap<|Md.trans (ag.mono fun _ _ h=>h.elim) aD),aa,aa⟩
theorem Ks (d:Array Nat) (lo hi first :Nat) (E C:Int) (B n cp:Nat) (A:Option bF) (w:ak) (hO:w.ownsRow B 95 1 (.slice A n cp) n (LE bf d)) (G:lo≤hi∧first+hi≤n) (J:E=(lo:Nat)) (I:C=(hi:Nat)) (O:n≤1099511627776):
 ba az 300 (a7 [.slice A n cp,.int .i64 E,.int .i64 C,.int .i64 (first :Nat)]) w (fun v w'=>v= .tuple #[]∧w'.ownsRow B 95 1 (.slice A n cp) n (LE bf<|sv bZ hi first lo d)∧Md (fun q=>(bQ A n cp).ownBlock=some q) w w'):=by
 subst J I; exact XC d lo hi first B n cp A w hO G O
theorem Tp (d:Array Nat) (a b:Nat) (B n cp:Nat) (C:Option bF) (w:ak) (hO:w.ownsRow B 95 1 (.slice C n cp) n (LE bf d)) (aK:a < b∧b≤n) (ag:n≤1099511627776):
 ba az 285 (a7 [.slice C n cp,ay a,ay b]) w (fun v w'=>v= .tuple #[]∧w'.ownsRow B 95 1 (.slice C n cp) n (LE bf<|Ml bZ d a b)∧Md (fun q=>(bQ C n cp).ownBlock=some q) w w'):=by
 refine enter func285 aa ntmps285 aa<|bg 15 aa<|p (dQ<|b - a)<|au 7 aa<|p (dQ<|b - a - 1)<|p (rY (((b - a - 1) / 2:Nat):Int) aa aa ab<|kq ab ab)<|aQ 4 aa<|lp (fun J ac Z=> ∃ (k:Nat) (A:Array Nat),(k≤b - a)∧(Mk bZ (b - a) a k A=Mk bZ (b - a) a ((b - a - 1) / 2 +1) d)∧(Z.ownsRow B 95 1 (.slice C n cp) n<|LE bf A)∧(Md (fun q=>(bQ C n cp).ownBlock=some q) w Z)∧(ac 9= .int .i64 ((k:Nat) - 1:Int))∧(Sl ac [(0,.slice C n cp),(6,ay a),(7,.int .i64 0),(8,ay (b - a))])∧(k=J)) _ ⟨(b - a - 1) / 2 +1,d,ab,aa,hO,(Md.refl _ _),(iv ab),aa,aa⟩ ?_;rintro J ac Z ⟨k,A,hk,Y,G,O,aF,aE,rfl⟩;refine bA aE<|fx 9 aF<|bq 7 aa<|cd aa (fun aw=> ?_) fun aw=> ?_;refine aH 9 aa<|e<|aM (Ks A (k - 1) (b - a) a _ _ B n cp C _ G ab ab aa ag) aa ?_;rintro v26 aO ⟨rfl,aq,al⟩;exact aC 8 aa<|tn<|⟨_,ab,k - 1,sv bZ (b - a) a (k - 1) A,ab,(by rw [← Y,SX (show 0 < k by omega)]),aq,(Md.trans O al),(iv ab),aa,aa⟩
 refine aJ 2 aa<|bK<|dq 5 aa<|p (dQ<|b - a - 1)<|aQ 4 aa<|lp (fun J ae I=> ∃ (k:Nat) (A:Array Nat),(k≤b - a)∧(Go.Sort.heapPop bZ a k A=Ml bZ d a b)∧(I.ownsRow B 95 1 (.slice C n cp) n<|LE bf A)∧(Md (fun q=>(bQ C n cp).ownBlock=some q) w I)∧(ae 10= .int .i64 ((k:Nat) - 1:Int))∧(Sl ae [(0,.slice C n cp),(6,ay a),(7,.int .i64 0),(8,ay (b - a))])∧(k=J)) _ ⟨b - a,A,ab,(by rw [show k=0 by omega,SY] at Y; rw [Y]; rfl),G,O,(iv ab),aa,aa⟩ ?_;rintro J ae I ⟨k,A,aN,ah,G,O,aI,aG,rfl⟩;refine bA aG<|fx 10 aI<|bq 7 aa<|cd aa (fun ax=> ?_) fun ax=> ?_;refine bz 5 aa ?_;have aL:=gi G;have E:(fun w'=>Wk I w') I.drew:=(Md.refl _ _).drew;refine gO (fun w'=>Wk I w') 17 aa wide E<|bU [0,1,2,3,4] aa E<|cT 5 aa (bC<|a+(k - 1)) E<|bU [6,7,8] aa E<|cT 9 aa (bC<|a+(k - 1)) E<|cT 10 aa (a6 bX aa aa ab<|aB.ok ((aX G).2)<|cy ab) E<|eW 11 aa (fun w' V=>ld1 aa<|dN (i:=a+(k - 1)) ((aX G).2.wk V) ab) E<|bU [12,13] aa E<|cT 14 aa (a6 bX aa aa ab<|aB.ok ((aX G).2)<|cy ab) E<|eW 15 aa (fun w' V=>ld1 aa<|dN (i:=a) ((aX G).2.wk V) ab) E<|cT 16 aa (a6 bX aa aa ab<|aB.ok ((aX G).2)<|cy ab) E<|dK 17 aa aj aj<|gP (u:=A[a+(k - 1)]!) (a) (aU G E) gF aa aa aa ab fun aR ao aA=>kK 18 aa (fun _=>a6 bX aa aa ab<|aB.ok ((aX G).2)<|cy ab) (fun h=>dM<|(show true =_ from by kernel_rfl).trans h)<|dK 19 aa aj aj<|gP (u:=A[a]!) (a+(k - 1)) aA gF aa aa aa ab fun ai ap aD=> ?_;have V:ai.ownsRow B 95 1 (.slice C n cp) n (LE bf<|cX A (a)<|a+(k - 1)):=aD;have an:Md (fun q=>(bQ C n cp).ownBlock=some q) I ai:=Md.trans (E.mono fun _ _ h=>h.elim)<|Md.trans ao ap;refine eQ aj<|dq 6 aa<|e<|aM (Ks (cX A a<|a+(k - 1)) 0 (k - 1) a _ _ B n cp C _ V ab aa ab ag) aa ?_;rintro v55 aP ⟨rfl,av,am⟩;exact aC 8 aa<|tn<|⟨_,ab,k - 1,sv bZ (k - 1) a 0 (cX A a<|a+(k - 1)),ab,(by rw [← ah,Ts (show 0 < k by omega)]),av,(Md.trans O<|Md.trans an am),(iv ab),aa,aa⟩
 exact aJ 2 aa<|bK<|bc 1 aa<|f0 aa<|⟨aa,by rw [← ah,show k=0 by omega]; exact G,O⟩
theorem WK (d:Array Nat) (a b:Nat) (B n cp:Nat) (C:Option bF) (w:ak) (hO:w.ownsRow B 95 1 (.slice C n cp) n (LE bf d)) (ao:a < b∧b≤n) (aq:n≤1099511627776):
 ba az 288 (a7 [.slice C n cp,ay a,ay b]) w (fun v w'=>v= .tuple #[]∧w'.ownsRow B 95 1 (.slice C n cp) n (LE bf<|El d a b)∧Md (fun q=>(bQ C n cp).ownBlock=some q) w w'):=by
 refine enter func288 aa ntmps288 aa<|bg 9 aa<|p (dQ<|b - 1)<|aQ 4 aa<|lp (fun O ac I=> ∃ (i j:Nat) (G:Array Nat),(i≤n∧j < n)∧(Go.Sort.reverseLoop i j G=El d a b)∧(I.ownsRow B 95 1 (.slice C n cp) n<|LE bf G)∧(Md (fun q=>(bQ C n cp).ownBlock=some q) w I)∧(Sl ac [(0,.slice C n cp),(6,ay i),(7,ay j)])∧(j - i=O)) _ ⟨a,b - 1,d,ab,aa,hO,(Md.refl _ _),aa,aa⟩ ?_;rintro O ac I ⟨i,j,G,hi,Y,E,V,an,rfl⟩;refine bA an<|bq 8 aa<|cd aa (fun ai=> ?_) fun ai=> ?_;refine bz 4 aa ?_;have ap:=gi E;have A:(fun w'=>Wk I w') I.drew:=(Md.refl _ _).drew;refine gO (fun w'=>Wk I w') 13 aa wide A<|bU [0,1,2,3,4,5] aa A<|cT 6 aa (a6 bX aa aa ab<|aB.ok ((aX E).2)<|cy ab) A<|eW 7 aa (fun w' J=>ld1 aa<|dN (i:=j) ((aX E).2.wk J) ab) A<|bU [8,9] aa A<|cT 10 aa (a6 bX aa aa ab<|aB.ok ((aX E).2)<|cy ab) A<|eW 11 aa (fun w' J=>ld1 aa<|dN (i:=i) ((aX E).2.wk J) ab) A<|cT 12 aa (a6 bX aa aa ab<|aB.ok ((aX E).2)<|cy ab) A<|dK 13 aa aj aj<|gP (u:=G[j]!) (i) (aU E A) gF aa aa aa ab fun av ag al=>kK 14 aa (fun _=>a6 bX aa aa ab<|aB.ok ((aX E).2)<|cy ab) (fun h=>dM<|(show true =_ from by kernel_rfl).trans h)<|dK 15 aa aj aj<|gP (u:=G[i]!) (j) al gF aa aa aa ab fun Z ah am=> ?_;have J:Z.ownsRow B 95 1 (.slice C n cp) n (LE bf<|cX G (i)<|j):=am;have ae:Md (fun q=>(bQ C n cp).ownBlock=some q) I Z:=Md.trans (A.mono fun _ _ h=>h.elim)<|Md.trans ag ah;exact eQ aj<|dq 4 aa<|p (bC<|i+1)<|au 5 aa<|p (dQ<|j - 1)<|aC 3 aa<|tn<|⟨_,ab,i+1,j - 1,cX G i j,ab,(by rw [← Y,WI (show i < j by omega)]),J,(Md.trans V ae),aa,aa⟩
 exact aJ 2 aa<|bK<|bc 1 aa<|f0 aa<|⟨aa,by rw [← Y,WJ ab]; exact E,V⟩
end Go.Hb
end
section
namespace Go.Hb
open Go.Hb.dP
theorem YP {n:Nat} {l:List UInt8} (h:n < 256) (A:∀ k:Fin 256,(l.getD k.val 0).toNat=lQ k.val):IntKind.i64.wrap ((l.getD n 0).toNat:Int)=(lQ n:Int):=by
 rw [A ⟨n,h⟩]; have :=yF h; exact qX<|by simp only; omega
theorem Xt {k:Nat} (h:k≤8):eU.wrap ((1:Int)*2 ^ min ((k:Nat):Int).toNat eU.bits)=((2 ^ k:Nat):Int):=by
 have h2:(eU.bits:Nat)=64:=rfl;rw [Int.toNat_natCast,h2,Nat.min_eq_left ab,Int.one_mul];have h3:(2:Nat) ^ k≤2 ^ 8:=Nat.pow_le_pow_right aw h;have h4:((2:Int) ^ k)=((2 ^ k:Nat):Int):=by simp
 rw [h4];obtain ⟨m,hm⟩:∃ m:Nat,2 ^ k=m:=⟨_,rfl⟩
 rw [hm] at h3 ⊢; exact qa ab
theorem Wa {d d1 d2:Array Nat} {a b i j:Nat} (h:pA a b d d1) (hi:a≤i∧i < b) (A:a≤j∧j < b) (C:b≤d1.size) (h2:d2=cX d1 i j):pA a b d d2:=by
 subst h2; exact tz _ _ _ a b h<|Go.Sort.swp_permIn d1 a b i j hi.1 hi.2 A.1 A.2 C
theorem CH (d:Array Nat) (i j s lo hi E:Nat) (B n cp:Nat) (G:Option bF) (w:ak) (hO:w.ownsRow B 95 1 (.slice G n cp) n (LE bf d)) (V:bO w.heap E [ay s]) (ah:(bQ G n cp).ownBlock≠some E) (ao:lo≤i∧i < hi∧lo≤j∧j < hi∧hi≤n) (hs:s≤1000) (an:n≤1099511627776):
 ba az 308 (a7 [.slice G n cp,ay i,ay j,bj E]) w (fun v w'=> ∃ J O s1:Nat,v= .tuple #[ay J,ay O]∧(lo≤J∧J < hi)∧(lo≤O∧O < hi)∧s1≤s+1∧bO w'.heap E [ay s1]∧w'.ownsRow B 95 1 (.slice G n cp) n (LE bf d)∧Md (fun q=>q=E) w w'):=by
 refine enter func308 aa ntmps308 aa<|bq 8 aa ?_;have am:=gi hO;have A:(fun w'=>Wk w w') w.drew:=(Md.refl _ _).drew;refine dY (fun w'=>Wk w w') aa wide A<|aT [0,1] aa A<|bP 2 aa (a6 bX aa aa ab<|aB.ok ((aX hO).2)<|cy ab) A<|fz 3 aa (fun w' I=>ld1 aa<|dN (i:=j) ((aX hO).2.wk I) ab) A<|aT [4,5] aa A<|bP 6 aa (a6 bX aa aa ab<|aB.ok ((aX hO).2)<|cy ab) A<|fz 7 aa (fun w' I=>ld1 aa<|dN (i:=i) ((aX hO).2.wk I) ab) A<|he 8 aa aj<|aM (mK d[j]! d[i]! _) aa ?_;rintro ap al ⟨rfl,ae⟩;have C:(fun w'=>Wk w w') al:=Md.trans A ae;refine ⟨C,?_⟩;refine hn aj<|dz 1 aa<|cb aa (fun ai=> ?_) fun ai=> ?_;have Y:=C.B V;have ag:=aU hO C;exact aH 4 aa<|p (ld1 aa<|Y.aV 0)<|p (bC<|s+1)<|au 1 aa<|e<|st gM aa aa (aa) (Y) (by simp) fun aq Z ac=>aC 12 aa<|f2 aa aa aa<|⟨j,i,s+1,aa,ab,ab,ab,ac,da ag Z (fun k hk h=>ah<|h ▸ hk),Md.trans (C.mono fun _ _ h=>h.elim) Z⟩
 exact aJ 11 aa<|f2 aa aa aa<|⟨i,j,s,aa,ab,ab,ab,C.B V,aU hO C,C.mono fun _ _ h=>h.elim⟩
theorem I1 (d:Array Nat) (i j k s lo hi A:Nat) (B n cp:Nat) (C:Option bF) (w:ak) (hO:w.ownsRow B 95 1 (.slice C n cp) n (LE bf d)) (J:bO w.heap A [ay s]) (E:(bQ C n cp).ownBlock≠some A) (aA:(lo≤i∧i < hi)∧(lo≤j∧j < hi)∧(lo≤k∧k < hi)∧hi≤n) (hs:s≤900) (G:n≤1099511627776):
 ba az 302 (a7 [.slice C n cp,ay i,ay j,ay k,bj A]) w (fun v w'=> ∃ I s1:Nat,v=ay I∧(lo≤I∧I < hi)∧s1≤s+3∧bO w'.heap A [ay s1]∧w'.ownsRow B 95 1 (.slice C n cp) n (LE bf d)∧Md (fun q=>q=A) w w'):=by
 refine enter func302 aa ntmps302 aa<|bg 11 aa<|e<|aM (CH d i j s lo hi A B n cp C _ hO J E ab ab G) aa ?_;rintro aG aH ⟨i1,al,s1,rfl,ap,av,aB,O,ag,Z⟩;refine p mv<|au 12 aa<|e<|aM (CH d al k s1 lo hi A B n cp C _ ag O E ab ab G) aa ?_;rintro v24 aI ⟨am,aF,s2,rfl,aw,ax,aD,V,ah,ac⟩;refine p mv<|au 12 aa<|e<|aM (CH d i1 am s2 lo hi A B n cp C _ ah V E ab ab G) aa ?_;rintro v32 aJ ⟨i3,an,ao,rfl,aq,aj,aE,Y,ai,ae⟩;exact p mv<|aC 13 aa<|aR aa<|⟨an,ao,aa,aj,ab,Y,ai,Md.trans Z<|Md.trans ac ae⟩
theorem Ck (d:Array Nat) (i s lo hi A:Nat) (B n cp:Nat) (C:Option bF) (w:ak) (hO:w.ownsRow B 95 1 (.slice C n cp) n (LE bf d)) (G:bO w.heap A [ay s]) (J:(bQ C n cp).ownBlock≠some A) (V:lo+1≤i∧i+1 < hi∧hi≤n) (hs:s≤900) (O:n≤1099511627776):
 ba az 301 (a7 [.slice C n cp,ay i,bj A]) w (fun v w'=> ∃ E s1:Nat,v=ay E∧(lo≤E∧E < hi)∧s1≤s+3∧bO w'.heap A [ay s1]∧w'.ownsRow B 95 1 (.slice C n cp) n (LE bf d)∧Md (fun q=>q=A) w w'):=by
 exact enter func301 aa ntmps301 aa<|bg 9 aa<|p (dQ<|i - 1)<|au 2 aa<|p (bC<|i+1)<|au 1 aa<|e<|aM (I1 d (i - 1) i (i+1) s lo hi A B n cp C _ hO G J ab ab O) aa fun Y Z I=>p bm<|aC 3 aa<|aR aa<|I
theorem OX (d:Array Nat) (a b:Nat) (B n cp:Nat) (A:Option bF) (w:ak) (hO:w.ownsRow B 95 1 (.slice A n cp) n (LE bf d)) (a1:a+12 < b∧b≤n) (O:n≤1099511627776):
 ba az 287 (a7 [.slice A n cp,ay a,ay b]) w (fun v w'=> ∃ (ai:Nat) (aW:Int),v= .tuple #[ay ai,.int .i64 aW]∧(a≤ai∧ai < b)∧w'.ownsRow B 95 1 (.slice A n cp) n (LE bf d)∧Wk w w'):=by
 refine enter func287 aa ntmps287 aa<|bg 10 aa<|p (dQ<|b - a)<|au 5 aa<|e<|al ZG fun C bn a2 ac aj=> ?_;have am:=aU hO ac.md;have J:(bQ A n cp).ownBlock≠some C:=fun h=>by have :=dH hO h; omega
 refine au 6 aa<|p (rY (((b - a) / 4:Nat):Int) aa aa ab<|kq ab ab)<|p (pV (((b - a) / 4:Nat):Int) aa aa<|kq ab ab)<|p (bC<|a+(b - a) / 4)<|au 7 aa<|p (rY (((b - a) / 4:Nat):Int) aa aa ab<|kq ab ab)<|p (pV (((b - a) / 4 *2:Nat):Int) aa aa<|kq ab ab)<|p (bC<|a+(b - a) / 4 *2)<|au 7 aa<|p (rY (((b - a) / 4:Nat):Int) aa aa ab<|kq ab ab)<|p (pV (((b - a) / 4 *3:Nat):Int) aa aa<|kq ab ab)<|p (bC<|a+(b - a) / 4 *3)<|aQ 10 aa<|cd aa (fun a3=> ?_) fun h=>absurd ab h;refine ei (fun ao Y=> ∃ (E G I V:Nat),(a≤E∧E < b)∧(a≤G∧G < b)∧(a≤I∧I < b)∧(V≤9)∧(bO Y.heap C [ay V])∧(Y.ownsRow B 95 1 (.slice A n cp) n<|LE bf d)∧(Wk w Y)∧(Sl ao [(0,.slice A n cp),(1,ay a),(2,ay b),(8,ay (b - a)),(9,bj C),(10,ay E),(11,ay G),(12,ay I)])) ?_ ?_;refine bq 6 aa<|cd aa (fun aN=> ?_) fun aN=> ?_;refine aH 4 aa<|e<|aM (Ck d (a+(b - a) / 4) 0 a b C B n cp A _ am aj J ab ab O) aa ?_;rintro v37 bk ⟨i1,s1,rfl,aR,an,ap,aG,aB⟩;refine au 7 aa<|e<|aM (Ck d (a+(b - a) / 4 *2) s1 a b C B n cp A _ aG ap J ab ab O) aa ?_;rintro v40 bl ⟨aX,s2,rfl,aS,a8,aq,aI,aD⟩;refine au 6 aa<|e<|aM (Ck d (a+(b - a) / 4 *3) s2 a b C B n cp A _ aI aq J ab ab O) aa ?_;rintro bh bm ⟨aY,aZ,rfl,aT,a9,av,aK,aE⟩;exact aC 2 aa<|tn<|⟨i1,aX,aY,aZ,aR,aS,aT,ab,av,aK,(Md.trans' ac.md (Md.trans aB<|Md.trans aD aE) fun k hk h=>by omega),aa⟩
 exact aJ 1 aa<|tn<|⟨a+(b - a) / 4,a+(b - a) / 4 *2,a+(b - a) / 4 *3,0,ab,ab,ab,ab,aj,am,ac.md,aa⟩
 rintro ao Y ⟨E,G,I,V,a4,a5,a6,bc,ax,aL,aA,an⟩;refine bA an<|aH 5 aa<|e<|aM (I1 d E G I V a b C B n cp A _ aL ax J ab ab O) aa ?_;rintro bi a0 ⟨ah,bd,rfl,ag,bb,aw,ae,aF⟩;have Z:Wk w a0:=Md.trans' aA aF fun k hk h=>by omega
 refine au 5 aa<|p (ld1 aa<|aw.aV 0)<|aQ 9 aa<|cd aa (fun aO=> ?_) fun aO=> ?_;exact aJ 9 aa<|f2 aa aa aa<|⟨ah,_,aa,ag,ae,Z⟩
 refine bz 6 aa<|cd aa (fun aP=> ?_) fun aP=> ?_;exact aJ 9 aa<|f2 aa aa aa<|⟨ah,_,aa,ag,ae,Z⟩
 exact aJ 9 aa<|f2 aa aa aa<|⟨ah,_,aa,ag,ae,Z⟩
theorem Vm (G:Nat) (r:Int) (w:ak) (J:bO w.heap G [.int .u64 r]):
 ba az 185 (a7 [bj G]) w (fun v w'=> ∃ I:Int,v= .int .u64 I∧0≤I∧I < 18446744073709551616∧bO w'.heap G [.int .u64 I]∧Md (fun q=>q=G) w w'):=by
 refine enter func185 aa ntmps185 aa<|bq 6 aa<|l9 9 fun A=>gH [0,1] aa A<|kZ 2 aa A (J.aV 0)<|gH [3,4] aa A<|kZ 5 aa A (J.aV 0)<|qK 6 aa (shl aa aa aw aa) A<|qK 7 aa (AI aa aa aa) A<|gH [8] aa A<|dK 9 aa aj aj<|st xZ aa aa (aa) (A.B J) (by simp) fun ae Z O=>eQ aj<|dz 2 aa<|l9 9 fun C=>gH [0,1] aa C<|kZ 2 aa C (O.aV 0)<|gH [3,4] aa C<|kZ 5 aa C (O.aV 0)<|qK 6 aa (shr aa aa aw aa) C<|qK 7 aa (AI aa aa aa) C<|gH [8] aa C<|dK 9 aa aj aj<|st xZ aa aa (aa) (C.B O) (by simp) fun ag ab V=>eQ aj<|dz 2 aa<|l9 9 fun E=>gH [0,1] aa E<|kZ 2 aa E (V.aV 0)<|gH [3,4] aa E<|kZ 5 aa E (V.aV 0)<|qK 6 aa (shl aa aa aw aa) E<|qK 7 aa (AI aa aa aa) E ?_;refine gH [8] aa E<|dK 9 aa aj aj<|st xZ aa aa (aa) (E.B V) (by simp) fun ah ac Y=>eQ aj<|dq 5 aa<|p (ld1 aa<|Y.aV 0)<|aC 4 aa<|aR aa ?_;refine ⟨_,aa,(Lf _).1,(Lf _).2,Y,?_⟩;exact Md.trans (Md.refl _ _).drew<|Md.trans Z<|Md.trans (Md.refl _ _).drew<|Md.trans ab<|Md.trans (Md.refl _ _).drew ac
theorem Ur (n:Nat) (w:ak) (hn:n < 256):
 ba az 124 (a7 [.int .u64 (n:Nat)]) w (fun v w'=>v=ay (lQ n)∧Wk w w'):=by
 have G:=yF hn;exact enter func124 aa ntmps124 aa<|bq 12 aa<|cd aa (fun h=>absurd h ab) fun C=>bz 9 aa<|cd aa (fun h=>absurd h ab) fun E=>bz 9 aa<|cd aa (fun h=>absurd h ab) fun A=>aH 6 aa<|p (xY u5 Y2 aa<|uM ab)<|p (e5 u9 aa aa (by have :n < 256:=hn; simpa using this))<|p (l6 u3 qU aa<|YP hn<|by decide+kernel)<|p (bC<|lQ n)<|aC 4 aa<|aR aa<|⟨aa,Md.refl _ _⟩
theorem IK (n:Nat) (w:ak) (hn:n < 256):
 ba az 66 (a7 [.int .u64 (n:Nat)]) w (fun v w'=>v=ay (lQ n)∧Wk w w'):=by
 exact enter func66 aa ntmps66 aa<|bg 12 aa<|e<|aM (Ur n _ hn) aa fun C E A=>p bm<|aC 3 aa<|aR aa<|A
theorem Vn (n:Nat) (w:ak) (hn:n < 256):
 ba az 184 (a7 [ay n]) w (fun v w'=>v= .int .u64 (2 ^ lQ n:Nat)∧Wk w w'):=by
 refine enter func184 aa ntmps184 aa<|bg 8 aa<|p (l6 Lb r9 aa<|qa ab)<|e<|aM (IK n _ hn) aa ?_;rintro v5 E ⟨rfl,A⟩;have C:=yF hn;exact p (shl aa aa ab<|Xt C)<|aC 4 aa<|aR aa<|⟨aa,A⟩
theorem Og (d:Array Nat) (a b:Nat) (B n cp:Nat) (A:Option bF) (w:ak) (hO:w.ownsRow B 95 1 (.slice A n cp) n (LE bf d)) (aZ:a+12 < b∧b≤n) (a5:n≤255):
 ba az 286 (a7 [.slice A n cp,ay a,ay b]) w (fun v w'=> ∃ d1,v= .tuple #[]∧pA a b d d1∧w'.ownsRow B 95 1 (.slice A n cp) n (LE bf d1)∧Md (fun q=>(bQ A n cp).ownBlock=some q) w w'):=by
 refine enter func286 aa ntmps286 aa<|bg 4 aa<|p (dQ<|b - a)<|aQ 9 aa<|cd aa (fun a1=> ?_) fun h=>absurd ab h;refine aH 3 aa<|p (l6 YK r9 aa<|qa ab)<|e<|al ZF fun V bn a0 aN aD=>e<|st xZ aa aa (aa) (aD) (by simp) fun aY aG aA=> ?_;have ap:Wk w aY:=Md.trans' aN.md aG fun k hk h=>by omega
 refine au 5 aa<|e<|aM (Vn (b - a) _ ab) aa ?_;rintro bi bl ⟨rfl,ag⟩;have a4:=Us (n:=b - a) ab ab;refine au 7 aa<|p (rY (((b - a) / 4:Nat):Int) aa aa ab<|kq ab ab)<|p (pV (((b - a) / 4 *2:Nat):Int) aa aa<|kq ab ab)<|p (bC<|a+(b - a) / 4 *2)<|p (dQ<|a+(b - a) / 4 *2 - 1)<|aQ 4 aa ?_;have Z:(bQ A n cp).ownBlock≠some V:=fun h=>by have :=dH hO h; omega
 refine lp (fun an aw ae=> ∃ (E:Nat) (r:Int) (I:Array Nat),(a+(b - a) / 4 *2 - 1≤E∧E≤a+(b - a) / 4 *2 +2)∧(pA a b d I)∧(bO ae.heap V [.int .u64 r])∧(ae.ownsRow B 95 1 (.slice A n cp) n<|LE bf I)∧(Md (fun q=>(bQ A n cp).ownBlock=some q) w ae)∧(Sl aw [(0,.slice A n cp),(1,ay a),(6,ay (b - a)),(7,bj V),(8,.int .u64 (2 ^ lQ (b - a):Nat)),(9,ay E)])∧(a+(b - a) / 4 *2 +3 - E=an)) _ ⟨a+(b - a) / 4 *2 - 1,(b - a:Nat),d,ab,(Mo d a b),(ag.B aA),(aU (aU hO ap) ag),((Md.trans ap ag).mono fun _ _ h=>h.elim),aa,aa⟩ ?_;rintro an aw ae ⟨E,r,I,a3,fz,aF,ai,ah,aV,rfl⟩;refine bA aV<|bg 6 aa<|p (rY (((b - a) / 4:Nat):Int) aa aa ab<|kq ab ab)<|p (pV (((b - a) / 4 *2:Nat):Int) aa aa<|kq ab ab)<|p (bC<|a+(b - a) / 4 *2)<|p (bC<|a+(b - a) / 4 *2 +1)<|aQ 3 aa<|cd aa (fun aO=> ?_) fun aO=> ?_;refine aH 6 aa<|e<|aM (Vm V r _ aF) aa ?_;rintro bk bm ⟨am,rfl,bd,bh,ao,ac⟩;obtain ⟨o,a9,aT⟩:=NY am (2 ^ lQ (b - a)) ab;have a8:=Z;refine au 2 aa<|p (fT aa aa aT)<|p (xY u3 Y1 aa<|qX ab)<|aQ 3 aa ?_;refine ei (fun ax O=> ∃ (G:Nat),(G < b - a)∧(bO O.heap V [.int .u64 am])∧(O.ownsRow B 95 1 (.slice A n cp) n<|LE bf I)∧(Md (fun q=>(bQ A n cp).ownBlock=some q) w O)∧(Sl ax [(0,.slice A n cp),(1,ay a),(6,ay (b - a)),(7,bj V),(8,.int .u64 (2 ^ lQ (b - a):Nat)),(9,ay E),(10,ay G)])) ?_ ?_;refine bq 7 aa<|cd aa (fun aP=> ?_) fun aP=> ?_;exact aH 3 aa<|p (dQ<|o - (b - a))<|aC 2 aa<|tn<|⟨o - (b - a),ab,ao,(da ai ac fun k hk h=>Z<|h ▸ hk),(Md.trans' ah ac fun k hk h=>by omega),aa⟩
 exact aJ 1 aa<|tn<|⟨o,ab,ao,(da ai ac fun k hk h=>Z<|h ▸ hk),(Md.trans' ah ac fun k hk h=>by omega),aa⟩
 rintro ax O ⟨G,bb,aE,J,aL,aW⟩;refine bA aW ?_;have a2:=gi J;have C:(fun w'=>Wk O w') O.drew:=(Md.refl _ _).drew;refine gO (fun w'=>Wk O w') 17 aa wide C<|bU [0,1,2,3,4] aa C<|cT 5 aa (bC<|a+G) C<|bU [6,7,8] aa C<|cT 9 aa (bC<|a+G) C<|cT 10 aa (a6 bX aa aa ab<|aB.ok ((aX J).2)<|cy ab) C<|eW 11 aa (fun w' Y=>ld1 aa<|dN (i:=a+G) ((aX J).2.wk Y) ab) C<|bU [12,13] aa C<|cT 14 aa (a6 bX aa aa ab<|aB.ok ((aX J).2)<|cy ab) C<|eW 15 aa (fun w' Y=>ld1 aa<|dN (i:=E) ((aX J).2.wk Y) ab) C<|cT 16 aa (a6 bX aa aa ab<|aB.ok ((aX J).2)<|cy ab) C<|dK 17 aa aj aj<|gP (u:=I[a+G]!) (E) (aU J C) gF aa aa aa ab fun bo aI aR=>kK 18 aa (fun _=>a6 bX aa aa ab<|aB.ok ((aX J).2)<|cy ab) (fun h=>dM<|(show true =_ from by kernel_rfl).trans h)<|dK 19 aa aj aj<|gP (u:=I[E]!) (a+G) aR gF aa aa aa ab fun av aK aS=> ?_;have Y:av.ownsRow B 95 1 (.slice A n cp) n (LE bf<|cX I (E)<|a+G):=aS;have aq:Md (fun q=>(bQ A n cp).ownBlock=some q) O av:=Md.trans (C.mono fun _ _ h=>h.elim)<|Md.trans aI aK;exact eQ aj<|dq 4 aa<|p (bC<|E+1)<|aC 2 aa<|tn<|⟨_,ab,E+1,am,cX I E (a+G),ab,(Wa fz ab ab ab aa),(aq.B aE fun h=>Z h),Y,(Md.trans aL aq),aa,aa⟩
 exact aJ 2 aa<|bK<|bc 1 aa<|f0 aa<|⟨I,aa,fz,ai,ah⟩
end Go.Hb
end
section
namespace Go.Hb
open Go.Hb.dP
theorem VY {d:Array Nat} {a b A i j:Nat} (h1:pC (fun x=>bZ x (cX d a A)[a]!) (cX d a A) (b - 1) (a+1)=i) (h2:pB (fun x=> !bZ x (cX d a A)[a]!) (cX d a A) i (b - 1)=j) (h:i > j):
 su bZ d a b A=(j,true,cX (cX d a A) j a):=by
 unfold su; simp only [h1,h2,if_pos h]
theorem part_go {d:Array Nat} {a b A i j C:Nat} {E:Array Nat} (h1:pC (fun x=>bZ x (cX d a A)[a]!) (cX d a A) (b - 1) (a+1)=i) (h2:pB (fun x=> !bZ x (cX d a A)[a]!) (cX d a A) i (b - 1)=j) (h:¬i > j)
 (h3:Ek bZ a (i+1) (j - 1) (cX (cX d a A) i j)=(C,E)):
 su bZ d a b A=(C,false,cX E C a):=by
 unfold su; simp only [h1,h2,if_neg h,h3]
theorem V0 (d:Array Nat) (a b C:Nat) (B n cp:Nat) (A:Option bF) (w:ak) (hO:w.ownsRow B 95 1 (.slice A n cp) n (LE bf d)) (cF:a≤C∧C < b∧b≤n) (cJ:n≤1099511627776):
 ba az 292 (a7 [.slice A n cp,ay a,ay b,ay C]) w (fun v w'=>v= .tuple #[ay ((su bZ d a b C).1),.bool (su bZ d a b C).2.1]∧w'.ownsRow B 95 1 (.slice A n cp) n (LE bf (su bZ d a b C).2.2)∧Md (fun q=>(bQ A n cp).ownBlock=some q) w w'):=by
 refine enter func292 aa ntmps292 aa<|bq 7 aa ?_;have cG:=gi hO;have am:(fun w'=>Wk w w') w.drew:=(Md.refl _ _).drew;refine gO (fun w'=>Wk w w') 13 aa wide am<|bU [0,1,2,3,4,5] aa am<|cT 6 aa (a6 bX aa aa ab<|aB.ok ((aX hO).2)<|cy ab) am<|eW 7 aa (fun w' G=>ld1 aa<|dN (i:=C) ((aX hO).2.wk G) ab) am<|bU [8,9] aa am<|cT 10 aa (a6 bX aa aa ab<|aB.ok ((aX hO).2)<|cy ab) am<|eW 11 aa (fun w' G=>ld1 aa<|dN (i:=a) ((aX hO).2.wk G) ab) am<|cT 12 aa (a6 bX aa aa ab<|aB.ok ((aX hO).2)<|cy ab) am<|dK 13 aa aj aj<|gP (u:=d[C]!) (a) (aU hO am) gF aa aa aa ab fun cM bH ce=>kK 14 aa (fun _=>a6 bX aa aa ab<|aB.ok ((aX hO).2)<|cy ab) (fun h=>dM<|(show true =_ from by kernel_rfl).trans h)<|dK 15 aa aj aj<|gP (u:=d[a]!) (C) ce gF aa aa aa ab fun bh bI cf=> ?_;have b1:bh.ownsRow B 95 1 (.slice A n cp) n (LE bf<|cX d (a)<|C):=cf;have bG:Md (fun q=>(bQ A n cp).ownBlock=some q) w bh:=Md.trans (am.mono fun _ _ h=>h.elim)<|Md.trans bH bI;refine eQ aj<|dq 4 aa<|p (bC<|a+1)<|au 1 aa<|p (dQ<|b - 1)<|aQ 4 aa ?_;refine ei (fun bm a2=> ∃ (O:Nat),(a+1≤O∧(O=a+1∨O≤b - 1 +1))∧(pC (fun x=>bZ x (cX d a C)[a]!) (cX d a C) (b - 1) (a+1)=O)∧(a2.ownsRow B 95 1 (.slice A n cp) n<|LE bf<|cX d a C)∧(Md (fun q=>(bQ A n cp).ownBlock=some q) w a2)∧(Sl bm [(0,.slice A n cp),(1,ay a),(10,ay O),(11,ay (b - 1))])) ?_ ?_;refine bq 1 aa<|lp (fun ag bn aE=> ∃ (q:Nat),(a+1≤q∧(q=a+1∨q≤b - 1 +1))∧(pC (fun x=>bZ x (cX d a C)[a]!) (cX d a C) (b - 1) (q)=pC (fun x=>bZ x (cX d a C)[a]!) (cX d a C) (b - 1) (a+1))∧(aE.ownsRow B 95 1 (.slice A n cp) n<|LE bf<|cX d a C)∧(Md (fun q=>(bQ A n cp).ownBlock=some q) w aE)∧(Sl bn [(0,.slice A n cp),(1,ay a),(10,ay q),(11,ay (b - 1))])∧(b - 1 +1 - q=ag)) _ ⟨a+1,ab,aa,b1,bG,aa,aa⟩ ?_;rintro ag bn aE ⟨q,ah,ae,E,ac,cq,rfl⟩;refine bA cq<|bq 2 aa ?_;have aD:=gi E;have aw:(fun w'=>Wk aE w') aE.drew:=(Md.refl _ _).drew;refine dY (fun w'=>Wk aE w') aa wide aw<|aT [0,1,2,3] aa aw<|ji (t:=33) aa (fun ca=> ?_) fun ca=> ?_;refine aT [4,5] aa aw<|cB 6 aa (fun _ _=>a6 bX aa aa ab<|aB.ok ((aX E).2)<|cy ab) aw<|cB 7 aa (fun w' G=>ld1 aa<|dN (i:=q) ((aX E).2.wk G) ab) aw<|aT [8,9] aa aw<|cB 10 aa (fun _ _=>a6 bX aa aa ab<|aB.ok ((aX E).2)<|cy ab) aw<|cB 11 aa (fun w' G=>ld1 aa<|dN (i:=a) ((aX E).2.wk G) ab) aw<|nq 12 aa aj aa aa aa<|aM (mK (cX d a C)[q]! (cX d a C)[a]! _) aa ?_;rintro cL cD ⟨rfl,bB⟩;have aN:(fun w'=>Wk aE w') cD:=Md.trans aw bB;refine ⟨aN,?_⟩;refine aT [13] aa aN<|hn aj<|dz 1 aa<|cb aa (fun aZ=> ?_) fun aZ=> ?_;exact aH 5 aa<|p (bC<|q+1)<|aC 3 aa<|tn<|⟨_,ab,q+1,ab,(by rw [← ae,DJ (show q≤b - 1 by omega) (by simpa using aZ)]),(aU E aN),(Md.trans ac<|aN.mono fun _ _ h=>h.elim),aa,aa⟩
 exact aJ 2 aa<|bK<|bc 1 aa<|tn<|⟨q,ah,(by rw [← ae,uG (.inr<|by simpa using aZ)]),(aU E aN),(Md.trans ac<|aN.mono fun _ _ h=>h.elim),aa⟩
 exact aT [4,5,6,7,8,9,10,11,12,13] aa aw<|hn aj<|bc 4 aa<|bK<|bc 1 aa<|tn<|⟨q,ah,(by rw [← ae,uG (.inl ab)]),(aU E (Md.refl _ _).drew),ac.drew,aa⟩
 rintro bm a2 ⟨O,cH,bd,aV,aS,co⟩;refine bA co ?_;refine ei (fun bo ai=> ∃ (Y:Nat),(a≤Y∧Y≤b - 1)∧(pB (fun x=> !bZ x (cX d a C)[a]!) (cX d a C) (O) (b - 1)=Y)∧(ai.ownsRow B 95 1 (.slice A n cp) n<|LE bf<|cX d a C)∧(Md (fun q=>(bQ A n cp).ownBlock=some q) w ai)∧(Sl bo [(0,.slice A n cp),(1,ay a),(10,ay O),(11,ay Y)])) ?_ ?_;refine bq 1 aa<|lp (fun ag bp aG=> ∃ (q:Nat),(a≤q∧q≤b - 1)∧(pB (fun x=> !bZ x (cX d a C)[a]!) (cX d a C) (O) (q)=pB (fun x=> !bZ x (cX d a C)[a]!) (cX d a C) (O) (b - 1))∧(aG.ownsRow B 95 1 (.slice A n cp) n<|LE bf<|cX d a C)∧(Md (fun q=>(bQ A n cp).ownBlock=some q) w aG)∧(Sl bp [(0,.slice A n cp),(1,ay a),(10,ay O),(11,ay q)])∧(q=ag)) _ ⟨b - 1,ab,aa,aV,aS,aa,aa⟩ ?_;rintro ag bp aG ⟨q,ah,ae,E,ac,ct,rfl⟩;refine bA ct<|bq 2 aa ?_;have aD:=gi E;have ax:(fun w'=>Wk aG w') aG.drew:=(Md.refl _ _).drew;refine dY (fun w'=>Wk aG w') aa wide ax<|aT [0,1,2,3] aa ax<|ji (t:=49) aa (fun cc=> ?_) fun cc=> ?_;refine aT [4,5] aa ax<|cB 6 aa (fun _ _=>a6 bX aa aa ab<|aB.ok ((aX E).2)<|cy ab) ax<|cB 7 aa (fun w' G=>ld1 aa<|dN (i:=q) ((aX E).2.wk G) ab) ax<|aT [8,9] aa ax<|cB 10 aa (fun _ _=>a6 bX aa aa ab<|aB.ok ((aX E).2)<|cy ab) ax<|cB 11 aa (fun w' G=>ld1 aa<|dN (i:=a) ((aX E).2.wk G) ab) ax<|nq 12 aa aj aa aa aa<|aM (mK (cX d a C)[q]! (cX d a C)[a]! _) aa ?_;rintro v58 cE ⟨rfl,bD⟩;have aO:(fun w'=>Wk aG w') cE:=Md.trans ax bD;refine ⟨aO,?_⟩;refine aT [13,14] aa aO<|hn aj<|dz 1 aa<|cb aa (fun a0=> ?_) fun a0=> ?_;exact aH 5 aa<|p (dQ<|q - 1)<|aC 3 aa<|tn<|⟨_,ab,q - 1,ab,(by rw [← ae,A6 (show 0 < q by omega) (show O≤q by omega) (by simpa using a0)]),(aU E aO),(Md.trans ac<|aO.mono fun _ _ h=>h.elim),aa,aa⟩
 exact aJ 2 aa<|bK<|bc 1 aa<|tn<|⟨q,ah,(by rw [← ae,ua (.inr<|by simpa using a0)]),(aU E aO),(Md.trans ac<|aO.mono fun _ _ h=>h.elim),aa⟩
 exact aT [4,5,6,7,8,9,10,11,12,13,14] aa ax<|hn aj<|bc 4 aa<|bK<|bc 1 aa<|tn<|⟨q,ah,(by rw [← ae,ua (.inl ab)]),(aU E (Md.refl _ _).drew),ac.drew,aa⟩
 rintro bo ai ⟨Y,cI,a4,I,aP,cs⟩;refine bA cs<|bz 8 aa<|cd aa (fun b7=> ?_) fun b7=> ?_;refine bz 1 aa ?_;have aD:=gi I;have aA:(fun w'=>Wk ai w') ai.drew:=(Md.refl _ _).drew;refine gO (fun w'=>Wk ai w') 13 aa wide aA<|bU [0,1,2,3,4,5] aa aA<|cT 6 aa (a6 bX aa aa ab<|aB.ok ((aX I).2)<|cy ab) aA<|eW 7 aa (fun w' G=>ld1 aa<|dN (i:=a) ((aX I).2.wk G) ab) aA<|bU [8,9] aa aA<|cT 10 aa (a6 bX aa aa ab<|aB.ok ((aX I).2)<|cy ab) aA<|eW 11 aa (fun w' G=>ld1 aa<|dN (i:=Y) ((aX I).2.wk G) ab) aA<|cT 12 aa (a6 bX aa aa ab<|aB.ok ((aX I).2)<|cy ab) aA<|dK 13 aa aj aj<|gP (u:=(cX d a C)[a]!) (Y) (aU I aA) gF aa aa aa ab fun cN bL cg=>kK 14 aa (fun _=>a6 bX aa aa ab<|aB.ok ((aX I).2)<|cy ab) (fun h=>dM<|(show true =_ from by kernel_rfl).trans h)<|dK 15 aa aj aj<|gP (u:=(cX d a C)[Y]!) (a) cg gF aa aa aa ab fun bi bM ch=> ?_;have b2:bi.ownsRow B 95 1 (.slice A n cp) n (LE bf<|cX (cX d a C) (Y)<|a):=ch;have bJ:Md (fun q=>(bQ A n cp).ownBlock=some q) ai bi:=Md.trans (aA.mono fun _ _ h=>h.elim)<|Md.trans bL bM;refine eQ aj<|bc 10 aa<|f2 aa aa aa ?_;have aR:=VY bd a4 ab;exact ⟨by rw [aR]; rfl,by rw [aR]; exact b2,Md.trans aP bJ⟩;refine bz 3 aa ?_;have aD:=gi I;have an:(fun w'=>Wk ai w') ai.drew:=(Md.refl _ _).drew;refine gO (fun w'=>Wk ai w') 13 aa wide an<|bU [0,1,2,3,4,5] aa an<|cT 6 aa (a6 bX aa aa ab<|aB.ok ((aX I).2)<|cy ab) an<|eW 7 aa (fun w' G=>ld1 aa<|dN (i:=Y) ((aX I).2.wk G) ab) an<|bU [8,9] aa an<|cT 10 aa (a6 bX aa aa ab<|aB.ok ((aX I).2)<|cy ab) an<|eW 11 aa (fun w' G=>ld1 aa<|dN (i:=O) ((aX I).2.wk G) ab) an<|cT 12 aa (a6 bX aa aa ab<|aB.ok ((aX I).2)<|cy ab) an<|dK 13 aa aj aj<|gP (u:=(cX d a C)[Y]!) (O) (aU I an) gF aa aa aa ab fun cO bO ci=>kK 14 aa (fun _=>a6 bX aa aa ab<|aB.ok ((aX I).2)<|cy ab) (fun h=>dM<|(show true =_ from by kernel_rfl).trans h)<|dK 15 aa aj aj<|gP (u:=(cX d a C)[O]!) (Y) ci gF aa aa aa ab fun bj bP cj=> ?_;have b3:bj.ownsRow B 95 1 (.slice A n cp) n (LE bf<|cX (cX d a C) (O)<|Y):=cj;have bN:Md (fun q=>(bQ A n cp).ownBlock=some q) ai bj:=Md.trans (an.mono fun _ _ h=>h.elim)<|Md.trans bO bP;refine eQ aj<|dq 4 aa<|p (bC<|O+1)<|au 6 aa<|p (dQ<|Y - 1)<|aQ 5 aa<|lp (fun ag br a1=> ∃ (i j:Nat) (J:Array Nat),(a+2≤i∧i≤b∧a≤j∧j < b∧i≤j+2)∧(Ek bZ a i j J=Ek bZ a (O+1) (Y - 1) (cX (cX d a C) O Y))∧(a1.ownsRow B 95 1 (.slice A n cp) n<|LE bf J)∧(Md (fun q=>(bQ A n cp).ownBlock=some q) w a1)∧(Sl br [(0,.slice A n cp),(1,ay a),(10,ay i),(11,ay j)])∧(j+1 - i=ag)) _ ⟨O+1,Y - 1,cX (cX d a C) O Y,ab,aa,b3,(Md.trans aP bN),aa,aa⟩ ?_;rintro ag br a1 ⟨i,j,J,hi,bb,b0,bE,cu,rfl⟩;refine bA cu<|bq 1 aa ?_;refine ei (fun bs a3=> ∃ (V:Nat),(i≤V∧(V=i∨V≤j+1))∧(pC (fun x=>bZ x J[a]!) J (j) (i)=V)∧(a3.ownsRow B 95 1 (.slice A n cp) n<|LE bf J)∧(Md (fun q=>(bQ A n cp).ownBlock=some q) w a3)∧(Sl bs [(0,.slice A n cp),(1,ay a),(10,ay V),(11,ay j)])) ?_ ?_
 refine bq 1 aa<|lp (fun ag bt aF=> ∃ (q:Nat),(i≤q∧(q=i∨q≤j+1))∧(pC (fun x=>bZ x J[a]!) J (j) (q)=pC (fun x=>bZ x J[a]!) J (j) (i))∧(aF.ownsRow B 95 1 (.slice A n cp) n<|LE bf J)∧(Md (fun q=>(bQ A n cp).ownBlock=some q) w aF)∧(Sl bt [(0,.slice A n cp),(1,ay a),(10,ay q),(11,ay j)])∧(j+1 - q=ag)) _ ⟨i,ab,aa,b0,bE,aa,aa⟩ ?_;rintro ag bt aF ⟨q,ah,ae,E,ac,cw,rfl⟩;refine bA cw<|bq 2 aa ?_;have aD:=gi E;have ao:(fun w'=>Wk aF w') aF.drew:=(Md.refl _ _).drew;refine dY (fun w'=>Wk aF w') aa wide ao<|aT [0,1,2,3] aa ao<|ji (t:=102) aa (fun b8=> ?_) fun b8=> ?_;refine aT [4,5] aa ao<|cB 6 aa (fun _ _=>a6 bX aa aa ab<|aB.ok ((aX E).2)<|cy ab) ao<|cB 7 aa (fun w' G=>ld1 aa<|dN (i:=q) ((aX E).2.wk G) ab) ao<|aT [8,9] aa ao<|cB 10 aa (fun _ _=>a6 bX aa aa ab<|aB.ok ((aX E).2)<|cy ab) ao<|cB 11 aa (fun w' G=>ld1 aa<|dN (i:=a) ((aX E).2.wk G) ab) ao<|nq 12 aa aj aa aa aa<|aM (mK J[q]! J[a]! _) aa ?_;rintro cK cA ⟨rfl,bw⟩;have aK:(fun w'=>Wk aF w') cA:=Md.trans ao bw;refine ⟨aK,?_⟩;refine aT [13] aa aK<|hn aj<|dz 1 aa<|cb aa (fun aW=> ?_) fun aW=> ?_;exact aH 5 aa<|p (bC<|q+1)<|aC 3 aa<|tn<|⟨_,ab,q+1,ab,(by rw [← ae,DJ (show q≤j by omega) (by simpa using aW)]),(aU E aK),(Md.trans ac<|aK.mono fun _ _ h=>h.elim),aa,aa⟩
 exact aJ 2 aa<|bK<|bc 1 aa<|tn<|⟨q,ah,(by rw [← ae,uG (.inr<|by simpa using aW)]),(aU E aK),(Md.trans ac<|aK.mono fun _ _ h=>h.elim),aa⟩
 exact aT [4,5,6,7,8,9,10,11,12,13] aa ao<|hn aj<|bc 4 aa<|bK<|bc 1 aa<|tn<|⟨q,ah,(by rw [← ae,uG (.inl ab)]),(aU E (Md.refl _ _).drew),ac.drew,aa⟩
 rintro bs a3 ⟨V,a8,bg,aV,aS,cv⟩;refine bA cv ?_;refine ei (fun bu al=> ∃ (Z:Nat),(a≤Z∧Z≤j)∧(pB (fun x=> !bZ x J[a]!) J (V) (j)=Z)∧(al.ownsRow B 95 1 (.slice A n cp) n<|LE bf J)∧(Md (fun q=>(bQ A n cp).ownBlock=some q) w al)∧(Sl bu [(0,.slice A n cp),(1,ay a),(10,ay V),(11,ay Z)])) ?_ ?_;refine bq 1 aa<|lp (fun ag bv aI=> ∃ (q:Nat),(a≤q∧q≤j)∧(pB (fun x=> !bZ x J[a]!) J (V) (q)=pB (fun x=> !bZ x J[a]!) J (V) (j))∧(aI.ownsRow B 95 1 (.slice A n cp) n<|LE bf J)∧(Md (fun q=>(bQ A n cp).ownBlock=some q) w aI)∧(Sl bv [(0,.slice A n cp),(1,ay a),(10,ay V),(11,ay q)])∧(q=ag)) _ ⟨j,ab,aa,aV,aS,aa,aa⟩ ?_;rintro ag bv aI ⟨q,ah,ae,E,ac,cz,rfl⟩;refine bA cz<|bq 2 aa ?_;have aD:=gi E;have ap:(fun w'=>Wk aI w') aI.drew:=(Md.refl _ _).drew;refine dY (fun w'=>Wk aI w') aa wide ap<|aT [0,1,2,3] aa ap<|ji (t:=118) aa (fun b9=> ?_) fun b9=> ?_;refine aT [4,5] aa ap<|cB 6 aa (fun _ _=>a6 bX aa aa ab<|aB.ok ((aX E).2)<|cy ab) ap<|cB 7 aa (fun w' G=>ld1 aa<|dN (i:=q) ((aX E).2.wk G) ab) ap<|aT [8,9] aa ap<|cB 10 aa (fun _ _=>a6 bX aa aa ab<|aB.ok ((aX E).2)<|cy ab) ap<|cB 11 aa (fun w' G=>ld1 aa<|dN (i:=a) ((aX E).2.wk G) ab) ap<|nq 12 aa aj aa aa aa<|aM (mK J[q]! J[a]! _) aa ?_;rintro v127 cC ⟨rfl,bx⟩;have aL:(fun w'=>Wk aI w') cC:=Md.trans ap bx;refine ⟨aL,?_⟩;refine aT [13,14] aa aL<|hn aj<|dz 1 aa<|cb aa (fun aY=> ?_) fun aY=> ?_;exact aH 5 aa<|p (dQ<|q - 1)<|aC 3 aa<|tn<|⟨_,ab,q - 1,ab,(by rw [← ae,A6 (show 0 < q by omega) (show V≤q by omega) (by simpa using aY)]),(aU E aL),(Md.trans ac<|aL.mono fun _ _ h=>h.elim),aa,aa⟩
 exact aJ 2 aa<|bK<|bc 1 aa<|tn<|⟨q,ah,(by rw [← ae,ua (.inr<|by simpa using aY)]),(aU E aL),(Md.trans ac<|aL.mono fun _ _ h=>h.elim),aa⟩
 exact aT [4,5,6,7,8,9,10,11,12,13,14] aa ap<|hn aj<|bc 4 aa<|bK<|bc 1 aa<|tn<|⟨q,ah,(by rw [← ae,ua (.inl ab)]),(aU E (Md.refl _ _).drew),ac.drew,aa⟩
 rintro bu al ⟨Z,a9,a5,I,aP,cx⟩;refine bA cx<|bz 8 aa<|cd aa (fun b6=> ?_) fun b6=> ?_;refine aJ 3 aa<|bK<|dz 3 aa ?_;have aD:=gi I;have av:(fun w'=>Wk al w') al.drew:=(Md.refl _ _).drew;refine gO (fun w'=>Wk al w') 13 aa wide av<|bU [0,1,2,3,4,5] aa av<|cT 6 aa (a6 bX aa aa ab<|aB.ok ((aX I).2)<|cy ab) av<|eW 7 aa (fun w' G=>ld1 aa<|dN (i:=a) ((aX I).2.wk G) ab) av<|bU [8,9] aa av<|cT 10 aa (a6 bX aa aa ab<|aB.ok ((aX I).2)<|cy ab) av<|eW 11 aa (fun w' G=>ld1 aa<|dN (i:=Z) ((aX I).2.wk G) ab) av<|cT 12 aa (a6 bX aa aa ab<|aB.ok ((aX I).2)<|cy ab) av<|dK 13 aa aj aj<|gP (u:=J[a]!) (Z) (aU I av) gF aa aa aa ab fun cQ bW cm=>kK 14 aa (fun _=>a6 bX aa aa ab<|aB.ok ((aX I).2)<|cy ab) (fun h=>dM<|(show true =_ from by kernel_rfl).trans h)<|dK 15 aa aj aj<|gP (u:=J[Z]!) (a) cm gF aa aa aa ab fun bl bY cn=> ?_;have b5:bl.ownsRow B 95 1 (.slice A n cp) n (LE bf<|cX J (Z)<|a):=cn;have bV:Md (fun q=>(bQ A n cp).ownBlock=some q) al bl:=Md.trans (av.mono fun _ _ h=>h.elim)<|Md.trans bW bY;refine eQ aj<|bc 9 aa<|f2 aa aa aa ?_;have aR:=part_go bd a4 ab<|bb.symm.trans<|by rw [JI bg a5 a8.1 a9.2,if_pos ab]
 exact ⟨by rw [aR]; rfl,by rw [aR]; exact b5,Md.trans aP bV⟩;refine bz 3 aa ?_;have aD:=gi I;have aq:(fun w'=>Wk al w') al.drew:=(Md.refl _ _).drew;refine gO (fun w'=>Wk al w') 13 aa wide aq<|bU [0,1,2,3,4,5] aa aq<|cT 6 aa (a6 bX aa aa ab<|aB.ok ((aX I).2)<|cy ab) aq<|eW 7 aa (fun w' G=>ld1 aa<|dN (i:=Z) ((aX I).2.wk G) ab) aq<|bU [8,9] aa aq<|cT 10 aa (a6 bX aa aa ab<|aB.ok ((aX I).2)<|cy ab) aq<|eW 11 aa (fun w' G=>ld1 aa<|dN (i:=V) ((aX I).2.wk G) ab) aq<|cT 12 aa (a6 bX aa aa ab<|aB.ok ((aX I).2)<|cy ab) aq<|dK 13 aa aj aj<|gP (u:=J[Z]!) (V) (aU I aq) gF aa aa aa ab fun cP bS ck=>kK 14 aa (fun _=>a6 bX aa aa ab<|aB.ok ((aX I).2)<|cy ab) (fun h=>dM<|(show true =_ from by kernel_rfl).trans h)<|dK 15 aa aj aj<|gP (u:=J[V]!) (Z) ck gF aa aa aa ab fun bk bT cl=> ?_;have b4:bk.ownsRow B 95 1 (.slice A n cp) n (LE bf<|cX J (V)<|Z):=cl;have bR:Md (fun q=>(bQ A n cp).ownBlock=some q) al bk:=Md.trans (aq.mono fun _ _ h=>h.elim)<|Md.trans bS bT;exact eQ aj<|dq 4 aa<|p (bC<|V+1)<|au 5 aa<|p (dQ<|Z - 1)<|aC 3 aa<|tn<|⟨_,ab,V+1,Z - 1,cX J V Z,ab,(by rw [← bb,JI bg a5 a8.1 a9.2,if_neg ab,if_pos ab]),b4,(Md.trans aP bR),aa,aa⟩
theorem V5 (d:Array Nat) (a b O:Nat) (B n cp:Nat) (C:Option bF) (w:ak) (hO:w.ownsRow B 95 1 (.slice C n cp) n (LE bf d)) (bx:a≤O∧O < b∧b≤n) (bG:n≤1099511627776):
 ba az 291 (a7 [.slice C n cp,ay a,ay b,ay O]) w (fun v w'=>v=ay ((xr bZ d a b O).1)∧w'.ownsRow B 95 1 (.slice C n cp) n (LE bf (xr bZ d a b O).2)∧Md (fun q=>(bQ C n cp).ownBlock=some q) w w'):=by
 refine enter func291 aa ntmps291 aa<|bq 6 aa ?_;have bB:=gi hO;have V:(fun w'=>Wk w w') w.drew:=(Md.refl _ _).drew;refine gO (fun w'=>Wk w w') 13 aa wide V<|bU [0,1,2,3,4,5] aa V<|cT 6 aa (a6 bX aa aa ab<|aB.ok ((aX hO).2)<|cy ab) V<|eW 7 aa (fun w' I=>ld1 aa<|dN (i:=O) ((aX hO).2.wk I) ab) V<|bU [8,9] aa V<|cT 10 aa (a6 bX aa aa ab<|aB.ok ((aX hO).2)<|cy ab) V<|eW 11 aa (fun w' I=>ld1 aa<|dN (i:=a) ((aX hO).2.wk I) ab) V<|cT 12 aa (a6 bX aa aa ab<|aB.ok ((aX hO).2)<|cy ab) V<|dK 13 aa aj aj<|gP (u:=d[O]!) (a) (aU hO V) gF aa aa aa ab fun bH a2 bl=>kK 14 aa (fun _=>a6 bX aa aa ab<|aB.ok ((aX hO).2)<|cy ab) (fun h=>dM<|(show true =_ from by kernel_rfl).trans h)<|dK 15 aa aj aj<|gP (u:=d[a]!) (O) bl gF aa aa aa ab fun aL a3 bm=> ?_;have bg:aL.ownsRow B 95 1 (.slice C n cp) n (LE bf<|cX d (a)<|O):=bm;have a1:Md (fun q=>(bQ C n cp).ownBlock=some q) w aL:=Md.trans (V.mono fun _ _ h=>h.elim)<|Md.trans a2 a3;refine eQ aj<|dq 4 aa<|p (bC<|a+1)<|au 1 aa<|p (dQ<|b - 1)<|aQ 6 aa<|lp (fun ag aO ax=> ∃ (i j:Nat) (A:Array Nat),(a+1≤i∧i≤b∧a≤j∧j < b∧i≤j+2)∧(Go.Sort.partEqLoop bZ a i j A=xr bZ d a b O)∧(ax.ownsRow B 95 1 (.slice C n cp) n<|LE bf A)∧(Md (fun q=>(bQ C n cp).ownBlock=some q) w ax)∧(Sl aO [(0,.slice C n cp),(1,ay a),(9,ay i),(10,ay j)])∧(j+1 - i=ag)) _ ⟨a+1,b - 1,(cX d a O),ab,aa,bg,a1,aa,aa⟩ ?_;rintro ag aO ax ⟨i,j,A,hi,aG,bb,a0,bp,rfl⟩;refine bA bp<|bq 1 aa ?_;refine ei (fun aP aA=> ∃ (E:Nat),(i≤E∧(E=i∨E≤j+1))∧(pC (fun x=> !bZ A[a]! x) A (j) (i)=E)∧(aA.ownsRow B 95 1 (.slice C n cp) n<|LE bf A)∧(Md (fun q=>(bQ C n cp).ownBlock=some q) w aA)∧(Sl aP [(0,.slice C n cp),(1,ay a),(9,ay E),(10,ay j)])) ?_ ?_;refine bq 1 aa<|lp (fun ag aS al=> ∃ (q:Nat),(i≤q∧(q=i∨q≤j+1))∧(pC (fun x=> !bZ A[a]! x) A (j) (q)=pC (fun x=> !bZ A[a]! x) A (j) (i))∧(al.ownsRow B 95 1 (.slice C n cp) n<|LE bf A)∧(Md (fun q=>(bQ C n cp).ownBlock=some q) w al)∧(Sl aS [(0,.slice C n cp),(1,ay a),(9,ay q),(10,ay j)])∧(j+1 - q=ag)) _ ⟨i,ab,aa,bb,a0,aa,aa⟩ ?_;rintro ag aS al ⟨q,aq,ai,G,ah,bs,rfl⟩;refine bA bs<|bq 2 aa ?_;have aE:=gi G;have Y:(fun w'=>Wk al w') al.drew:=(Md.refl _ _).drew;refine dY (fun w'=>Wk al w') aa wide Y<|aT [0,1,2,3] aa Y<|ji (t:=32) aa (fun bj=> ?_) fun bj=> ?_;refine aT [4,5] aa Y<|cB 6 aa (fun _ _=>a6 bX aa aa ab<|aB.ok ((aX G).2)<|cy ab) Y<|cB 7 aa (fun w' I=>ld1 aa<|dN (i:=a) ((aX G).2.wk I) ab) Y<|aT [8,9] aa Y<|cB 10 aa (fun _ _=>a6 bX aa aa ab<|aB.ok ((aX G).2)<|cy ab) Y<|cB 11 aa (fun w' I=>ld1 aa<|dN (i:=q) ((aX G).2.wk I) ab) Y<|nq 12 aa aj aa aa aa<|aM (mK A[a]! A[q]! _) aa ?_;rintro v41 bv ⟨rfl,aY⟩;have ao:(fun w'=>Wk al w') bv:=Md.trans Y aY;refine ⟨ao,?_⟩;refine aT [13,14] aa ao<|hn aj<|dz 1 aa<|cb aa (fun av=> ?_) fun av=> ?_;exact aH 5 aa<|p (bC<|q+1)<|aC 3 aa<|tn<|⟨_,ab,q+1,ab,(by rw [← ai,DJ (show q≤j by omega) (by simpa using av)]),(aU G ao),(Md.trans ah<|ao.mono fun _ _ h=>h.elim),aa,aa⟩
 exact aJ 2 aa<|bK<|bc 1 aa<|tn<|⟨q,aq,(by rw [← ai,uG (.inr<|by simpa using av)]),(aU G ao),(Md.trans ah<|ao.mono fun _ _ h=>h.elim),aa⟩
 exact aT [4,5,6,7,8,9,10,11,12,13,14] aa Y<|hn aj<|bc 4 aa<|bK<|bc 1 aa<|tn<|⟨q,aq,(by rw [← ai,uG (.inl ab)]),(aU G (Md.refl _ _).drew),ah.drew,aa⟩
 rintro aP aA ⟨E,bD,aI,bd,a9,br⟩;refine bA br ?_;refine ei (fun aV an=> ∃ (J:Nat),(a≤J∧J≤j)∧(pB (fun x=>bZ A[a]! x) A (E) (j)=J)∧(an.ownsRow B 95 1 (.slice C n cp) n<|LE bf A)∧(Md (fun q=>(bQ C n cp).ownBlock=some q) w an)∧(Sl aV [(0,.slice C n cp),(1,ay a),(9,ay E),(10,ay J)])) ?_ ?_;refine bq 1 aa<|lp (fun ag aW am=> ∃ (q:Nat),(a≤q∧q≤j)∧(pB (fun x=>bZ A[a]! x) A (E) (q)=pB (fun x=>bZ A[a]! x) A (E) (j))∧(am.ownsRow B 95 1 (.slice C n cp) n<|LE bf A)∧(Md (fun q=>(bQ C n cp).ownBlock=some q) w am)∧(Sl aW [(0,.slice C n cp),(1,ay a),(9,ay E),(10,ay q)])∧(q=ag)) _ ⟨j,ab,aa,bd,a9,aa,aa⟩ ?_;rintro ag aW am ⟨q,aq,ai,G,ah,bu,rfl⟩;refine bA bu<|bq 2 aa ?_;have aE:=gi G;have Z:(fun w'=>Wk am w') am.drew:=(Md.refl _ _).drew;refine dY (fun w'=>Wk am w') aa wide Z<|aT [0,1,2,3] aa Z<|ji (t:=49) aa (fun bk=> ?_) fun bk=> ?_;refine aT [4,5] aa Z<|cB 6 aa (fun _ _=>a6 bX aa aa ab<|aB.ok ((aX G).2)<|cy ab) Z<|cB 7 aa (fun w' I=>ld1 aa<|dN (i:=a) ((aX G).2.wk I) ab) Z<|aT [8,9] aa Z<|cB 10 aa (fun _ _=>a6 bX aa aa ab<|aB.ok ((aX G).2)<|cy ab) Z<|cB 11 aa (fun w' I=>ld1 aa<|dN (i:=q) ((aX G).2.wk I) ab) Z<|nq 12 aa aj aa aa aa<|aM (mK A[a]! A[q]! _) aa ?_;rintro v58 bw ⟨rfl,aZ⟩;have ap:(fun w'=>Wk am w') bw:=Md.trans Z aZ;refine ⟨ap,?_⟩;refine aT [13] aa ap<|hn aj<|dz 1 aa<|cb aa (fun aw=> ?_) fun aw=> ?_;exact aH 5 aa<|p (dQ<|q - 1)<|aC 3 aa<|tn<|⟨_,ab,q - 1,ab,(by rw [← ai,A6 (show 0 < q by omega) (show E≤q by omega) (by simpa using aw)]),(aU G ap),(Md.trans ah<|ap.mono fun _ _ h=>h.elim),aa,aa⟩
 exact aJ 2 aa<|bK<|bc 1 aa<|tn<|⟨q,aq,(by rw [← ai,ua (.inr<|by simpa using aw)]),(aU G ap),(Md.trans ah<|ap.mono fun _ _ h=>h.elim),aa⟩
 exact aT [4,5,6,7,8,9,10,11,12,13] aa Z<|hn aj<|bc 4 aa<|bK<|bc 1 aa<|tn<|⟨q,aq,(by rw [← ai,ua (.inl ab)]),(aU G (Md.refl _ _).drew),ah.drew,aa⟩
 rintro aV an ⟨J,bE,aF,ae,aD,bt⟩;refine bA bt<|bz 8 aa<|cd aa (fun bi=> ?_) fun bi=> ?_;refine aJ 3 aa<|bK<|bc 9 aa<|aR aa ?_;have aK:xr bZ d a b O=(E,A):=by rw [← aG,JB aI aF,if_pos ab]
 exact ⟨by rw [aK]; rfl,by rw [aK]; exact ae,aD⟩;refine bz 3 aa ?_;have aE:=gi ae;have ac:(fun w'=>Wk an w') an.drew:=(Md.refl _ _).drew;refine gO (fun w'=>Wk an w') 13 aa wide ac<|bU [0,1,2,3,4,5] aa ac<|cT 6 aa (a6 bX aa aa ab<|aB.ok ((aX ae).2)<|cy ab) ac<|eW 7 aa (fun w' I=>ld1 aa<|dN (i:=J) ((aX ae).2.wk I) ab) ac<|bU [8,9] aa ac<|cT 10 aa (a6 bX aa aa ab<|aB.ok ((aX ae).2)<|cy ab) ac<|eW 11 aa (fun w' I=>ld1 aa<|dN (i:=E) ((aX ae).2.wk I) ab) ac<|cT 12 aa (a6 bX aa aa ab<|aB.ok ((aX ae).2)<|cy ab) ac<|dK 13 aa aj aj<|gP (u:=A[J]!) (E) (aU ae ac) gF aa aa aa ab fun bI a5 bn=>kK 14 aa (fun _=>a6 bX aa aa ab<|aB.ok ((aX ae).2)<|cy ab) (fun h=>dM<|(show true =_ from by kernel_rfl).trans h)<|dK 15 aa aj aj<|gP (u:=A[E]!) (J) bn gF aa aa aa ab fun aN a8 bo=> ?_;have bh:aN.ownsRow B 95 1 (.slice C n cp) n (LE bf<|cX A (E)<|J):=bo;have a4:Md (fun q=>(bQ C n cp).ownBlock=some q) an aN:=Md.trans (ac.mono fun _ _ h=>h.elim)<|Md.trans a5 a8;exact eQ aj<|dq 4 aa<|p (bC<|E+1)<|au 5 aa<|p (dQ<|J - 1)<|aC 3 aa<|tn<|⟨_,ab,E+1,J - 1,cX A E J,ab,(by rw [← aG,JB aI aF,if_neg ab,if_pos ab]),bh,(Md.trans aD a4),aa,aa⟩
end Go.Hb
end
section
namespace Go.Hb
open Go.Hb.dP
theorem Wc {d:Array Nat} {a b s i i2:Nat} (A:0 < s) (h:uW bZ d b i=i2) (h1:i2=b):sr bZ a b s i d=(d,true):=by
 cases s with
 | zero=>omega
 | succ s=>rw [sr]; simp only [h,if_pos h1]
theorem pi_short {d:Array Nat} {a b s i i2:Nat} (A:0 < s) (h:uW bZ d b i=i2) (h1:¬i2=b) (h2:b - a < 50):sr bZ a b s i d=(d,false):=by
 cases s with
 | zero=>omega
 | succ s=>rw [sr]; simp only [h,if_neg h1,if_pos h2]
theorem pi_go {d A C:Array Nat} {a b s i i2:Nat} (I:0 < s) (h:uW bZ d b i=i2) (h1:¬i2=b) (h2:¬b - a < 50)
 (E:A=if i2 - a≥2 then zU bZ (i2 - 1) (cX d i2<|i2 - 1) else cX d i2 (i2 - 1)) (G:C=if b - i2≥2 then Em bZ b (i2+1) A else A):
 sr bZ a b s i d=sr bZ a b (s - 1) i2 C:=by
 cases s with
 | zero=>omega
 | succ s=>rw [sr]; simp only [h,if_neg h1,if_neg h2]; rw [← E,← G]; rfl
theorem Wf (d:Array Nat) (a b:Nat) (B n cp:Nat) (A:Option bF) (w:ak) (hO:w.ownsRow B 95 1 (.slice A n cp) n (LE bf d)) (ce:a < b∧b≤n) (ci:n≤1099511627776):
 ba az 289 (a7 [.slice A n cp,ay a,ay b]) w (fun v w'=>v= .bool (uV bZ d a b).2∧w'.ownsRow B 95 1 (.slice A n cp) n (LE bf (uV bZ d a b).1)∧Md (fun q=>(bQ A n cp).ownBlock=some q) w w'):=by
 refine enter func289 aa ntmps289 aa<|bg 8 aa<|p (bC<|a+1)<|aQ 10 aa<|lp (fun Y bl a3=> ∃ (s i:Nat) (E:Array Nat),(a+1≤i∧i≤b∧s≤5)∧(sr bZ a b (5 - s) i E=(uV bZ d a b))∧(a3.ownsRow B 95 1 (.slice A n cp) n<|LE bf E)∧(Md (fun q=>(bQ A n cp).ownBlock=some q) w a3)∧(Sl bl [(0,.slice A n cp),(1,ay a),(2,ay b),(7,ay i),(8,ay s)])∧(5 - s=Y)) _ ⟨0,a+1,d,ab,aa,hO,(Md.refl _ _),aa,aa⟩ ?_;rintro Y bl a3 ⟨s,i,E,hi,aE,a9,a4,b5,rfl⟩;refine bA b5<|bq 7 aa<|cd aa (fun bM=> ?_) fun bM=> ?_;refine bz 4 aa ?_;refine ei (fun bm aq=> ∃ (i2:Nat),(i≤i2∧i2≤b)∧(uW bZ E b i=i2)∧(aq.ownsRow B 95 1 (.slice A n cp) n<|LE bf E)∧(Md (fun q=>(bQ A n cp).ownBlock=some q) w aq)∧(Sl bm [(0,.slice A n cp),(1,ay a),(2,ay b),(7,ay i2),(8,ay s)])) ?_ ?_;refine bq 1 aa<|lp (fun Y bn aw=> ∃ (q:Nat),(i≤q∧q≤b)∧(uW bZ E b q=uW bZ E b i)∧(aw.ownsRow B 95 1 (.slice A n cp) n<|LE bf E)∧(Md (fun q=>(bQ A n cp).ownBlock=some q) w aw)∧(Sl bn [(0,.slice A n cp),(1,ay a),(2,ay b),(7,ay q),(8,ay s)])∧(b - q=Y)) _ ⟨i,ab,aa,a9,a4,aa,aa⟩ ?_;rintro Y bn aw ⟨q,bh,aZ,ah,aN,b7,rfl⟩;refine bA b7<|bq 2 aa ?_;have bV:=gi ah;have Z:(fun w'=>Wk aw w') aw.drew:=(Md.refl _ _).drew;refine dY (fun w'=>Wk aw w') aa wide Z<|aT [0,1,2,3] aa Z<|ji (t:=20) aa (fun bW=> ?_) fun bW=> ?_;refine aT [4,5] aa Z<|cB 6 aa (fun _ _=>a6 bX aa aa ab<|aB.ok ((aX ah).2)<|cy ab) Z<|cB 7 aa (fun w' C=>ld1 aa<|dN (i:=q) ((aX ah).2.wk C) ab) Z<|aT [8,9] aa Z<|cB 10 aa (fun _ _=>dQ<|q - 1) Z<|cB 11 aa (fun _ _=>a6 bX aa aa ab<|aB.ok ((aX ah).2)<|cy ab) Z<|cB 12 aa (fun w' C=>ld1 aa<|dN (i:=q - 1) ((aX ah).2.wk C) ab) Z<|nq 13 aa aj aa aa aa<|aM (mK E[q]! E[q - 1]! _) aa ?_;rintro v30 cc ⟨rfl,bt⟩;have aD:(fun w'=>Wk aw w') cc:=Md.trans Z bt;refine ⟨aD,?_⟩;refine aT [14,15] aa aD<|hn aj<|dz 1 aa<|cb aa (fun aV=> ?_) fun aV=> ?_;exact aH 5 aa<|p (bC<|q+1)<|aC 3 aa<|tn<|⟨_,ab,q+1,ab,(by rw [← aZ,XQ (show q < b by omega) (by simpa using aV)]),(aU ah aD),(Md.trans aN<|aD.mono fun _ _ h=>h.elim),aa,aa⟩
 exact aJ 2 aa<|bK<|bc 1 aa<|tn<|⟨q,ab,(by rw [← aZ,KI (.inr<|by simpa using aV)]),(aU ah aD),(Md.trans aN<|aD.mono fun _ _ h=>h.elim),aa⟩
 exact aT [4,5,6,7,8,9,10,11,12,13,14,15] aa Z<|hn aj<|bc 4 aa<|bK<|bc 1 aa<|tn<|⟨q,ab,(by rw [← aZ,KI (.inl ab)]),(aU ah (Md.refl _ _).drew),aN.drew,aa⟩
 rintro bm aq ⟨i2,ch,aF,ac,aK,b6⟩;refine bA b6<|bz 8 aa<|cd aa (fun bN=> ?_) fun bN=> ?_;refine aJ 9 aa<|tr<|bc 2 aa<|aR aa ?_;have am:(uV bZ d a b)=(E,true):=by rw [← aE,Wc (show 0 < 5 - s by omega) aF ab]
 exact ⟨by rw [am]; rfl,by rw [am]; exact ac,aK⟩;have aL:¬i2=b:=ab;refine aH 7 aa<|p (dQ<|b - a)<|aQ 3 aa<|cd aa (fun bO=> ?_) fun bO=> ?_;refine aJ 9 aa<|tr<|bc 2 aa<|aR aa ?_;have am:(uV bZ d a b)=(E,false):=by rw [← aE,pi_short (show 0 < 5 - s by omega) aF ab ab]
 exact ⟨by rw [am]; rfl,by rw [am]; exact ac,aK⟩;refine bz 3 aa ?_;have bV:=gi ac;have I:(fun w'=>Wk aq w') aq.drew:=(Md.refl _ _).drew;refine gO (fun w'=>Wk aq w') 15 aa wide I<|bU [0,1,2,3] aa I<|cT 4 aa (dQ<|i2 - 1) I<|bU [5,6] aa I<|cT 7 aa (dQ<|i2 - 1) I<|cT 8 aa (a6 bX aa aa ab<|aB.ok ((aX ac).2)<|cy ab) I<|eW 9 aa (fun w' C=>ld1 aa<|dN (i:=i2 - 1) ((aX ac).2.wk C) ab) I<|bU [10,11] aa I<|cT 12 aa (a6 bX aa aa ab<|aB.ok ((aX ac).2)<|cy ab) I<|eW 13 aa (fun w' C=>ld1 aa<|dN (i:=i2) ((aX ac).2.wk C) ab) I<|cT 14 aa (a6 bX aa aa ab<|aB.ok ((aX ac).2)<|cy ab) I<|dK 15 aa aj aj<|gP (u:=E[i2 - 1]!) (i2) (aU ac I) gF aa aa aa ab fun ck bv bY=>kK 16 aa (fun _=>a6 bX aa aa ab<|aB.ok ((aX ac).2)<|cy ab) (fun h=>dM<|(show true =_ from by kernel_rfl).trans h)<|dK 17 aa aj aj<|gP (u:=E[i2]!) (i2 - 1) bY gF aa aa aa ab fun bi bw b0=> ?_;have bd:bi.ownsRow B 95 1 (.slice A n cp) n (LE bf<|cX E (i2)<|i2 - 1):=b0;have a5:Md (fun q=>(bQ A n cp).ownBlock=some q) aq bi:=Md.trans (I.mono fun _ _ h=>h.elim)<|Md.trans bv bw;refine eQ aj<|dz 1 aa ?_;refine ei (fun bo a2=> ∃ (an:Array Nat),(an=if i2 - a≥2 then zU bZ (i2 - 1) (cX E i2<|i2 - 1) else (cX E i2<|i2 - 1))∧(a2.ownsRow B 95 1 (.slice A n cp) n<|LE bf an)∧(Md (fun q=>(bQ A n cp).ownBlock=some q) w a2)∧(Sl bo [(0,.slice A n cp),(1,ay a),(2,ay b),(7,ay i2),(8,ay s)])) ?_ ?_;refine bg 4 aa<|p (dQ<|i2 - a)<|aQ 3 aa<|cd aa (fun bR=> ?_) fun bR=> ?_;refine aH 3 aa<|p (dQ<|i2 - 1)<|aQ 4 aa<|lp (fun Y bp au=> ∃ (q:Nat) (V:Array Nat),(q≤i2 - 1)∧(zU bZ q V=zU bZ (i2 - 1) (cX E i2<|i2 - 1))∧(au.ownsRow B 95 1 (.slice A n cp) n<|LE bf V)∧(Md (fun q=>(bQ A n cp).ownBlock=some q) w au)∧(Sl bp [(0,.slice A n cp),(1,ay a),(2,ay b),(7,ay i2),(8,ay s),(9,ay q)])∧(q=Y)) _ ⟨i2 - 1,(cX E i2<|i2 - 1),ab,aa,bd,(Md.trans aK a5),aa,aa⟩ ?_;rintro Y bp au ⟨q,V,bh,a0,ai,aO,b9,rfl⟩;refine bA b9<|bq 7 aa<|cd aa (fun bS=> ?_) fun bS=> ?_;refine bz 6 aa ?_;have cf:=gi ai;have ae:(fun w'=>Wk au w') au.drew:=(Md.refl _ _).drew;refine dY (fun w'=>Wk au w') aa wide ae<|aT [0,1] aa ae<|bP 2 aa (a6 bX aa aa ab<|aB.ok ((aX ai).2)<|cy ab) ae<|fz 3 aa (fun w' C=>ld1 aa<|dN (i:=q) ((aX ai).2.wk C) ab) ae<|aT [4,5] aa ae<|bP 6 aa (dQ<|q - 1) ae<|bP 7 aa (a6 bX aa aa ab<|aB.ok ((aX ai).2)<|cy ab) ae<|fz 8 aa (fun w' C=>ld1 aa<|dN (i:=q - 1) ((aX ai).2.wk C) ab) ae<|he 9 aa aj<|aM (mK V[q]! V[q - 1]! _) aa ?_;rintro v77 aI ⟨rfl,bu⟩;have ax:(fun w'=>Wk au w') aI:=Md.trans ae bu;refine ⟨ax,?_⟩;refine aT [10] aa ax<|hn aj<|dz 1 aa<|cb aa (fun aW=> ?_) fun aW=> ?_;exact aJ 4 aa<|bK<|bc 1 aa<|tn<|⟨V,(by rw [if_pos ab,← a0,Ke (.inr<|by simpa using aW)]),(aU ai ax),(Md.trans aO<|ax.mono fun _ _ h=>h.elim),aa⟩
 refine bz 2 aa ?_;have ao:=aU ai ax;have J:(fun w'=>Wk aI w') aI.drew:=(Md.refl _ _).drew;refine gO (fun w'=>Wk aI w') 15 aa wide J<|bU [0,1,2,3] aa J<|cT 4 aa (dQ<|q - 1) J<|bU [5,6] aa J<|cT 7 aa (dQ<|q - 1) J<|cT 8 aa (a6 bX aa aa ab<|aB.ok ((aX ao).2)<|cy ab) J<|eW 9 aa (fun w' C=>ld1 aa<|dN (i:=q - 1) ((aX ao).2.wk C) ab) J<|bU [10,11] aa J<|cT 12 aa (a6 bX aa aa ab<|aB.ok ((aX ao).2)<|cy ab) J<|eW 13 aa (fun w' C=>ld1 aa<|dN (i:=q) ((aX ao).2.wk C) ab) J<|cT 14 aa (a6 bX aa aa ab<|aB.ok ((aX ao).2)<|cy ab) J<|dK 15 aa aj aj<|gP (u:=V[q - 1]!) (q) (aU ao J) gF aa aa aa ab fun cl bB b1=>kK 16 aa (fun _=>a6 bX aa aa ab<|aB.ok ((aX ao).2)<|cy ab) (fun h=>dM<|(show true =_ from by kernel_rfl).trans h)<|dK 17 aa aj aj<|gP (u:=V[q]!) (q - 1) b1 gF aa aa aa ab fun bj bD b2=> ?_;have bI:bj.ownsRow B 95 1 (.slice A n cp) n (LE bf<|cX V (q)<|q - 1):=b2;have bx:Md (fun q=>(bQ A n cp).ownBlock=some q) aI bj:=Md.trans (J.mono fun _ _ h=>h.elim)<|Md.trans bB bD;exact eQ aj<|dq 4 aa<|p (dQ<|q - 1)<|aC 2 aa<|tn<|⟨_,ab,q - 1,cX V q (q - 1),ab,(by rw [← a0,Xk (show 0 < q by omega) (by simpa using aW)]),bI,(Md.trans aO<|Md.trans (ax.mono fun _ _ h=>h.elim) bx),aa,aa⟩
 exact aJ 2 aa<|bK<|bc 1 aa<|tn<|⟨V,(by rw [if_pos ab,← a0,Ke (.inl ab)]),ai,aO,aa⟩
 exact aJ 1 aa<|tn<|⟨(cX E i2<|i2 - 1),(by rw [if_neg ab]),bd,(Md.trans aK a5),aa⟩
 rintro bo a2 ⟨an,aY,bb,a8,b8⟩;refine bA b8<|aH 4 aa<|p (dQ<|b - i2)<|aQ 3 aa<|cd aa (fun bT=> ?_) fun bT=> ?_;refine aH 3 aa<|p (bC<|i2+1)<|aQ 4 aa<|lp (fun Y br av=> ∃ (q:Nat) (G:Array Nat),(i2+1≤q∧q≤b)∧(Em bZ b q G=Em bZ b (i2+1) an)∧(av.ownsRow B 95 1 (.slice A n cp) n<|LE bf G)∧(Md (fun q=>(bQ A n cp).ownBlock=some q) w av)∧(Sl br [(0,.slice A n cp),(1,ay a),(2,ay b),(7,ay i2),(8,ay s),(10,ay q)])∧(b - q=Y)) _ ⟨i2+1,an,ab,aa,bb,a8,aa,aa⟩ ?_;rintro Y br av ⟨q,G,bh,a1,al,aP,ca,rfl⟩;refine bA ca<|bq 8 aa<|cd aa (fun bL=> ?_) fun bL=> ?_;refine bz 6 aa ?_;have cg:=gi al;have ag:(fun w'=>Wk av w') av.drew:=(Md.refl _ _).drew;refine dY (fun w'=>Wk av w') aa wide ag<|aT [0,1] aa ag<|bP 2 aa (a6 bX aa aa ab<|aB.ok ((aX al).2)<|cy ab) ag<|fz 3 aa (fun w' C=>ld1 aa<|dN (i:=q) ((aX al).2.wk C) ab) ag<|aT [4,5] aa ag<|bP 6 aa (dQ<|q - 1) ag<|bP 7 aa (a6 bX aa aa ab<|aB.ok ((aX al).2)<|cy ab) ag<|fz 8 aa (fun w' C=>ld1 aa<|dN (i:=q - 1) ((aX al).2.wk C) ab) ag<|he 9 aa aj<|aM (mK G[q]! G[q - 1]! _) aa ?_;rintro cj aG ⟨rfl,bs⟩;have aA:(fun w'=>Wk av w') aG:=Md.trans ag bs;refine ⟨aA,?_⟩;refine aT [10] aa aA<|hn aj<|dz 1 aa<|cb aa (fun aS=> ?_) fun aS=> ?_;exact aJ 4 aa<|bK<|dq 5 aa<|p (bC<|s+1)<|aC 2 aa<|tn<|⟨_,ab,s+1,i2,G,ab,(by rw [← aE,pi_go (show 0 < 5 - s by omega) aF aL ab aY (show G=_ by rw [if_pos ab,← a1,KU (.inr<|by simpa using aS)])]; rfl),(aU al aA),(Md.trans aP<|aA.mono fun _ _ h=>h.elim),aa,aa⟩
 refine bz 2 aa ?_;have ap:=aU al aA;have O:(fun w'=>Wk aG w') aG.drew:=(Md.refl _ _).drew;refine gO (fun w'=>Wk aG w') 15 aa wide O<|bU [0,1,2,3] aa O<|cT 4 aa (dQ<|q - 1) O<|bU [5,6] aa O<|cT 7 aa (dQ<|q - 1) O<|cT 8 aa (a6 bX aa aa ab<|aB.ok ((aX ap).2)<|cy ab) O<|eW 9 aa (fun w' C=>ld1 aa<|dN (i:=q - 1) ((aX ap).2.wk C) ab) O<|bU [10,11] aa O<|cT 12 aa (a6 bX aa aa ab<|aB.ok ((aX ap).2)<|cy ab) O<|eW 13 aa (fun w' C=>ld1 aa<|dN (i:=q) ((aX ap).2.wk C) ab) O<|cT 14 aa (a6 bX aa aa ab<|aB.ok ((aX ap).2)<|cy ab) O<|dK 15 aa aj aj<|gP (u:=G[q - 1]!) (q) (aU ap O) gF aa aa aa ab fun cm bG b3=>kK 16 aa (fun _=>a6 bX aa aa ab<|aB.ok ((aX ap).2)<|cy ab) (fun h=>dM<|(show true =_ from by kernel_rfl).trans h)<|dK 17 aa aj aj<|gP (u:=G[q]!) (q - 1) b3 gF aa aa aa ab fun bk bH b4=> ?_;have bJ:bk.ownsRow B 95 1 (.slice A n cp) n (LE bf<|cX G (q)<|q - 1):=b4;have bE:Md (fun q=>(bQ A n cp).ownBlock=some q) aG bk:=Md.trans (O.mono fun _ _ h=>h.elim)<|Md.trans bG bH;exact eQ aj<|dq 4 aa<|p (bC<|q+1)<|aC 2 aa<|tn<|⟨_,ab,q+1,cX G q (q - 1),ab,(by rw [← a1,Ye (show q < b by omega) (by simpa using aS)]),bJ,(Md.trans aP<|Md.trans (aA.mono fun _ _ h=>h.elim) bE),aa,aa⟩
 exact aJ 2 aa<|bK<|dq 5 aa<|p (bC<|s+1)<|aC 2 aa<|tn<|⟨_,ab,s+1,i2,G,ab,(by rw [← aE,pi_go (show 0 < 5 - s by omega) aF aL ab aY (show G=_ by rw [if_pos ab,← a1,KU (.inl ab)])]; rfl),al,aP,aa,aa⟩
 exact aH 5 aa<|p (bC<|s+1)<|aC 2 aa<|tn<|⟨_,ab,s+1,i2,an,ab,(by rw [← aE,pi_go (show 0 < 5 - s by omega) aF aL ab aY (show an=_ by rw [if_neg ab])]; rfl),bb,a8,aa,aa⟩
 refine aJ 2 aa<|bK<|bc 8 aa<|aR aa ?_;have am:(uV bZ d a b)=(E,false):=by rw [← aE,show 5 - s=0 by omega]; rfl
 exact ⟨by rw [am]; rfl,by rw [am]; exact a9,a4⟩
end Go.Hb
end
section
namespace Go.Hb
open Go.Hb.dP
theorem V1 (d:Array Nat) (a b C:Nat) (B n cp:Nat) (A:Option bF) (w:ak) (hO:w.ownsRow B 95 1 (.slice A n cp) n (LE bf d)) (G:a≤C∧C < b∧b≤n) (I:n≤1099511627776):ba az 292 (a7 [.slice A n cp,.int .i64 (a:Nat),.int .i64 (b:Nat),.int .i64 (C:Nat)]) w
 (fun v w'=> ∃ E ap d4,su bZ d a b C=(E,ap,d4)∧v= .tuple #[.int .i64 (E:Nat),.bool ap]∧w'.ownsRow B 95 1 (.slice A n cp) n (LE bf d4)∧Md (fun q=>(bQ A n cp).ownBlock=some q) w w'):=
 (V0 d a b C B n cp A w hO G I).mono fun _ _ h=>⟨_,_,_,rfl,h⟩
theorem V6 (d:Array Nat) (a b C:Nat) (B n cp:Nat) (A:Option bF) (w:ak) (hO:w.ownsRow B 95 1 (.slice A n cp) n (LE bf d)) (G:a≤C∧C < b∧b≤n) (I:n≤1099511627776):ba az 291 (a7 [.slice A n cp,.int .i64 (a:Nat),.int .i64 (b:Nat),.int .i64 (C:Nat)]) w
 (fun v w'=> ∃ E d4,xr bZ d a b C=(E,d4)∧v= .int .i64 (E:Nat)∧w'.ownsRow B 95 1 (.slice A n cp) n (LE bf d4)∧Md (fun q=>(bQ A n cp).ownBlock=some q) w w'):=
 (V5 d a b C B n cp A w hO G I).mono fun _ _ h=>⟨_,_,rfl,h⟩
theorem V8 (m:Nat) (d:Array Nat) (a b lim:Nat) (B n cp:Nat) (E:Option bF) (w:ak) (hO:w.ownsRow B 95 1 (.slice E n cp) n (LE bf d)) (hm:b - a < m) (ci:a≤b∧b≤n) (b6:n≤255) (co:lim≤64) (bt:Ei bZ a b d):
 ba az 268 (a7 [.slice E n cp,ay a,ay b,ay lim]) w (fun v w'=> ∃ d1,v= .tuple #[]∧pA a b d d1∧uU bZ a b d1∧w'.ownsRow B 95 1 (.slice E n cp) n (LE bf d1)∧Md (fun q=>(bQ E n cp).ownBlock=some q) w w'):=by
 have bl:True:=trivial
 induction m generalizing d a b lim w with
 | zero=>omega
 | succ m bl=>
   have bk:∀ (d:Array Nat) (a b lim:Nat) (w:ak),w.ownsRow B 95 1 (.slice E n cp) n (LE bf d)→b - a < m→(a≤b∧b≤n)→lim≤64→Ei bZ a b d→_:=fun d a b lim w h1 h2 h3 h4 h5=>bl d a b lim w h1 h2 h3 h4 h5;have cn:=gi hO;refine enter func268 aa ntmps268 aa<|bq 11 aa<|lp (fun a1 bn a0=> ∃ (A C ah:Nat) (wb wp:Bool) (G:Array Nat),(a≤A∧A≤C∧C≤b∧ah≤64)∧(Ei bZ A C G)∧(∀ R,pA A C G R→uU bZ A C R→pA a b d R∧uU bZ a b R)∧(a0.ownsRow B 95 1 (.slice E n cp) n<|LE bf G)∧(Md (fun q=>(bQ E n cp).ownBlock=some q) w a0)∧(Sl bn [(0,.slice E n cp),(1,ay A),(2,ay C),(3,ay ah),(8,.bool wb),(9,.bool wp)])∧(C - A=a1)) _ ⟨a,b,lim,true,true,d,ab,bt,(fun R h1 h2=>⟨h1,h2⟩),hO,(Md.refl _ _),aa,aa⟩ ?_;rintro a1 bn a0 ⟨A,C,ah,wb,wp,G,ct,aD,ac,am,aw,b8,rfl⟩;refine bA b8 ?_;have cm:=gi am;refine bg 5 aa<|p (dQ<|C - A)<|aQ 10 aa<|cd aa (fun bP=> ?_) fun bP=> ?_;refine aH 5 aa<|e<|aM (TT G A C B n cp E _ am ab ab) aa ?_;rintro cw cD ⟨rfl,bH,bw⟩;refine aC 5 aa<|tr<|bc 1 aa<|rG aa ?_;obtain ⟨h1,h2⟩:=Go.Sort.insertionSort_holds vU G A C ab ab;obtain ⟨aq,av⟩:=ac _ (h1)<|h2;exact ⟨_,aa,aq,av,bH,Md.trans aw bw⟩;refine bz 9 aa<|cd aa (fun bR=> ?_) fun bR=> ?_;refine aH 5 aa<|e<|aM (Tp G A C B n cp E _ am ab ab) aa ?_;rintro v33 cE ⟨rfl,bI,bx⟩;refine aC 5 aa<|tr<|bc 1 aa<|rG aa ?_;obtain ⟨h1,h2⟩:=Go.Sort.heapSort_holds vU G A C ab ab;obtain ⟨aq,av⟩:=ac _ (h1)<|h2;exact ⟨_,aa,aq,av,bI,Md.trans aw bx⟩;refine bz 2 aa ?_;refine ei (fun bo wB=> ∃ (O:Nat) (d1:Array Nat),(O≤64)∧(pA A C G d1)∧(wB.ownsRow B 95 1 (.slice E n cp) n<|LE bf d1)∧(Md (fun q=>(bQ E n cp).ownBlock=some q) w wB)∧(Sl bo [(0,.slice E n cp),(1,ay A),(2,ay C),(3,ay O),(8,.bool wb),(9,.bool wp),(10,ay (C - A))])) ?_ ?_;refine bq 6 aa<|cb aa (fun bS=> ?_) fun bS=> ?_;refine aH 5 aa<|e<|aM (Og G A C B n cp E _ am ab b6) aa ?_;rintro v39 cF ⟨d1,rfl,b7,bJ,bB⟩;exact au 4 aa<|p (dQ<|ah - 1)<|aC 2 aa<|tn<|⟨ah - 1,d1,ab,b7,bJ,(Md.trans aw bB),aa⟩
   exact aJ 1 aa<|tn<|⟨ah,G,ab,(Mo G A C),am,aw,aa⟩
   rintro bo wB ⟨O,d1,cq,bi,bN,bG,b9⟩;refine bA b9<|aH 5 aa<|e<|aM (OX d1 A C B n cp E _ bN ab ab) aa ?_;rintro v46 cG ⟨aA,cg,rfl,cs,aG,bu⟩;have a2:=Md.trans bG<|bu.mono fun _ _ h=>h.elim;refine p mv<|aQ 6 aa ?_;refine ei (fun bp aY=> ∃ (V:Nat) (bj:Int) (d2:Array Nat),(A≤V∧V < C)∧(pA A C G d2)∧(aY.ownsRow B 95 1 (.slice E n cp) n<|LE bf d2)∧(Md (fun q=>(bQ E n cp).ownBlock=some q) w aY)∧(Sl bp [(0,.slice E n cp),(1,ay A),(2,ay C),(3,ay O),(8,.bool wb),(9,.bool wp),(10,ay (C - A)),(11,ay V),(12,.int .i64 bj)])) ?_ ?_;refine bq 6 aa<|cd aa (fun bT=> ?_) fun bT=> ?_;refine aH 5 aa<|e<|aM (WK d1 A C B n cp E _ aG ab ab) aa ?_;rintro v54 cH ⟨rfl,bL,bD⟩;have cj:=gi aG;exact au 5 aa<|p (dQ<|C - 1)<|au 2 aa<|p (dQ<|aA - A)<|p (dQ<|C - 1 - (aA - A))<|aC 6 aa<|tn<|⟨C - 1 - (aA - A),1,El d1 A C,ab,(tz _ _ _ A C bi<|Go.Sort.reverseRange_holds d1 A C ab ab),bL,(Md.trans a2 bD),aa⟩
   exact aJ 1 aa<|tn<|⟨aA,cg,d1,ab,bi,aG,a2,aa⟩
   rintro bp aY ⟨V,bj,d2,ax,ag,an,al,ca⟩;refine bA ca ?_;refine ei (fun br Z=> ∃ (d3:Array Nat),(pA A C G d3)∧(Z.ownsRow B 95 1 (.slice E n cp) n<|LE bf d3)∧(Md (fun q=>(bQ E n cp).ownBlock=some q) w Z)∧(Sl br [(0,.slice E n cp),(1,ay A),(2,ay C),(3,ay O),(8,.bool wb),(9,.bool wp),(10,ay (C - A)),(11,ay V)])) ?_ ?_;refine bg 4 aa<|gb (t:=62) aa (fun bW=> ?_) fun bW=> ?_;refine au 3 aa<|gb (t:=65) aa (fun bY=> ?_) fun bY=> ?_;refine aQ 5 aa<|cd aa (fun bU=> ?_) fun bU=> ?_;refine aH 5 aa<|e<|aM (Wf d2 A C B n cp E _ an ab ab) aa ?_;rintro v72 cI ⟨rfl,a8,a3⟩;have ck:=gi an;obtain ⟨bh,b1⟩:=Go.Sort.partialInsertionSort_holds vU d2 A C ab ab<|Ej aD ab ag;refine aQ 2 aa<|cb aa (fun bb=> ?_) fun bb=> ?_;have cf:=b1 bb;refine aJ 1 aa<|tr<|bc 1 aa<|tr<|bc 1 aa<|rG aa ?_;obtain ⟨aq,av⟩:=ac _ (tz _ _ _ A C ag bh)<|cf;exact ⟨_,aa,aq,av,a8,Md.trans al a3⟩;exact aJ 1 aa<|tn<|⟨_,(tz _ _ _ A C ag bh),a8,(Md.trans al a3),aa⟩
   exact aJ 1 aa<|tn<|⟨d2,ag,an,al,aa⟩
   exact aC 7 aa<|tn<|⟨d2,ag,an,al,aa⟩
   exact au 2 aa<|p mv<|aC 7 aa<|tn<|⟨d2,ag,an,al,aa⟩
   rintro br Z ⟨d3,ao,Y,aE,cc⟩;refine bA cc ?_;refine ei (fun bs aZ=>(aZ.ownsRow B 95 1 (.slice E n cp) n<|LE bf d3)∧(Md (fun q=>(bQ E n cp).ownBlock=some q) w aZ)∧(Sl bs [(0,.slice E n cp),(1,ay A),(2,ay C),(3,ay O),(8,.bool wb),(9,.bool wp),(10,ay (C - A)),(11,ay V)])) ?_ ?_;refine bq 1 aa ?_;have bV:=gi Y;have J:(fun w'=>Wk Z w') Z.drew:=(Md.refl _ _).drew;refine dY (fun w'=>Wk Z w') aa wide J<|aT [0,1,2] aa J<|ji (t:=75) aa (fun b0=> ?_) fun b0=> ?_;refine aT [3,4] aa J<|cB 5 aa (fun _ _=>dQ<|A - 1) J<|cB 6 aa (fun _ _=>a6 bX aa aa ab<|aB.ok ((aX Y).2)<|cy ab) J<|cB 7 aa (fun w' aL=>ld1 aa<|dN (i:=A - 1) ((aX Y).2.wk aL) ab) J<|aT [8,9] aa J<|cB 10 aa (fun _ _=>a6 bX aa aa ab<|aB.ok ((aX Y).2)<|cy ab) J<|cB 11 aa (fun w' aL=>ld1 aa<|dN (i:=V) ((aX Y).2.wk aL) ab) J<|nq 12 aa aj aa aa aa<|aM (mK d3[A - 1]! d3[V]! _) aa ?_;rintro v85 ch ⟨rfl,bv⟩;have ae:(fun w'=>Wk Z w') ch:=Md.trans J bv;refine ⟨ae,?_⟩;refine aT [13,14] aa ae<|hn aj<|dz 1 aa<|cb aa (fun bd=> ?_) fun bd=> ?_;refine aH 6 aa<|e<|aM (V6 d3 A C V B n cp E _ (aU Y ae) ab ab) aa ?_;rintro cx cJ ⟨I,d4,aW,rfl,bM,bE⟩;obtain ⟨uh,b2,b3,aP,aR⟩:=Go.Sort.round_eq vU (Go.Sort.partitionEqual_holds bZ) (show 0 < A by omega) ax.1 ax.2 ab (Ej aD ab ao) (by simpa using bd) aW;exact aC 10 aa<|bK<|bc 1 aa<|tn<|⟨_,ab,I,C,O,wb,wp,d4,ab,aP,(fun R h1 h2=>by obtain ⟨h3,h4⟩:=aR R h1 h2; exact ac R (tz _ _ _ A C ao h3) h4),bM,(Md.trans aE<|Md.trans (ae.mono fun _ _ h=>h.elim) bE),aa,aa⟩
   exact aJ 1 aa<|tn<|⟨(aU Y ae),(Md.trans aE<|ae.mono fun _ _ h=>h.elim),aa⟩
   exact aT [3,4,5,6,7,8,9,10,11,12,13,14] aa J<|hn aj<|bc 3 aa<|tn<|⟨(aU Y (Md.refl _ _).drew),aE.drew,aa⟩
   rintro bs aZ ⟨a9,a5,ce⟩;refine bA ce<|aH 6 aa<|e<|aM (V1 d3 A C V B n cp E _ a9 ab ab) aa ?_;rintro cz bm ⟨I,ap,d4,aW,rfl,aI,a4⟩;have bV:=gi a9;have cl:=gi aI;obtain ⟨uh,b2,b3,aP,aR,b4,b5⟩:=Go.Sort.round_part vU (Go.Sort.partition_holds bZ) ax.1 ax.2 ab (Ej aD ab ao) aW;refine p mv<|au 16 aa<|p (dQ<|I - A)<|au 2 aa<|p (dQ<|C - I)<|au 7 aa<|p (rY (((C - A) / 8:Nat):Int) aa aa ab<|kq ab ab)<|aQ 10 aa<|cd aa (fun bO=> ?_) fun bO=> ?_;refine aH 14 aa<|e<|aM (bk d4 A I O bm aI ab ab ab aP) aa ?_;rintro cu cA ⟨ai,rfl,aS,aV,aK,aF⟩;obtain ⟨aN,aO⟩:=b4 ai aS aV;exact au 4 aa<|p (bC<|I+1)<|aC 3 aa<|tn<|⟨_,ab,I+1,C,O,decide (((I - A:Nat):Int)≥(((C - A) / 8:Nat):Int)),ap,ai,ab,aN,(fun R h1 h2=>by obtain ⟨h3,h4⟩:=aO R h1 h2; exact ac R (tz _ _ _ A C ao h3) h4),aK,(Md.trans a5<|Md.trans a4 aF),aa,aa⟩
   refine aH 12 aa<|p (bC<|I+1)<|au 2 aa<|e<|aM (bk d4 (I+1) C O bm aI ab ab ab aR) aa ?_;rintro cv cC ⟨ai,rfl,aS,aV,aK,aF⟩;obtain ⟨aN,aO⟩:=b5 ai aS aV;exact aC 7 aa<|tn<|⟨_,ab,A,I,O,decide (((C - I:Nat):Int)≥(((C - A) / 8:Nat):Int)),ap,ai,ab,aN,(fun R h1 h2=>by obtain ⟨h3,h4⟩:=aO R h1 h2; exact ac R (tz _ _ _ A C ao h3) h4),aK,(Md.trans a5<|Md.trans a4 aF),aa,aa⟩
theorem XK (d:Array Nat) (B n cp:Nat) (A:Option bF) (w:ak) (hO:w.ownsRow B 95 1 (.slice A n cp) n (LE bf d)) (E:n≤255):
 ba az 241 (a7 [.slice A n cp]) w (fun v w'=> ∃ d1,v= .tuple #[]∧pA 0 n d d1∧uU bZ 0 n d1∧w'.ownsRow B 95 1 (.slice A n cp) n (LE bf d1)∧Md (fun q=>(bQ A n cp).ownBlock=some q) w w'):=by
 refine enter func241 aa ntmps241 aa<|bg 11 aa<|p (l6 Lb r9 aa<|qa ab)<|e<|aM (IK n _ ab) aa ?_;rintro v9 J ⟨rfl,C⟩;have G:=yF (n:=n) ab;refine e<|aM (V8 (n+1) d 0 n (lQ n) B n cp A _ (aU hO C) ab ab E ab<|.inl aa) aa ?_;rintro v10 I ⟨d1,rfl,h1,h2,h3,h4⟩;exact aC 1 aa<|f0 aa<|⟨d1,aa,h1,h2,h3,Md.trans (C.mono fun _ _ h=>h.elim) h4⟩
end Go.Hb
end
section
namespace Go.Hb.fZ
open Go.Hb.dP
theorem uC {w:ak} {B e n cp i:Nat} {a:Option bF} {d:Array Nat} (h:w.ownsRow B e 1 (.slice a n cp) n (LE bf d)):aB w.heap (iy a cp i 1) ((LE bf d).drop i):=by
 have :=(aX h).2.drop (cap:=cp) (k:=i) (size:=1)<|by rw [vT]; have h1:=gi h; have h2:=(aX h).1; omega
 rwa [Nat.mul_one] at this
theorem UN (l:List Nat):l.map bf=LE bf l.toArray:=by simp [LE]
theorem tO (l:List Nat):(l.map bf).all fX=true :=by
 rw [List.all_eq_true]; intro v A; obtain ⟨x,_,rfl⟩:=List.mem_map.1 A; rfl
theorem Yp (d:Array Nat) (k:Nat):(LE bf d).take k=(d.toList.take k).map bf:=by simp [LE,List.map_take]
theorem p5 (b:UInt8):jD b=decide ((b.toNat:Int) > 32∧(b.toNat:Int) < 127∧(b.toNat:Int)≠47∧(b.toNat:Int)≠44∧(b.toNat:Int)≠35):=by
 unfold jD; exact decide_eq_decide.2 ab
theorem CL {w:ak} {B e size n cp:Nat} {a:Option bF} {xs:List ag} (h:w.ownsRow B e size (.slice a n cp) n xs) (hn:0 < n):a≠none:=by
 rintro rfl;rcases h.2 with ⟨_,h5⟩ | ⟨g,cap,cur,h4,_⟩
 · omega
 · simp at h4
theorem tV (a:Option bF) (n c:Nat) (xs:List ag) (w:ak) (I:aB w.heap a xs) (ae:xs.length=n*1) (V:a=none→n=0) (h1:xs.all fX=true) (hn:n≤1048576):
 ba az 44 (a7 [.slice a n c]) w (fun v w'=>bo w' w.heap.size 95 1 v n xs∧Wk w w'):=by
 refine enter func44 aa ntmps44 aa<|bg 9 aa<|p (rF Le aa aa)<|aQ 2 aa<|cb aa (fun C=> ?_) fun C=> ?_;have Y:a=none:=by simpa using C
 refine aJ 7 aa<|aR aa ?_;have Z:=V Y;subst Z;obtain rfl :=List.eq_nil_of_length_eq_zero (show xs.length=0 by omega);exact ⟨dE _ _ _ _,Md.refl _ _⟩;refine aH 4 aa<|e<|mF zl fun al aq am A G=> ?_;have E:=G w.heap.size ab;refine au 1 aa<|e<|ap zl (E) aa (by have :=A.size; omega) aa (I.wk A.md) (ae) (h1) ab ab fun ai aj ac O ao an=> ?_;have J:=Wk.own A.md E O<|cE _;refine p bm<|aC 3 aa<|aR aa ?_;have ah:bo aj w.heap.size 95 1 ai n xs:=by simpa using ac
 exact ⟨ah,J⟩
theorem PS (d:Array Nat) (B n cp:Nat) (A:Option bF) (w:ak) (hO:w.ownsRow B 95 1 (.slice A n cp) n (LE bf d)) (aS:n≤1048576):
 ba az 242 (a7 [.slice A n cp]) w (fun v w'=> ∃ k,v= .slice A k cp∧k=(iY d.toList).length∧bo w' B 95 1 (.slice A k cp) k ((iY d.toList).map bf)∧Md (fun q=>(bQ A n cp).ownBlock=some q) w w'):=by
 have aP:=gi hO;have aN:=(aX hO).1;refine enter func242 aa ntmps242 aa<|bq 13 aa<|cd aa (fun aA=> ?_) fun aA=> ?_;refine aJ 8 aa<|aR aa ?_;have ae:iY d.toList=d.toList:=by
  have ah:d.toList.length < 2:=by rw [uF]; omega
  revert ah;generalize d.toList=l;intro ah
  match l,ah with
  | [],_=>rfl
  | [x],_=>rfl
 exact ⟨n,aa,by rw [ae,uF]; omega,by rw [ae]; exact hO,Md.refl _ _⟩;refine bz 9 aa<|lp (fun V am al=> ∃ (i:Nat),(1≤i∧i≤n∧2≤n)∧(iY (d.toList.take i)=d.toList.take i)∧(Wk w al)∧(Sl am [(0,.slice A n cp),(3,ay i)])∧(n - i=V)) _ ⟨1,ab,(by have h1:=zw (d:=d) (i:=0) ab; rw [h1]; rfl),(Md.refl _ _),aa,aa⟩ ?_;rintro V am al ⟨i,hi,Y,J,aL,rfl⟩;refine bA aL<|bq 9 aa<|cd aa (fun aq=> ?_) fun aq=> ?_;refine bz 5 aa<|dZ fun I=>aT [0,1] aa I<|bP 2 aa (a6 bX aa aa ab<|aB.ok ((aX hO).2)<|cy ab) I<|cw 3 aa I (dN (i:=i) (aX<|aU hO J).2 ab)<|aT [4,5] aa I<|bP 6 aa (dQ<|i - 1) I<|bP 7 aa (a6 bX aa aa ab<|aB.ok ((aX hO).2)<|cy ab) I<|cw 8 aa I (dN (i:=i - 1) (aX<|aU hO J).2 ab)<|aT [9] aa I<|hn aj<|dz 1 aa<|cd aa (fun av=> ?_) fun av=> ?_;have heq:d[i - 1]! =d[i]! :=ab;refine aH 4 aa<|p (wT bX aa aa ab)<|aQ 10 aa<|lp (fun V an ai=> ∃ (k i2:Nat) (C:Array Nat),(1≤k∧k < i+i2∧1≤i2∧i2≤n - i)∧(C.toList.drop k=d.toList.drop k)∧(C.toList.take k=iY (d.toList.take<|i+i2))∧(ai.ownsRow B 95 1 (.slice A n cp) n<|LE bf C)∧(Md (fun q=>(bQ A n cp).ownBlock=some q) w ai)∧(Sl an [(0,.slice A n cp),(3,ay k),(4,.slice (iy A cp i 1) (n - i) (cp - i)),(5,ay i2)])∧(n - i2=V)) _ ⟨i,1,d,ab,aa,(by rw [x3 ab ab,if_pos heq,Y]),(aU hO<|Md.trans J (Md.refl _ _).drew),((Md.trans J (Md.refl _ _).drew).mono fun _ _ h=>h.elim),aa,aa⟩ ?_;rintro V an ai ⟨k,i2,C,hk,O,Z,G,ag,aM,rfl⟩;refine bA aM ?_;have aO:=gi G;refine bq 9 aa<|cd aa (fun aw=> ?_) fun aw=> ?_;refine bz 5 aa<|dZ fun E=>aT [0,1] aa E<|bP 2 aa (a6 bX aa aa ab<|aB.ok (uC G)<|Ca ab) E<|cw 3 aa E (B9 (j:=i2) (uC G) ab)<|aT [4,5] aa E<|bP 6 aa (dQ<|i2 - 1) E<|bP 7 aa (a6 bX aa aa ab<|aB.ok (uC G)<|Ca ab) E<|cw 8 aa E (B9 (j:=i2 - 1) (uC G) ab)<|aT [9] aa E<|hn aj<|dz 1 aa<|cd aa (fun ax=> ?_) fun ax=> ?_;have ac:=aU G E;have g1:=x6 O (show k≤i+i2 by omega);have g2:=x6 O (show k≤i+(i2 - 1) by omega);have aF:¬d[i+i2 - 1]! =d[i+i2]! :=by rw [show i+i2 - 1=i+(i2 - 1) by omega,← g1,← g2]; omega
 exact aH 6 aa<|p (a6 bX aa aa ab<|aB.ok (uC ac)<|Ca ab)<|p (ld1 aa<|B9 (j:=i2) (uC ac) ab)<|p (a6 bX aa aa ab<|aB.ok ((aX ac).2)<|cy ab)<|e<|gP (u:=C[i+i2]!) (k) ac gF aa aa aa ab fun aV ao aI=>au 4 aa<|p (bC<|k+1)<|au 6 aa<|p (bC<|i2+1)<|aC 2 aa<|tn<|⟨_,ab,k+1,i2+1,C.setIfInBounds k C[i+i2]!,ab,(by rw [set_drop ab]; have h3:=congrArg (List.drop 1) O; rwa [tA,tA] at h3),(by rw [Dd ab,Z,show i+(i2+1)=i+i2+1 from aa,x3 ab ab,if_neg aF,g1]),aI,(Md.trans ag<|Md.trans (E.mono fun _ _ h=>h.elim) ao),aa,aa⟩
 have g1:=x6 O (show k≤i+i2 by omega);have g2:=x6 O (show k≤i+(i2 - 1) by omega);have aD:d[i+i2 - 1]! =d[i+i2]! :=by rw [show i+i2 - 1=i+(i2 - 1) by omega,← g1,← g2]; omega
 exact aH 5 aa<|p (bC<|i2+1)<|aC 2 aa<|tn<|⟨_,ab,k,i2+1,C,ab,O,(by rw [Z,show i+(i2+1)=i+i2+1 from aa,x3 ab ab,if_pos aD]),(aU G (Md.refl _ _).drew),ag.drew,aa,aa⟩
 refine aJ 2 aa<|bK<|dq 6 aa<|p (wT bX aa aa ab)<|e<|Pm (k:=k) Le ZP aa G aa aa ab fun aW ap aK=>au 6 aa<|p (uy bX aa aa ab)<|aC 6 aa<|tr<|bc 2 aa<|aR aa ?_;have ae:d.toList.take (i+i2)=d.toList:=eY<|by rw [uF]; omega
 rw [ae] at Z;have aE:k=(iY d.toList).length:=by rw [← Z,dJ,uF]; omega
 refine ⟨k,aa,aE,?_,Md.trans ag ap⟩;have hT:=JA aK (show k≤n by omega)<|CL hO ab;rw [Nat.mul_one,List.take_append,eY (l:=(LE bf C).take k) (by rw [dJ]; omega),dJ,vT,show k - min k C.size=0 by omega,pH,ez,Yp,Z] at hT;exact hT;have aG:¬d[i - 1]! =d[i]! :=ab;exact aJ 8 aa<|tn<|⟨_,ab,i+1,ab,(by rw [x3 ab ab,if_neg aG,Y,zw ab]),(Md.trans J (Md.refl _ _).drew),aa,aa⟩
 refine aJ 2 aa<|bK<|bc 9 aa<|aR aa ?_;rw [show d.toList.take i=d.toList from eY (by rw [uF]; omega)] at Y;exact ⟨n,aa,by rw [Y,uF]; omega,by rw [Y]; exact aU hO J,J.mono fun _ _ h=>h.elim⟩
theorem Js (l:List Nat) (a:Option bF) (c:Nat) (w:ak) (J:aB w.heap a (l.map bf)) (ac:a=none→l.length=0) (ae:l.length≤255):
 ba az 206 (a7 [.slice a l.length c]) w (fun v w'=>bo w' w.heap.size 95 1 v (kL l).length ((kL l).map bf)∧Wk w w'):=by
 refine enter func206 aa ntmps206 aa<|bg 8 aa<|e<|aM (tV a l.length c (l.map bf) _ J (by simp) ac (tO l) ab) aa ?_;rintro v5 al ⟨A,O⟩;obtain ⟨C,E,rfl⟩:=cz A;rw [UN] at A;refine p bm<|au 5 aa<|e<|aM (XK l.toArray w.heap.size l.length E C _ A ae) aa ?_;rintro aj am ⟨d1,rfl,ag,ah,G,Y⟩;refine au 5 aa<|e<|aM (PS d1 w.heap.size l.length E C _ G ab) aa ?_;rintro v9 ai ⟨k,rfl,hk,I,Z⟩;have V:Wk w ai:=Wk.own (Wk.own O A Y<|cE _) G Z<|cE _;refine p bm<|aC 3 aa<|aR aa ?_;rw [XJ ag ah] at hk I;exact ⟨by rw [← hk]; exact I,V⟩
theorem Df (b:UInt8) (w:ak):
 ba az 265 (a7 [.int .u8 b.toNat]) w (fun v w'=>v= .bool (jD b)∧Wk w w'):=by
 refine enter func265 aa ntmps265 aa<|bg 10 aa<|gs (t:=5) aa (fun E=> ?_) fun E=> ?_;refine au 4 aa<|gs (t:=9) aa (fun G=> ?_) fun G=> ?_;refine au 4 aa<|gs (t:=13) aa (fun A=> ?_) fun A=> ?_;refine au 4 aa<|gs (t:=17) aa (fun C=> ?_) fun C=> ?_;exact aC 7 aa<|aR aa<|⟨by show bR (decide _)=_; rw [p5]; exact bv (by constructor <;> intro h <;> first | exact ⟨ab,ab,ab,ab,h⟩ | exact h.2.2.2.2),Md.refl _ _⟩
 exact au 3 aa<|p bm<|aC 3 aa<|aR aa<|⟨by show bR false =_; rw [p5,decide_eq_false ab],Md.refl _ _⟩
 exact au 3 aa<|p mv<|au 3 aa<|p bm<|aC 3 aa<|aR aa<|⟨by show bR false =_; rw [p5,decide_eq_false ab],Md.refl _ _⟩
 exact au 3 aa<|p mv<|au 3 aa<|p mv<|au 3 aa<|p bm<|aC 3 aa<|aR aa<|⟨by show bR false =_; rw [p5,decide_eq_false ab],Md.refl _ _⟩
 exact au 3 aa<|p mv<|au 3 aa<|p mv<|au 3 aa<|p mv<|au 3 aa<|p bm<|aC 3 aa<|aR aa<|⟨by show bR false =_; rw [p5,decide_eq_false ab],Md.refl _ _⟩
theorem IC (k:Nat) (w:ak):
 ba az 236 (a7 [ay k]) w (fun v w'=>v= .bool (decide (1≤k∧k≤3))∧Wk w w'):=by
 refine enter func236 aa ntmps236 aa<|bg 10 aa<|gs (t:=5) aa (fun A=> ?_) fun A=> ?_;exact aC 7 aa<|aR aa<|⟨by show bR (decide _)=_; exact bv ab,Md.refl _ _⟩
 exact au 3 aa<|p bm<|aC 3 aa<|aR aa<|⟨by show bR false =_; rw [decide_eq_false ab],Md.refl _ _⟩
end Go.Hb.fZ
end
section
namespace Go.Hb
open Go.Hb.dP
open Go.Hb.fZ
theorem Hj {kind:Nat} {s:List UInt8} (h:kind=1∧s.length=1∧jD (s.getD 0 0)=true):eZ kind s=(s.getD 0 0).toNat:=by unfold eZ; rw [if_pos h.1,if_pos h.2]
theorem Hk {kind:Nat} {s:List UInt8} (h:kind=2∧s.length=2∧jD (s.getD 0 0)=true∧jD (s.getD 1 0)=true):eZ kind s=256 *(s.getD 0 0).toNat+(s.getD 1 0).toNat:=by unfold eZ; rw [if_neg ab,if_pos h.1,if_pos h.2]
theorem Bt {kind:Nat} {s:List UInt8} (h:kind=3):eZ kind s=(ee s 65535).1:=by unfold eZ; rw [if_neg ab,if_neg ab]
theorem ud {kind:Nat} {s:List UInt8} (h:kind=1∨kind=2) (h1:¬(kind=1∧s.length=1∧jD (s.getD 0 0)=true)) (h2:¬(kind=2∧s.length=2∧jD (s.getD 0 0)=true∧jD (s.getD 1 0)=true)):eZ kind s=0:=by
 unfold eZ;rcases h with h | h
 · rw [if_pos h,if_neg (fun h3=>h1 ⟨h,h3⟩)]
 · rw [if_neg ab,if_pos h,if_neg (fun h3=>h2 ⟨h,h3⟩)]
theorem TY {c:UInt8} {l:List UInt8} (h:0 < l.count c):¬fF c l < 0:=by
 intro h1;exact Is h1<|List.idxOf_lt_length_iff.2<|zX.1 h
theorem WC (n:Nat) (x:List UInt8):ku n (str x)=(ku n x).map str:=by rw [List.map_replicate]
theorem Kp {A:List (List UInt8)} {m:Nat} {x:List UInt8} (h:0 < m):((A++ku m []).map str).set A.length (str x)=((A++ [x])++ku (m - 1) []).map str:=by
 obtain ⟨m,rfl⟩:∃ k,m=k+1:=⟨m - 1,ab⟩
 rw [← List.map_set,List.set_append_right _ _ (cE _),Nat.sub_self,List.replicate_succ,List.set_cons_zero,Nat.add_sub_cancel,eX]; rfl
theorem Bj {kind:Nat} {ps:List (List UInt8)} {i:Nat} (h:i < ps.length) (h1:¬∃ x∈ps.take i,eZ kind x=0) (h2:eZ kind (ps.getD i [])≠0):¬∃ x∈ps.take (i+1),eZ kind x=0:=by
 rw [fN ps i [] h];rintro ⟨x,A,h3⟩;rcases List.mem_append.1 A with A | A
 · exact h1 ⟨x,A,h3⟩
 · rw [List.mem_singleton] at A; subst A; exact h2 h3
theorem yu {α:Type} {l:List α} {i:Nat} {d:α} (h:i < l.length):l.getD i d∈l:=by
 rw [cH,bY h]; exact List.getElem_mem h
theorem Hl (kind:Nat) (s:List UInt8) (w:ak) (hk:kind=1∨kind=2∨kind=3) (hs:s.length≤1048576):
 ba az 238 (a7 [ay kind,str s]) w (fun v w'=>v=bf (eZ kind s)∧Wk w w'):=by
 refine enter func238 aa ntmps238 aa<|bq 7 aa ?_;refine ei (fun ah ag=> ∃ (G:Bool),(G=decide (kind=1∧s.length=1∧jD (s.getD 0 0)=true))∧(Wk w ag)∧(Sl ah [(0,ay kind),(1,str s),(7,.bool G)])) ?_ ?_;refine bg 4 aa<|gs (t:=10) aa (fun ap=> ?_) fun ap=> ?_;refine au 5 aa<|gs (t:=15) aa (fun aq=> ?_) fun aq=> ?_;refine au 1 aa<|bI aa (jz 0 u9 aa aa ab)<|eg aa aa aa<|aM (Df (s.getD 0 0) _) aa ?_;rintro aE aG ⟨rfl,al⟩;exact aC 3 aa<|tn<|⟨jD (s.getD 0 0),(by rw [sg,decide_eq_true_iff]; exact ⟨fun h=>⟨ab,ab,h⟩,fun h=>h.2.2⟩),al,aa⟩
 exact au 4 aa<|p bm<|aC 1 aa<|tn<|⟨false,((decide_eq_false fun h=>by omega).symm),(Md.refl _ _),aa⟩
 exact au 4 aa<|p mv<|au 4 aa<|p bm<|aC 1 aa<|tn<|⟨false,((decide_eq_false fun h=>by omega).symm),(Md.refl _ _),aa⟩
 rintro ah ag ⟨G,ac,A,aA⟩;refine bA aA<|cb aa (fun O=> ?_) fun O=> ?_;have V:kind=1∧s.length=1∧jD (s.getD 0 0)=true :=of_decide_eq_true<|ac ▸ O;exact aH 3 aa<|p (jz 0 u9 aa aa ab)<|p (l6 zz qU aa<|uL<|by have :=js (s.getD 0 0); omega)<|aC 6 aa<|aR aa<|⟨by rw [Hj V]; rfl,A⟩
 have V:¬(kind=1∧s.length=1∧jD (s.getD 0 0)=true):=of_decide_eq_false<|ac ▸ O;refine ei (fun ai wB=> ∃ (I:Bool),(I=decide (kind=2∧s.length=2∧jD (s.getD 0 0)=true∧jD (s.getD 1 0)=true))∧(Wk w wB)∧(Sl ai [(0,ay kind),(1,str s),(23,.bool I)])) ?_ ?_;refine bg 4 aa<|gs (t:=26) aa (fun av=> ?_) fun av=> ?_;refine au 5 aa<|gs (t:=31) aa (fun ax=> ?_) fun ax=> ?_;refine au 1 aa<|bI aa (jz 0 u9 aa aa ab)<|eg aa aa aa<|aM (Df (s.getD 0 0) _) aa ?_;rintro aF aI ⟨rfl,Z⟩;refine au 2 aa<|gb (t:=36) aa (fun E=> ?_) fun E=> ?_;refine au 1 aa<|bI aa (jz 1 u9 aa aa ab)<|eg aa aa aa<|aM (Df (s.getD 1 0) _) aa ?_;rintro v39 aK ⟨rfl,am⟩;exact aC 3 aa<|tn<|⟨jD (s.getD 1 0),(by rw [sg,decide_eq_true_iff]; exact ⟨fun h=>⟨ab,ab,E,h⟩,fun h=>h.2.2.2⟩),(Md.trans A<|Md.trans Z am),aa⟩
 exact au 4 aa<|p bm<|aC 1 aa<|tn<|⟨false,((decide_eq_false fun h=>by rw [h.2.2.1] at E; cases E).symm),(Md.trans A Z),aa⟩
 exact au 4 aa<|p mv<|au 4 aa<|p bm<|aC 1 aa<|tn<|⟨false,((decide_eq_false fun h=>by omega).symm),A,aa⟩
 exact au 4 aa<|p mv<|au 4 aa<|p mv<|au 4 aa<|p bm<|aC 1 aa<|tn<|⟨false,((decide_eq_false fun h=>by omega).symm),A,aa⟩
 rintro ai wB ⟨I,ae,A,aB⟩;refine bA aB<|cb aa (fun J=> ?_) fun J=> ?_;have Y:kind=2∧s.length=2∧jD (s.getD 0 0)=true∧jD (s.getD 1 0)=true :=of_decide_eq_true<|ae ▸ J;have g0:=js<|s.getD 0 0;have g1:=js<|s.getD 1 0;exact bz 1 aa<|dZ fun C=>aT [0] aa C<|bP 1 aa (jz 0 u9 aa aa ab) C<|bP 2 aa (l6 zz qU aa<|uL ab) C<|bP 3 aa (shl aa aa aw<|Xs g0) C<|aT [4] aa C<|bP 5 aa (jz 1 u9 aa aa ab) C<|bP 6 aa (l6 zz qU aa<|uL ab) C<|bP 7 aa (Ff aa aa<|VL g0 g1) C<|aT [8] aa C<|hn aj<|bc 4 aa<|aR aa<|⟨by rw [Hk Y]; rfl,A.drew⟩
 have Y:¬(kind=2∧s.length=2∧jD (s.getD 0 0)=true∧jD (s.getD 1 0)=true):=of_decide_eq_false<|ae ▸ J;refine bz 7 aa<|cd aa (fun ao=> ?_) fun ao=> ?_;refine aH 3 aa<|e<|aM (yQ s 65535 _ hs aw) aa ?_;rintro v54 aL ⟨rfl,an⟩;have aD:=Jm s;exact p mv<|au 9 aa<|p (l6 zz r9 aa<|uL ab)<|aC 6 aa<|aR aa<|⟨by rw [Bt ab]; rfl,Md.trans A an⟩
 exact aJ 9 aa<|aR aa<|⟨by rw [ud ab V Y]; rfl,A⟩
theorem VH (kind:Nat) (s:List UInt8) (w:ak) (hk:kind=1∨kind=2∨kind=3) (hs:s.length≤1048576):
 ba az 233 (a7 [ay kind,str s]) w (fun v w'=>v= .tuple #[bf (ir kind s).1,ay ((ir kind s).2)]∧Wk w w'):=by
 refine enter func233 aa ntmps233 aa<|bg 10 aa<|e<|aM (IC kind _) aa ?_;rintro G J ⟨rfl,C⟩;refine aQ 3 aa<|cf (by rw [decide_eq_true ab]; rfl)<|aH 6 aa<|e<|aM (Hl kind s _ hk hs) aa ?_;rintro v12 I ⟨rfl,A⟩;refine aQ 10 aa<|cd aa (fun E=> ?_) fun E=> ?_;exact aJ 8 aa<|f2 aa aa aa<|⟨by unfold ir; rw [if_pos (show eZ kind s=0 by omega)]; rfl,Md.trans C A⟩
 exact aJ 10 aa<|f2 aa aa aa<|⟨by unfold ir; rw [if_neg (show ¬eZ kind s=0 by omega)]; rfl,Md.trans C A⟩
theorem P2 (s:List UInt8) (c:UInt8) (w:ak):
 ba az 298 (a7 [str s,str [c]]) w (fun v w'=>v=ay (s.count c)∧Wk w w'):=by
 refine enter func298 aa ntmps298 aa<|bq 13 aa<|cd aa (fun h=>absurd h<|by simp) fun C=>bz 10 aa<|cd aa (fun A=> ?_) fun h=>absurd aa h;exact aH 4 aa<|p (jz 0 u9 aa aa<|by simp)<|p (FN (PO s c _) aa)<|aC 5 aa<|aR aa<|⟨aa,Md.refl _ _⟩
theorem Sk (s:List UInt8) (w:ak) (hs:s.length≤1048576):
 ba az 280 (a7 [str s,str [44],.int .i64 0,.int .i64 (-1)]) w (fun v w'=>bo w' w.heap.size 9 1 (v) (fW 44 [] s).length ((fW 44 [] s).map str)∧Wk w w'):=by
 have aL:=uY (a:=(44:UInt8)) (l:=s);have aA:=Dl 44 s [];refine enter func280 aa ntmps280 aa<|bq 12 aa<|cd aa (fun h=>absurd h aw) fun aG=>bz 9 aa<|cd aa (fun h=>absurd h<|by simp) fun aI=>bz 9 aa<|cd aa (fun aK=> ?_) fun h=>absurd aw h;refine aH 3 aa<|e<|aM (P2 s 44 _) aa ?_;rintro v23 aS ⟨rfl,Y⟩;refine p (bC<|s.count 44 +1)<|au 8 aa<|p (bC<|s.length+1)<|p (mn aa aa)<|au 6 aa<|e<|Va (n:=s.count 44 +1) (zv:=str []) gk ZJ aa (show gq .i64 (min ((s.count 44 +1:Nat):Int) ((s.length+1:Nat):Int))=_ from iv ab) (show gq .i64 (min ((s.count 44 +1:Nat):Int) ((s.length+1:Nat):Int))=_ from iv ab) ab (by unfold maxLen; omega) fun J aT aF am aq=> ?_;have Z:=aq w.heap.size<|by have :=Y.size; omega
 rw [WC] at Z;refine au 6 aa<|p (dQ<|s.count 44)<|aQ 10 aa<|lp (fun O ag I=> ∃ (i:Nat) (A:List (List UInt8)) (r:List UInt8),(A.length=i)∧(r.count 44 +i=s.count 44∧r.length≤s.length)∧(A++fW 44 [] r=fW 44 [] s)∧(bo I w.heap.size 9 1 (.slice (some ⟨J,0,none⟩) (s.count 44 +1)<|s.count 44 +1) (s.count 44 +1)<|(A++ku (s.count 44 +1 - i) []).map str)∧(Wk w I)∧(Sl ag [(0,str r),(1,str [44]),(2,.int .i64 0),(3,ay (s.count 44)),(9,.slice (some ⟨J,0,none⟩) (s.count 44 +1) (s.count 44 +1)),(10,ay i)])∧(r.length=O)) _ ⟨0,[],s,aa,(ab),aa,Z,(Md.trans Y am.md),aa,aa⟩ ?_;rintro O ag I ⟨i,A,r,hi,aO,hd,C,V,ax,rfl⟩;refine bA ax ?_;have aP:=uY (a:=(44:UInt8)) (l:=r);refine bq 8 aa<|cd aa (fun an=> ?_) fun an=> ?_;refine aH 7 aa<|e<|aM (TL r 44 _) aa ?_;rintro v39 aV ⟨rfl,E⟩;refine aQ 10 aa<|cd aa (fun h=>absurd h<|TY ab) fun ao=>bz 3 aa ?_;have ac:=sR (c:=(44:UInt8)) (l:=r) ao;have aN:[(44:UInt8)].length=1:=rfl;refine aH 6 aa<|p (bC<|r.idxOf 44)<|p (r6 u9 aa aa ab)<|p (a6 cM aa aa ab<|aB.ok ((aX<|aU C E).2)<|bS<|by rw [bG,pE]; omega)<|e<|uB (j:=i) (u:=str<|r.take<|r.idxOf 44) (aU C E) l7 aa aa aa ab ab fun aD aj ae=> ?_;have ah:Wk w aD:=Wk.own (Md.trans V E) (aU C E) aj<|cE _;rw [← hi,Kp ab,hi] at ae;exact au 8 aa<|p (bC<|r.idxOf 44 +1)<|p (mS u9 aa aa ab)<|au 5 aa<|p (bC<|i+1)<|aC 3 aa<|tn<|⟨_,by rw [fP]; omega,i+1,A++ [r.take (r.idxOf 44)],r.drop (r.idxOf 44 +1),(by rw [bG,hi]; rfl),(by have :=Qj ac.2; rw [fP]; omega),(by rw [eX,← hd,KG 44 r [] ac.2]; rfl),(by rw [show s.count 44 +1 - (i+1)=s.count 44 +1 - i - 1 by omega]; exact ae),ah,aa,aa⟩
 refine aJ 2 aa<|bK<|dq 7 aa<|p (a6 cM aa aa ab<|aB.ok ((aX C).2)<|bS<|by rw [bG,pE]; omega)<|e<|uB (j:=i) (u:=str r) C l7 aa aa aa ab ab fun aE al G=> ?_;have ai:Wk w aE:=Wk.own V C al<|cE _;rw [← hi,Kp ab,hi] at G;refine au 6 aa<|p (bC<|i+1)<|p (uy cM aa aa ab)<|aC 4 aa<|aR aa ?_;have av:¬(44:UInt8)∈r:=fun h=>by have :=zX.2 h; omega
 have ap:A++ [r]=fW 44 [] s:=by rw [← hd,XP 44 r [] av]; rfl
 rw [show s.count 44 +1 - i - 1=0 by omega,List.replicate_zero,ez,ap] at G;exact ⟨by rw [aA,show s.count 44 +1=i+1 by omega] at*; exact G,ai⟩
theorem Yc (s:List UInt8) (w:ak) (hs:s.length≤1048576):
 ba az 264 (a7 [str s,str [44]]) w (fun v w'=>bo w' w.heap.size 9 1 (v) (fW 44 [] s).length ((fW 44 [] s).map str)∧Wk w w'):=by
 exact enter func264 aa ntmps264 aa<|bg 9 aa<|e<|aM (Sk s _ hs) aa fun C E A=>p bm<|aC 3 aa<|aR aa<|A
theorem We (kind:Nat) (s:List UInt8) (w:ak) (hk:kind=1∨kind=2∨kind=3) (hs:s.length≤1048576):
 ba az 237 (a7 [ay kind,str s]) w (fun v w'=>bo w' w.heap.size 9 1 (v) (ea kind s).length ((ea kind s).map str)∧Wk w w'):=by
 refine enter func237 aa ntmps237 aa<|bq 12 aa<|cd aa (fun al=> ?_) fun al=> ?_;refine aH 3 aa<|e<|aM (Yc s _ hs) aa fun v10 aF ai=>p bm<|aC 4 aa<|aR aa ?_;unfold ea; rw [if_pos ab]; exact ai;refine bz 14 aa<|lp (fun J Z I=> ∃ (i:Nat) (A:List (List UInt8)) (C:ag),(i≤s.length+kind∧A.length≤i)∧(A++chunks kind (s.drop i)=chunks kind s)∧(bo I w.heap.size 9 1 (C) (A).length<|(A).map str)∧(Wk w I)∧(Sl Z [(0,ay kind),(1,str s),(5,C),(6,ay i)])∧(s.length - i=J)) _ ⟨0,[],.slice none 0 0,(by simp),aa,(dE _ _ _ _),(Md.refl _ _),aa,aa⟩ ?_;rintro J Z I ⟨i,A,C,hi,hd,G,O,aq,rfl⟩;refine bA aq<|bq 9 aa<|cd aa (fun aj=> ?_) fun aj=> ?_;have an:s.drop i≠[]:=fun h=>by have :=congrArg jr h; rw [fP,gr] at this; omega
 refine aH 5 aa<|ep (C)<|au 4 aa<|p (bC<|i+kind)<|au 2 aa<|p (mn aa aa)<|p (mR u9 aa aa aa ab)<|e<|gv gk aa aa fun ax aw aA E ac=> ?_;have V:Wk w aw:=Md.trans O E.md;refine e<|ap gk (aU G E.md) aa (by have :=V.size; omega) aa (aB.dT ac) (aa) (aa) ab ab fun av aG Y ah aE aD=> ?_;have ae:=Wk.own V (aU G E.md) ah<|cE _;rw [OY] at Y;have ao:=nB Y;exact p bm<|au 6 aa<|p (bC<|i+kind)<|aC 2 aa<|tn<|⟨_,ab,i+kind,A++ [(s.drop i).take kind],av,(by rw [bG,fg]; omega),(by rw [← hd,xS (k:=kind) ab an,eX,tA]; rfl),ao,ae,aa,aa⟩
 refine aJ 2 aa<|bK<|dq 4 aa<|ep (C)<|p (nT (C) aa)<|aC 3 aa<|aR aa ?_;have am:A=ea kind s:=by unfold ea; rw [if_neg ab,← hd,iR ab,xT,ez]
 exact ⟨by rw [← am]; exact G,O⟩
theorem HF (kind:Nat) (s:List UInt8) (w:ak) (hk:kind=1∨kind=2∨kind=3) (hs:s.length≤1048576):
 ba az 200 (a7 [ay kind,str s]) w (fun v w'=>(∃ a,v= .tuple #[a,ay ((ed kind s).2)]∧bo w' w.heap.size 95 1 a (ed kind s).1.length ((ed kind s).1.map bf))∧Wk w w'):=by
 refine enter func200 aa ntmps200 aa<|bg 10 aa<|e<|aM (IC kind _) aa ?_;rintro v11 a8 ⟨rfl,al⟩;refine aQ 3 aa<|cf (by rw [decide_eq_true ab]; rfl)<|bz 9 aa<|cd aa (fun E=> ?_) fun E=> ?_;exact aJ 8 aa<|f2 aa aa aa<|⟨⟨.slice none 0 0,by unfold ed; rw [if_pos E]; rfl,by unfold ed; rw [if_pos E]; exact dE _ _ _ _⟩,al⟩
 refine aH 12 aa<|e<|aM (We kind s _ hk hs) aa ?_;rintro v17 J ⟨ao,aF⟩;obtain ⟨ax,aD,rfl⟩:=cz ao;have an:=(aX ao).2;have a4:=JG (kind:=kind) (s:=s) ab;have V:Wk w J:=Md.trans al aF;refine aQ 5 aa<|lp (fun aj aw ah=> ∃ (i:Nat) (O:ag),(i≤(ea kind s).length)∧(¬∃ x∈(ea kind s).take i,eZ kind x=0)∧(bo ah J.heap.size 95 1 O (((ea kind s).take i).map<|eZ kind).length<|(((ea kind s).take i).map<|eZ kind).map bf)∧(Wk J ah)∧(Sl aw [(0,ay kind),(1,str s),(6,O),(17,.slice ax (ea kind s).length aD),(18,ay ((ea kind s).length)),(19,ay i)])∧((ea kind s).length - i=aj)) _ ⟨0,.slice none 0 0,ab,(by rintro ⟨x,aV,_⟩; simp at aV),(dE _ _ _ _),(Md.refl _ _),aa,aa⟩ ?_;rintro aj aw ah ⟨i,O,hi,G,I,C,aS,rfl⟩;refine bA aS ?_;have a3:(((ea kind s).take i).map<|eZ kind).length≤i:=by rw [fC,dJ]; omega
 refine bq 6 aa<|cd aa (fun aL=> ?_) fun aL=> ?_;refine aH 6 aa<|p (a6 cM aa aa ab<|aB.ok (an.wk C)<|bS ab)<|p (ld1 aa<|bW.get (i:=i) (an.wk C) ab)<|au 7 aa<|e<|aM (Hl kind ((ea kind s).getD i []) _ hk<|by have :=JH (kind:=kind) ab (yu (d:= []) (show i < (ea kind s).length by omega)); omega) aa ?_;rintro v25 a9 ⟨rfl,Y⟩;refine aQ 10 aa<|cd aa (fun aN=> ?_) fun aN=> ?_;refine aJ 10 aa<|tr<|bc 2 aa<|f2 aa aa aa ?_;have A:ed kind s=([],31):=by unfold ed; rw [if_neg E,if_pos ⟨_,yu (d:= []) (show i < (ea kind s).length by omega),ab⟩]
 exact ⟨⟨.slice none 0 0,by rw [A]; rfl,by rw [A]; exact dE _ _ _ _⟩,Md.trans V<|Md.trans C Y⟩;refine aH 3 aa<|ep (O)<|au 1 aa<|e<|gv zl aa aa fun aZ aW a0 ac aE=> ?_;have am:Wk J aW:=Md.trans (Md.trans C Y) ac.md;refine e<|ap zl (aU (aU I Y) ac.md) aa (by have :=am.size; omega) aa (aB.dT aE) (aa) (aa) ab ab fun v31 aY aP aK a5 a1=> ?_;have aG:=Wk.own am (aU (aU I Y) ac.md) aK<|cE _;have aR:bo aY J.heap.size 95 1 v31 (((ea kind s).take<|i+1).map<|eZ kind).length ((((ea kind s).take<|i+1).map<|eZ kind).map bf):=by
  rw [fN _ i [] ab,gS,bG,gS]; exact aP
 exact p bm<|aC 7 aa<|tn<|⟨_,ab,i+1,v31,ab,(Bj ab G ab),aR,aG,aa,aa⟩
 refine aJ 2 aa<|bK<|dz 4 aa ?_;obtain ⟨ai,aA,rfl⟩:=cz I;have aT:(((ea kind s).take i).map<|eZ kind).length=(ea kind s).length:=by rw [fC,dJ]; omega
 have Z:(ea kind s).take i=(ea kind s):=eY ab;have aO:ai=none→(((ea kind s).take i).map<|eZ kind).length=0:=fun h=>by obtain ⟨a2,c2,av,_,_,h3⟩:=Rd.j5 I; simp only [mq] at av; exact h3<|av.1 ▸ h
 refine bz 6 aa<|cd aa (fun ae=> ?_) fun ae=> ?_;refine aJ 8 aa<|f2 aa aa aa ?_;rw [Z] at G aT;have A:ed kind s=([],32):=by unfold ed; rw [if_neg E,if_neg G,if_pos (by rw [Z,fC] at ae; omega)]
 exact ⟨⟨.slice none 0 0,by rw [A]; rfl,by rw [A]; exact dE _ _ _ _⟩,Md.trans V C⟩;refine aH 5 aa<|e<|aM (Js (((ea kind s).take i).map<|eZ kind) ai aA _ (aX I).2 aO<|by rw [fC,dJ] at*; omega) aa ?_;rintro v37 bb ⟨aq,aI⟩;refine p bm<|aC 4 aa<|f2 aa aa aa ?_;rw [Z] at G aq;have A:ed kind s=(kL ((ea kind s).map<|eZ kind),0):=by unfold ed; rw [if_neg E,if_neg G,if_neg (by rw [Z,fC] at ae; omega)]
 exact ⟨⟨v37,by rw [A]; rfl,by rw [A]; exact eR aq<|by have :=V.size; have :=C.size; omega⟩,Md.trans V<|Md.trans C aI⟩
end Go.Hb
end
section
namespace Go.Hb.kA
open Go.Hb.dP
theorem VA {b:UInt8} (h:¬(b.toNat:Int)=10):b≠10:=by rintro rfl; exact h rfl
theorem TU {b:UInt8} (h:(b.toNat:Int)=10):b=10:=lC.1 (by have :(10:UInt8).toNat=10:=rfl; omega)
theorem TV {b:UInt8} (h:(b.toNat:Int)=13):b=13:=lC.1 (by have :(13:UInt8).toNat=13:=rfl; omega)
theorem VB {b:UInt8} (h:¬(b.toNat:Int)=13):b≠13:=by rintro rfl; exact h rfl
theorem BE (b:UInt8) (w:ak):
 ba az 191 (a7 [.int .u8 b.toNat]) w (fun v w'=>v= .bool (od b)∧Wk w w'):=by
 refine enter func191 aa ntmps191 aa<|bg 10 aa<|gs (t:=5) aa (fun A=> ?_) fun A=> ?_;exact au 3 aa<|p bm<|aC 3 aa<|aR aa<|⟨by show bR true =_; rw [rJ,decide_eq_true (.inl ab)],Md.refl _ _⟩
 exact aC 7 aa<|aR aa<|⟨by show bR (decide ((b.toNat:Int)=9))=_; rw [rJ]; exact congrArg bR (decide_eq_decide.2 ab),Md.refl _ _⟩
theorem RI (l:List UInt8) (w:ak) (a3:l.length≤1048576):
 ba az 126 (a7 [str l]) w (fun v w'=>bo w' w.heap.size 9 1 v (c7 [] l).length ((c7 [] l).map str)∧Wk w w'):=by
 refine enter func126 aa ntmps126 aa<|bq 24 aa<|lp (fun av ax ao=> ∃ (i:Nat) (fr:Int) (I:List UInt8) (A:List (List UInt8)) (v:ag),(i≤l.length)∧(lD l i fr I)∧(A++c7 I (l.drop i)=(c7 [] l))∧(Wk w ao)∧(bo ao w.heap.size 9 1 v (A).length<|(A).map str)∧(Sl ax [(0,str l),(3,v),(4,.int .i64 fr),(7,.int .i64 l.length),(8,.int .i64 i)])∧(l.length - i=av)) _ ⟨0,-1,[],[],.slice none 0 0,ab,lD.no,aa,(Md.refl _ _),(dE _ _ _ _),aa,aa⟩ ?_;rintro av ax ao ⟨i,fr,I,A,v,hi,G,hd,V,ah,aT,rfl⟩;refine bA aT ?_;have a0:A.length≤l.length+1:=by have h1:=congrArg jr hd; have h2:=vM l []; rw [bG] at h1; omega
 refine bq 6 aa<|cd aa (fun aL=> ?_) fun aL=> ?_;refine aH 15 aa<|p (e5 u9 aa aa ab)<|e<|aM (BE (l.getD i 0) _) aa ?_;rintro a8 aV ⟨rfl,aw⟩;have Y:Wk w aV:=Md.trans V aw;have a4:=Y.size;have ai:=aU ah aw;refine au 1 aa<|gb (t:=16) aa (fun E=> ?_) fun E=> ?_;refine aQ 6 aa<|cd aa (fun aI=> ?_) fun aI=> ?_;obtain ⟨fz,O,an⟩:=G.pos ab;refine aH 2 aa<|ep (v)<|au 3 aa<|p (mR u9 aa aa aa ab)<|e<|gv gk aa aa fun aW a9 aY ac ay=>e<|ap gk (aU ai ac.md) aa (by have :=ac.size; omega) aa (aB.dT ay) (aa) (aa) ab ab fun v26 bb aN aF a5 a1=> ?_;have aD:=Wk.own (Md.trans Y ac.md) (aU ai ac.md) aF<|cE _;have aO:=nB aN;exact p bm<|aC 12 aa<|tn<|⟨_,ab,i+1,-1,[],A++ [(l.take i).drop fr.toNat],v26,ab,lD.no,(by rw [drop_cons 0 ab,Hv E an,O] at hd; rw [eX]; exact hd),aD,aO,aa,aa⟩
 refine aH 4 aa<|p (e5 u9 aa aa ab)<|e<|aM (BE (l.getD i 0) _) aa ?_;rintro v31 aq ⟨rfl,J⟩;have Z:Wk w aq:=Md.trans Y J;have aj:=aU ai J;refine au 2 aa<|gb (t:=33) aa (fun C=> ?_) fun C=> ?_;refine aQ 6 aa<|cd aa (fun al=> ?_) fun al=> ?_;refine aJ 11 aa<|tn ?_;rw [E] at C; cases C;refine aJ 8 aa<|tn ?_;rw [E] at C; cases C;exact au 3 aa<|p bm<|aC 11 aa<|tn<|⟨_,ab,i+1,fr,I,A,v,ab,(by obtain ⟨h1,h2⟩:=G.neg ab; subst h1 h2; exact lD.no),(by obtain ⟨h1,h2⟩:=G.neg ab; subst h2; rw [drop_cons 0 ab,yn E] at hd; exact hd),Z,aj,aa,aa⟩
 refine au 3 aa<|p bm<|au 7 aa<|p (e5 u9 aa aa ab)<|e<|aM (BE (l.getD i 0) _) aa ?_;rintro v31 aq ⟨rfl,J⟩;have Z:Wk w aq:=Md.trans Y J;have aj:=aU ai J;refine au 2 aa<|gb (t:=33) aa (fun C=> ?_) fun C=> ?_;refine aQ 6 aa<|cd aa (fun al=> ?_) fun al=> ?_;exact aJ 11 aa<|tn<|⟨_,ab,i+1,i,[l.getD i 0],A,v,ab,(lD.begin ab),(by obtain ⟨h1,h2⟩:=G.neg ab; subst h2; rw [drop_cons 0 ab,Bz E] at hd; exact hd),Z,aj,aa,aa⟩
 exact aJ 8 aa<|tn<|⟨_,ab,i+1,fr,I++ [l.getD i 0],A,v,ab,(G.more ab ab),(by rw [drop_cons 0 ab,Bz E] at hd; exact hd),Z,aj,aa,aa⟩
 refine au 3 aa<|p bm<|aC 11 aa<|tn ?_;rw [E] at C; cases C;refine aJ 2 aa<|bK<|dz 9 aa<|cd aa (fun aK=> ?_) fun aK=> ?_;obtain ⟨fz,O,an⟩:=G.pos ab;refine aH 1 aa<|ep (v)<|au 2 aa<|p (mS u9 aa aa ab)<|e<|gv gk aa aa fun aX bc aZ ae aA=>e<|ap gk (aU ah ae.md) aa (by have :=ae.size; have :=V.size; omega) aa (aB.dT aA) (aa) (aa) ab ab fun v46 bd aP aG a6 a2=> ?_;have aE:=Wk.own (Md.trans V ae.md) (aU ah ae.md) aG<|cE _;have aS:=nB aP;refine p bm<|au 4 aa<|p mv<|p bm<|aC 3 aa<|aR aa ?_;have am:A++ [l.drop fr.toNat]=(c7 [] l):=by rw [← hd,show l.drop i= [] from iR ab,Hw an,O,eY ab]
 exact ⟨by rw [← am]; exact aS,aE⟩;obtain ⟨fz,O⟩:=G.neg ab;refine aH 4 aa<|ep (v)<|p (nT (v) aa)<|aC 3 aa<|aR aa ?_;have am:A=(c7 [] l):=by rw [← hd,iR ab,O,BA,ez]
 exact ⟨by rw [← am]; exact ah,V⟩
theorem WL (l:List UInt8) (w:ak) (aV:l.length≤1048576):
 ba az 148 (a7 [str l]) w (fun v w'=>bo w' w.heap.size 9 1 v (c7 [] l).length ((c7 [] l).map str)∧Wk w w'):=by
 refine enter func148 aa ntmps148 aa<|bq 17 aa<|lp (fun O aD am=> ∃ (i:Nat) (C:List (List UInt8)) (v:ag),(i≤l.length)∧(C++c7 [] (l.drop i)=(c7 [] l))∧(Wk w am)∧(bo am w.heap.size 9 1 v (C).length<|(C).map str)∧(Sl aD [(0,str l),(3,v),(4,.int .i64 i)])∧(l.length - i=O)) _ ⟨0,[],.slice none 0 0,ab,aa,(Md.refl _ _),(dE _ _ _ _),aa,aa⟩ ?_;rintro O aD am ⟨i,C,v,hi,hd,G,I,aO,rfl⟩;refine bA aO ?_;have aS:C.length≤l.length+1:=by have h1:=congrArg jr hd; have h2:=vM l []; rw [bG] at h1; omega
 refine bq 9 aa<|cd aa (fun aK=> ?_) fun aK=> ?_;refine aH 8 aa<|p (e5 u9 aa aa ab)<|au 2 aa<|gs (t:=14) aa (fun aL=> ?_) fun aL=> ?_;exact aC 18 aa<|tn<|⟨_,ab,i+1,C,v,ab,(by rw [drop_cons 0 ab,yn (by rw [rJ]; exact decide_eq_true<|.inl ab)] at hd; exact hd),G,I,aa,aa⟩
 refine au 2 aa<|bI aa (e5 u9 aa aa ab)<|aQ 4 aa<|cd aa (fun aG=> ?_) fun aG=> ?_;exact aJ 10 aa<|tn<|⟨_,ab,i+1,C,v,ab,(by rw [drop_cons 0 ab,yn (by rw [rJ]; exact decide_eq_true<|.inr ab)] at hd; exact hd),G,I,aa,aa⟩
 have an:od (l.getD i 0)=false :=by rw [rJ]; exact decide_eq_false ab
 refine bz 10 aa<|lp (fun O aE aA=> ∃ (j:Nat),(i≤j∧j≤l.length)∧(aA=am)∧(C++c7 ((l.take j).drop i) (l.drop j)=(c7 [] l))∧(Sl aE [(0,str l),(3,v),(4,.int .i64 i),(5,.int .i64 j)])∧(l.length - j=O)) _ ⟨i,ab,aa,(by rw [iR (by rw [dJ]; omega)]; exact hd),aa,aa⟩ ?_;rintro O aE aA ⟨j,aT,aF,E,aP,rfl⟩;refine bA aP ?_;subst aF;refine bg 8 aa<|gs (t:=27) aa (fun aM=> ?_) fun aM=> ?_;refine au 2 aa<|bI aa (e5 u9 aa aa ab)<|au 3 aa<|gs (t:=33) aa (fun aN=> ?_) fun aN=> ?_;refine au 2 aa<|bI aa (e5 u9 aa aa ab)<|aQ 4 aa<|cd aa (fun aI=> ?_) fun aI=> ?_;exact aJ 9 aa<|tn<|⟨_,ab,j+1,ab,aa,(by rw [drop_cons (l:=l) (i:=j) 0 ab,Bz (by rw [rJ]; exact decide_eq_false ab),← wS 0 ab ab] at E; exact E),aa,aa⟩
 have J:l.length≤j∨od (l.getD j 0)=true := .inr<|by rw [rJ]; exact decide_eq_true<|.inr ab
 have ae:¬j=i:=by
  rintro rfl;rcases J with h | h;omega;rw [an] at h; cases h
 have ah:(l.take j).drop i≠[]:=fun V=>ae<|by have h1:=congrArg jr V; simp only [fP,dJ,gr] at h1; omega
 rw [Bx (i:=j) ah J] at E;refine aJ 2 aa<|bK<|dq 4 aa<|ep (v)<|au 3 aa<|p (mR u9 aa aa aa ab)<|e<|gv gk aa aa fun ao ax aq A Y=>e<|ap gk (aU I A.md) aa (by have :=A.size; have :=G.size; omega) aa (aB.dT Y) (aa) (aa) ab ab fun al ay ai ac aw av=> ?_;have Z:=Wk.own (Md.trans G A.md) (aU I A.md) ac<|cE _;have aj:=nB ai;exact p bm<|aC 7 aa<|tn<|⟨_,ab,j,C++ [(l.take j).drop i],al,ab,(by rw [eX]; exact E),Z,aj,aa,aa⟩
 have J:l.length≤j∨od (l.getD j 0)=true := .inr<|by rw [rJ]; exact decide_eq_true<|.inl ab
 have ae:¬j=i:=by
  rintro rfl;rcases J with h | h;omega;rw [an] at h; cases h
 have ah:(l.take j).drop i≠[]:=fun V=>ae<|by have h1:=congrArg jr V; simp only [fP,dJ,gr] at h1; omega
 rw [Bx (i:=j) ah J] at E;refine aC 10 aa<|bK<|dq 4 aa<|ep (v)<|au 3 aa<|p (mR u9 aa aa aa ab)<|e<|gv gk aa aa fun ao ax aq A Y=>e<|ap gk (aU I A.md) aa (by have :=A.size; have :=G.size; omega) aa (aB.dT Y) (aa) (aa) ab ab fun al ay ai ac aw av=> ?_;have Z:=Wk.own (Md.trans G A.md) (aU I A.md) ac<|cE _;have aj:=nB ai;exact p bm<|aC 7 aa<|tn<|⟨_,ab,j,C++ [(l.take j).drop i],al,ab,(by rw [eX]; exact E),Z,aj,aa,aa⟩
 have J:l.length≤j∨od (l.getD j 0)=true := .inl ab;have ae:¬j=i:=by
  rintro rfl;rcases J with h | h;omega;rw [an] at h; cases h
 have ah:(l.take j).drop i≠[]:=fun V=>ae<|by have h1:=congrArg jr V; simp only [fP,dJ,gr] at h1; omega
 rw [Bx (i:=j) ah J] at E;refine au 5 aa<|p mv<|aC 10 aa<|bK<|dq 4 aa<|ep (v)<|au 3 aa<|p (mR u9 aa aa aa ab)<|e<|gv gk aa aa fun ao ax aq A Y=>e<|ap gk (aU I A.md) aa (by have :=A.size; have :=G.size; omega) aa (aB.dT Y) (aa) (aa) ab ab fun al ay ai ac aw av=> ?_;have Z:=Wk.own (Md.trans G A.md) (aU I A.md) ac<|cE _;have aj:=nB ai;exact p bm<|aC 7 aa<|tn<|⟨_,ab,j,C++ [(l.take j).drop i],al,ab,(by rw [eX]; exact E),Z,aj,aa,aa⟩
 refine aJ 2 aa<|bK<|dq 4 aa<|ep (v)<|p (nT (v) aa)<|aC 3 aa<|aR aa ?_;have E:C=(c7 [] l):=by rw [← hd,iR ab,BA,ez]
 exact ⟨by rw [← E]; exact I,G⟩
theorem yI (s:List UInt8) (w:ak):
 ba az 149 (a7 [str s]) w (fun v w'=>v= .bool (uj s)∧Wk w w'):=by
 refine enter func149 aa ntmps149 aa<|bg 11 aa<|gs (t:=6) aa (fun E=> ?_) fun E=> ?_;refine au 1 aa<|bI aa (jz 0 u9 aa aa ab)<|au 3 aa<|gs (t:=11) aa (fun A=> ?_) fun A=> ?_;refine au 1 aa<|bI aa (jz 1 u9 aa aa ab)<|au 3 aa<|gs (t:=16) aa (fun C=> ?_) fun C=> ?_;exact au 1 aa<|bI aa (jz 2 u9 aa aa ab)<|aC 6 aa<|aR aa<|⟨by show bR (decide (((s.getD 2 0).toNat:Int)=191))=_; rw [yH]; exact congrArg bR (decide_eq_decide.2 ab),Md.refl _ _⟩
 exact au 4 aa<|p bm<|aC 3 aa<|aR aa<|⟨by show bR false =_; rw [yH,decide_eq_false ab],Md.refl _ _⟩
 exact au 4 aa<|p mv<|au 4 aa<|p bm<|aC 3 aa<|aR aa<|⟨by show bR false =_; rw [yH,decide_eq_false ab],Md.refl _ _⟩
 exact au 4 aa<|p mv<|au 4 aa<|p mv<|au 4 aa<|p bm<|aC 3 aa<|aR aa<|⟨by show bR false =_; rw [yH,decide_eq_false ab],Md.refl _ _⟩
theorem Gz (l:List UInt8) (a:Option bF) (c:Nat) (w:ak) (A:aB w.heap a (U8 l)) (I:l.length≤1048576) (G:l.length≤c):
 ba az 150 (a7 [.slice a l.length c]) w (fun v w'=>v=str (ka l)∧Wk w w'):=by
 refine enter func150 aa ntmps150 aa<|bg 18 aa<|gs (t:=8) aa (fun E=> ?_) fun E=> ?_;refine au 3 aa<|bI aa (a6 mI aa aa ab<|aB.ok (A)<|qT ab)<|bI aa (ld1 aa<|(show _=some (gq .u8 (l.getD (l.length - 1) 0).toNat) from by rw [show ((l.length:Int) - 1).toNat=l.length - 1 from by omega]; exact qS A ab))<|aQ 4 aa<|cd aa (fun C=> ?_) fun C=> ?_;exact aH 5 aa<|p (uy mI aa aa ab)<|p (n9 nV aa (YO A ((l.length:Int) - 1).toNat)<|by rw [dJ]; omega)<|aC 5 aa<|aR aa<|⟨by show str (l.take ((l.length:Int) - 1).toNat)=_; rw [Gy ab (TV ab),show ((l.length:Int) - 1).toNat=l.length - 1 from by omega],Md.refl _ _⟩
 exact aH 5 aa<|p (n9 nV aa (A)<|aa)<|aC 4 aa<|aR aa<|⟨by show str l=_; rw [Ba (fun h=>VB ab h.2)],Md.refl _ _⟩
 exact au 15 aa<|p (n9 nV aa (A)<|aa)<|aC 4 aa<|aR aa<|⟨by show str l=_; rw [Ba ab],Md.refl _ _⟩
end Go.Hb.kA
end
