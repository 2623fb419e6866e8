/-
  Walks and plain laws that the law rests on, laid together. No conditions but those that each theorem names.
-/
import Derived.Test.YtfgapieofinadaaGreatDoorMnOwnSaved4
set_option linter.unusedVariables false
set_option maxRecDepth 20000
set_option maxHeartbeats 1000000
open Array renaming getElem?_eq_some_iff→bJ
open Bool renaming noConfusion→dd
open Go renaming Addr→aG,Value→ag,World→ah
open Go.Proofs.Tryz renaming prog→aj
open Go.Result renaming andThen_ok→fR
open Go.Sem renaming run_bind→gq,run_pure→jw
open Go.Value renaming bool→bO,int→bT,oneCell'→kH,ownBlock→cR,tuple→mq
open Go.World renaming ownsRow→dM,ownsRow_nil→iz
open List renaming all_cons→uj,all_eq_true→uk,all_map→DZ,all_nil→D0,append_assoc→gQ,append_nil→j0,drop_eq_nil_of_le→lB,getD_cons_succ→Eb,getD_cons_zero→mr,getD_eq_getElem?_getD→cn,getElem?_append_left→eW,getElem?_append_right→eI,getElem?_cons_zero→fS,getElem?_eq_getElem→bR,getElem?_eq_some_iff→cB,getElem?_take→gr,length→lE,length_append→bB,length_cons→bA,length_drop→gS,length_map→lF,length_nil→fk,length_pos_iff→Ef,length_singleton→fE,length_take→bW,map_append→j1,mem_of_getElem?→jy,nil_append→lG,take_zero→yB,toArray→bc
open Nat renaming le_refl→aT,le_trans→bS,lt_or_ge→dW,sub_self→uC,zero_add→cr
open Option.some renaming injEq→bp
open Prod renaming snd→gW
open Go.Proofs.Tryz
open Go.Hb.ek Go.Proofs Go.Hb.pK Go.Hb.j5

section
namespace Go.Hb.pL
theorem vK (s A:List UInt8) (w:ah) (E:s.length≤1073741824) (hp:A.length≤1073741824):
 aR aj 121 (bc [str s,str A]) w (fun v w'=>v= .bool (decide (s.take A.length=A))∧Wk w w'):=by
 refine enter func121 U ntmps121 U<|aP 13 U<|gs (t:=10) U (fun C=> ?_) fun C=> ?_;exact ao 3 U<|bU U (qI u9 U U ab)<|au 7 U<|aJ U<|⟨U,Md.refl _ _⟩
 exact ao 7 U<|p aE<|au 3 U<|aJ U<|⟨by show bO false =_; rw [decide_eq_false (fun h=>by have :=congrArg lE h; rw [bW] at this; omega)],Md.refl _ _⟩
theorem IB (s A:List UInt8) (w:ah) (E:s.length≤1073741824) (hp:A.length≤1073741824):
 aR aj 68 (bc [str s,str A]) w (fun v w'=>v= .bool (decide (s.take A.length=A))∧Wk w w'):=by
 refine enter func68 U ntmps68 U<|aP 9 U<|e<|az (vK s A _ E hp) U ?_;rintro I J ⟨rfl,C⟩;exact au 4 U<|aJ U<|⟨U,C⟩
theorem GH (p2 p3:Nat) (w:ah):
 CallsD aj 69 (bc [.pointer (some ⟨p2,0,none⟩),.pointer (some ⟨p3,0,none⟩)]) .returning w (fun A I w'=> ∃ v,A= .returned v∧I= .returning∧(fun w'=>Wk w w') w'):=by
 refine zg (v:= .nilIface) func69 U ntmps69 U (fun L cs E=> .inr ⟨by simp [recoverD,E],U,U⟩) ?_;exact p (CE sM NJ U)<|p mv<|p (xt U U)<|p (xt U U)<|p aE<|p aE<|nl<|tn<|sq fun J C=>rg U<|p mv<|nl<|tn<|C _ _<|cf (U)<|Cn<|f0 U<|Md.refl _ _
theorem GG (p2 p3:Nat) (A:Int) (w:ah) (C:∃ L:List ag,L.length=7∧w.heap[p2]? =some (.cells L.toArray 92 (0,0))) (E:∃ v:ag,w.heap[p3]? =some (.cells [v].toArray 33 (0,0))) (O:p2≠p3):
 CallsD aj 69 (bc [.pointer (some ⟨p2,0,none⟩),.pointer (some ⟨p3,0,none⟩)]) (.panicking<|kU A) w (fun V ae w'=> ∃ v,V= .returned v∧ae=(.panicking [{v:= .iface 33 (.int .i64 A),recovered:=true}])∧(fun w'=>w'.heap[p2]? =some (.cells [bT .i64 0,str [],.slice none 0 0,.slice none 0 0,.slice none 0 0,.slice none 0 0,.slice none 0 0].toArray 92 (0,0))∧w'.heap[p3]? =some (.cells [.int .i64 A].toArray 33 (0,0))∧Md (fun k=>k=p2∨k=p3) w w') w'):=by
 obtain ⟨al,ac,C⟩:=C;obtain ⟨v3,E⟩:=E;have an:=(bJ.1 C).1;have ao:=(bJ.1 E).1;refine zg (v:= .iface 33<|.int .i64 A) func69 U ntmps69 U (fun am cs ad=> .inl<|by simp [recoverD,ad,kU]) ?_;refine p (CD sM U)<|p mv<|p (xt U U)<|p (xt U U)<|p aE<|p aE<|nl<|tn<|sq fun ak aa=>rg U<|p mv<|nl<|tn<|aa _ _<|ct (U)<|rg U<|p (hH (ps:= []) (L:= [.int .i64 0,.string ⟨⟨[]⟩⟩,.slice none 0 0,.slice none 0 0,.slice none 0 0,.slice none 0 0,.slice none 0 0]) Cw U<|U)<|p mv<|e<|ir rR U U U U C (by rw [ac]; decide) fun ai J I=>e<|fP vh U U (v:= .int .i64 A) U (J.aq E fun h=>O h.symm) (by show 0 < 1; decide) fun ap M Z=>nl<|f0 U ?_;have I:ai.heap[p2]? =some (.cells [bT .i64 0,str [],.slice none 0 0,.slice none 0 0,.slice none 0 0,.slice none 0 0,.slice none 0 0].toArray 92 (0,0)):=I.trans<|by rw [lB ab]; rfl
 exact ⟨M.aq I O,Z,(J.mono fun _ _ h=> .inl h).trans' M fun _ _ h=> .inr h⟩
theorem zE (p2 p3:Nat) (w:ah):(invoke (.fn (.func 69) #[aH p2,aH p3]) #[]).run aj w= .ok (.enter 69 #[aH p2,aH p3]) w:=by
 have h:=FJ #[aH p2,aH p3] w;simp [invoke,h]
theorem sa {n:Nat} {D:List Deferred} {G:List Nat} {σ:Nat→ag} {t:Nat} (h:t < n):ev ⟨n,D,G,none⟩ σ (.tmp t)=σ t:=by
 show cond (Nat.blt t n) (σ t) undef=_;rw [show Nat.blt t n=true from by simpa using h]; rfl
theorem GV {n:Nat} {G:List Nat} {fn:Func} {R:ag→ah→Prop} {σ:Nat→ag} {w:ah} {p2 p3:Nat} {A:Int} (V:fn.results= #[.cell 2 92,.cell 3 33]) (ac:3 < n) (Z:σ 2= .pointer (some ⟨p2,0,none⟩)) (aa:σ 3= .pointer (some ⟨p3,0,none⟩)) (C:∃ L:List ag,L.length=7∧w.heap[p2]? =some (.cells L.toArray 92 (0,0))) (E:∃ v:ag,w.heap[p3]? =some (.cells [v].toArray 33 (0,0))) (O:p2≠p3)
 (I:∀ w',Md (fun k=>k=p2∨k=p3) w w'→R (.tuple #[.agg [bT .i64 0,str [],.slice none 0 0,.slice none 0 0,.slice none 0 0,.slice none 0 0,.slice none 0 0].toArray,.int .i64 A]) w'):qb ⟨n,[{target:= .fn (.func 69) #[.pointer (some ⟨p2,0,none⟩),.pointer (some ⟨p3,0,none⟩)],args:= #[]}],G,none⟩ (lJ aj fn R) (.panic<|kU A) σ w:=by
 refine HT (zE p2 p3 w) (GG p2 p3 A w C E O) ?_;rintro w' ⟨J,M,hm⟩;exact ⟨_,tj V (kq<|nj (cs:= [bT .i64 0,str [],.slice none 0 0,.slice none 0 0,.slice none 0 0,.slice none 0 0,.slice none 0 0]) ((sa ab).trans Z) pO U fun j _=>by rw [cr,dg J]; simp) (kq<|jr ((sa ab).trans aa) yR<|(dg M).trans U),I w' hm⟩
theorem GW {n:Nat} {G:List Nat} {fn:Func} {R:ag→ah→Prop} {σ:Nat→ag} {w:ah} {p2 p3:Nat} {v:ag} {L:List ag} (O:fn.results= #[.cell 2 92,.cell 3 33]) (aa:3 < n) (V:σ 2= .pointer (some ⟨p2,0,none⟩)) (Z:σ 3= .pointer (some ⟨p3,0,none⟩)) (A:w.heap[p2]? =some (.cells L.toArray 92 (0,0))) (C:w.heap[p3]? =some (.cells [v].toArray 33 (0,0))) (E:L.length=7)
 (I:∀ w',Wk w w'→R (.tuple #[.agg L.toArray,v]) w'):qb ⟨n,[{target:= .fn (.func 69) #[.pointer (some ⟨p2,0,none⟩),.pointer (some ⟨p3,0,none⟩)],args:= #[]}],G,none⟩ (lJ aj fn R) .ret σ w:=by
 refine HS (zE p2 p3 w) (GH p2 p3 w) ?_;intro w' hm;have J:=Wk.aq hm A;have M:=Wk.aq hm C;exact ⟨_,tj O (kq<|nj (cs:=L) ((sa ab).trans V) pO E fun j _=>by rw [cr,dg J]; simp) (kq<|jr ((sa ab).trans Z) yR<|(dg M).trans U),I w' hm⟩
section
variable {s:List UInt8} {a e n m p1 p2 p3 p4 p5 p q ls:Nat} {t f:List UInt8} {rs:List (List UInt8×List UInt8)} {l:List (List bC)}
theorem KX (h:dy s a= .error e):iq s a= .error e:=by unfold iq; rw [h]
theorem KY (h:dy s a= .ok (f,p)) (A:dy s p= .error e):iq s a= .error e:=by unfold iq; rw [h]; simp only; rw [A]
theorem KZ (h:dy s a= .ok (f,p)) (A:dy s p= .ok (t,q)):iq s a= .ok ((f,t),q):=by unfold iq; rw [h]; simp only; rw [A]
theorem GM (hm:¬s.take 4=gd):dx s= .error 200:=if_neg hm
theorem GN (hm:s.take 4=gd) (h:bE s 4= .error e):dx s= .error e:=by unfold dx; rw [if_pos hm,h]
theorem GO (hm:s.take 4=gd) (h:bE s 4= .ok (n,p1)) (A:dy s p1= .error e):dx s= .error e:=by unfold dx; rw [if_pos hm,h]; simp only; rw [A]
theorem GP (hm:s.take 4=gd) (h:bE s 4= .ok (n,p1)) (A:dy s p1= .ok (t,p2)) (C:bE s p2= .error e):dx s= .error e:=by unfold dx; rw [if_pos hm,h]; simp only; rw [A]; simp only; rw [C]
theorem GQ (hm:s.take 4=gd) (h:bE s 4= .ok (n,p1)) (A:dy s p1= .ok (t,p2)) (C:bE s p2= .ok (m,p3)) (E:256 < m):dx s= .error 201:=by unfold dx; rw [if_pos hm,h]; simp only; rw [A]; simp only; rw [C]; exact if_pos E
theorem zF (hm:s.take 4=gd) (h:bE s 4= .ok (n,p1)) (A:dy s p1= .ok (t,p2)) (C:bE s p2= .ok (m,p3)) (E:¬256 < m) (I:cU (iq s) m p3= .error e):dx s= .error e:=by unfold dx; rw [if_pos hm,h]; simp only; rw [A]; simp only; rw [C]; simp only; rw [if_neg E,I]
theorem GR (hm:s.take 4=gd) (h:bE s 4= .ok (n,p1)) (A:dy s p1= .ok (t,p2)) (C:bE s p2= .ok (m,p3)) (E:¬256 < m) (I:cU (iq s) m p3= .ok (rs,p4)):dx s=jc s (if n≤64 then n else 0) t rs p4:=by unfold dx; rw [if_pos hm,h]; simp only; rw [A]; simp only; rw [C]; simp only; rw [if_neg E,I]
theorem GI (h:gK ls t rs=false):jc s ls t rs a= .error 201:=by unfold jc; rw [h]; rfl
theorem GJ (h:gK ls t rs=true) (A:cU (ez s) 4 a= .error e):jc s ls t rs a= .error e:=by unfold jc; rw [if_pos h,A]
theorem GK (h:gK ls t rs=true) (A:cU (ez s) 4 a= .ok (l,p5)) (C:p5≠s.length):jc s ls t rs a= .error 202:=by unfold jc; rw [if_pos h,A]; exact if_neg C
theorem GL (h:gK ls t rs=true) (A:cU (ez s) 4 a= .ok (l,p5)) (C:p5=s.length):jc s ls t rs a= .ok ⟨ls,t,rs,l⟩:=by unfold jc; rw [if_pos h,A]; exact if_pos C
end
def nW (w:ah) (B:Nat) (cs:List ag) (b:eY):Prop := ∃ A rc vs,cs= [.int .i64 (b.least:Nat),str b.tr,.slice A b.qE.length rc]++vs∧vs.length=4∧bo w.heap A (b.qE.flatMap mg)∧∀ i,i < 4→fV w B (vs.getD i .nilFunc) (b.jV.getD i [])
theorem nW.wk {w w':ah} {B:Nat} {cs:List ag} {b:eY} (h:nW w B cs b) (hm:Wk w w'):nW w' B cs b:=by
 obtain ⟨J,rc,vs,A,C,E,I⟩:=h;exact ⟨J,rc,vs,A,C,E.wk hm,fun i hi=>(I i hi).wk hm⟩
def jA (s:List UInt8) (w:ah) (v:ag) (w':ah):Prop :=(match dx s with
 | .ok b=> ∃ cs,v= .tuple #[.agg cs.toArray,.int .i64 0]∧nW w' w.heap.size cs b
 | .error e=>v= .tuple #[.agg [bT .i64 0,str [],.slice none 0 0,.slice none 0 0,.slice none 0 0,.slice none 0 0,.slice none 0 0].toArray,.int .i64 (e:Nat)])∧Wk w w'
theorem jA.no {s:List UInt8} {w w':ah} {e:Nat} (h:dx s= .error e) (hm:Wk w w'):jA s w (.tuple #[.agg [bT .i64 0,str [],.slice none 0 0,.slice none 0 0,.slice none 0 0,.slice none 0 0,.slice none 0 0].toArray,.int .i64 (e:Nat)]) w':=by
 unfold jA; rw [h]; exact ⟨rfl,hm⟩
theorem Lv {a b c v:ag} {vs:List ag} {k:Nat} :([a,b,c]++vs).set (0 +3 +((k:Nat):Int).toNat*1) v= [a,b,c]++vs.set k v:=by
 rw [show 0 +3 +((k:Nat):Int).toNat*1=k+1 +1 +1 from by omega]; rfl
theorem Iv {α:Type} {l:List α} {i k:Nat} {v d:α} (h:i≠k):(l.set k v).getD i d=l.getD i d:=by
 rw [cn,List.getElem?_set_ne (fun e=>h e.symm),cn]
theorem Iu {α:Type} {l:List α} {k:Nat} {v d:α} (h:k < l.length):(l.set k v).getD k d=v:=by
 rw [cn,List.getElem?_set_self h]; rfl
theorem It {α:Type} {l m:List α} {i:Nat} {d:α} (h:i < l.length):(l++m).getD i d=l.getD i d:=by
 rw [cn,eW h,cn]
theorem Ir {α:Type} {l:List α} {a d:α} {i:Nat} (h:i=l.length):(l++ [a]).getD i d=a:=by
 subst h;rw [cn,eI (aT _),uC]; rfl
structure fF (w0 w:ah) (b2 b3:Nat) (L:List ag):Prop where
 c2:w.heap[b2]? =some (.cells L.toArray 92 (0,0))
 c3:w.heap[b3]? =some (.cells [bT .i64 0].toArray 33 (0,0))
 len:L.length=7
 lo:w0.heap.size≤b2∧w0.heap.size≤b3∧b2≠b3
 wk:Wk w0 w
theorem fF.md {F:Nat→Prop} {w0 w w':ah} {A C:Nat} {L:List ag} (h:fF w0 w A C L) (hm:Md F w w') (E:¬F A) (I:¬F C) (J:∀ k,F k→w0.heap.size≤k):fF w0 w' A C L:=
 ⟨hm.aq h.c2 E,hm.aq h.c3 I,h.len,h.lo,h.wk.trans' hm fun k O M=>by have :=J k M; omega⟩
theorem fF.M9 {w0 w w':ah} {A C:Nat} {L:List ag} (h:fF w0 w A C L) (hm:Wk w w'):fF w0 w' A C L:=h.md hm (fun h=>h) (fun h=>h) fun _ h=>h.elim
theorem fF.rb {w0 w w':ah} {A C rb:Nat} {L:List ag} (h:fF w0 w A C L) (hm:Md (fun k=>k=rb) w w') (E:A≠rb) (I:C≠rb) (h0:w0.heap.size≤rb):fF w0 w' A C L:=h.md hm E I fun k J=>by omega
theorem kP {n:Nat} {G:List Nat} {fn:Func} {σ:Nat→ag} {s:List UInt8} {w W:ah} {C E e:Nat} {L:List ag} (J:fn.results= #[.cell 2 92,.cell 3 33]) (I:3 < n) (M:σ 2= .pointer (some ⟨C,0,none⟩)) (O:σ 3= .pointer (some ⟨E,0,none⟩)) (A:fF w W C E L) (U:dx s= .error e):qb ⟨n,[{target:= .fn (.func 69) #[.pointer (some ⟨C,0,none⟩),.pointer (some ⟨E,0,none⟩)],args:= #[]}],G,none⟩ (lJ aj fn<|jA s w) (.panic<|kU (e:Nat)) σ W:=
 GV J I M O ⟨_,A.len,A.c2⟩ ⟨_,A.c3⟩ A.lo.2.2 (fun w' hm=>jA.no U<|A.wk.trans' hm fun k V h=>by rcases h with rfl | rfl; have :=A.lo.1; omega; have :=A.lo.2.1; omega)
theorem GX (s:List UInt8) (w:ah) (aG:s.length≤1048576):
 aR aj 31 (bc [str s]) w (jA s w):=by
 refine Hx [2,3] func31 U ntmps31 U ?_;refine du<|dE<|aP 1 U<|e<|fI Di fun C eI dT bZ cv=>e<|fI NC fun M ci dU bw cA=> ?_;have ep:=bZ.size;have eq:=bw.size;have cV:Wk w ci:=bZ.md.trans bw.md;have dv:=Wk.aq bw.md cv;refine au 1 U<|bF<|du<|du<|dE<|aP 2 U<|e<|az (IB s gd ci ab aW) U ?_;rintro v10 eG ⟨rfl,a3⟩;have bN:=cV.trans a3;have cf:=Wk.aq a3 dv;have cg:=Wk.aq a3 cA;have en:=a3.size;refine au 2 U<|bF<|dE<|cb U (fun aU=> ?_) fun aU=> ?_;have aa:¬s.take 4=gd:=fun h=>by rw [show s.take gd.length=gd from h] at aU; simp at aU
 refine aP 2 U<|p (hH (ps:= []) (L:= [.int .i64 0,.string ⟨⟨[]⟩⟩,.slice none 0 0,.slice none 0 0,.slice none 0 0,.slice none 0 0,.slice none 0 0]) Cw U<|U)<|e<|ir rR U U U U cf aW fun eL bU cJ=>e<|fP vh U U (v:= .int .i64 200) U (bU.aq cg fun h=>by omega) aW fun dQ bX cL=>au 3 U<|prt ?_;have di:dQ.heap[C]? =some (.cells [bT .i64 0,str [],.slice none 0 0,.slice none 0 0,.slice none 0 0,.slice none 0 0,.slice none 0 0].toArray 92 (0,0)):=(bX.aq cJ fun h=>by omega).trans rfl;exact HP (tj U (kq<|nj U U U fun j d4=>by rw [cr,dg di]; simp)<|kq<|jr U U<|(dg cL).trans U)<|jA.no (GM aa)<|(bN.trans' bU fun k E h=>by omega).trans' bX fun k E h=>by omega
 have aa:s.take 4=gd:=Classical.byContradiction fun h=>by rw [decide_eq_false (show ¬s.take gd.length=gd from h)] at aU; cases aU
 have cq:4≤s.length:=by have :=congrArg lE aa; rw [bW] at this; simp only [gd,bA,fk] at this; omega
 refine jh 1 U<|bF<|du<|kR Jo #[.pointer (some ⟨C,0,none⟩),.pointer (some ⟨M,0,none⟩)] U aW ?_;refine du<|dE<|aP 2 U<|p (hH (ps:= [(0,str s),(1,.int .i64 4)]) (L:= [str s,.int .i64 4]) LW U<|U)<|e<|zc U fun rb ad el a8 cu=> ?_;have eo:=a8.size;have cP:aI ad.heap rb [str s,.int .i64 ((4:Nat):Int)]:=⟨_,cu⟩
 have b7:fF w ad C M [bT .i64 0,str [],.slice none 0 0,.slice none 0 0,.slice none 0 0,.slice none 0 0,.slice none 0 0]:=⟨Wk.aq a8.md cf,Wk.aq a8.md cg,rfl,⟨ab,ab,ab⟩,bN.trans a8.md⟩
 refine au 2 U<|bF<|LU (fun cn a1=> ∃ (n p1:Nat),(fF w a1 C M [.int .i64 ((if n≤64 then n else 0:Nat):Int),str [],.slice none 0 0,.slice none 0 0,.slice none 0 0,.slice none 0 0,.slice none 0 0])∧(aI a1.heap rb [str s,.int .i64 (p1:Nat)])∧(Md (fun k=>k=rb∨k=C) ad a1)∧(bE s 4= .ok (n,p1))∧(p1≤s.length)∧(Sl cn [(0,str s),(2,.pointer (some ⟨C,0,none⟩)),(3,.pointer (some ⟨M,0,none⟩)),(4,.pointer (some ⟨rb,0,none⟩))])) ?_ ?_;refine du<|dE<|aP 2 U ?_;refine eP U (eh n8 (oK rb s (4) ad cP aG<|cq) U fun ex eH cZ=> ?_) (fun c w' I σ' A=>by
  obtain ⟨e,he,rfl,V⟩:=I;exact kP U aW ((A 2<|.head _).trans U) ((A 3<|.tail _<|.head _).trans U) ((b7).rb V ab ab ab) (GN aa he))
 obtain ⟨n,p1,Z,rfl,bL,br⟩:=cZ;obtain ⟨dY,bD,d9⟩:=kr Z;have aY:=b7.rb br ab ab ab;refine au 2 U<|bF<|du<|dE<|jh 4 U<|bF<|dE<|cd U (fun bz=> ?_) fun bz=> ?_;exact aP 2 U<|p (rP u3 xR U<|nA ab)<|ao 1 U<|e<|fP pR U U (v:= .int .i64 (n:Nat)) U aY.c2 aW fun eO a6 cM=>au 1 U<|zw<|⟨n,p1,(⟨by rw [if_pos ab]; exact cM,a6.aq aY.c3 (fun h=>by omega),U,aY.lo,aY.wk.trans' a6 fun k E h=>by omega⟩),(a6.B bL fun h=>by omega),((br.mono fun _ _ h=> .inl h).trans<|a6.mono fun _ _ h=> .inr h),Z,bD,U⟩
 exact jh 1 U<|zw<|⟨n,p1,(by rw [if_neg ab]; exact aY),bL,(br.mono fun _ _ h=> .inl h),Z,bD,U⟩
 rintro cn a1 ⟨n,p1,ce,cO,cT,Z,bD,dz⟩;refine LH dz ?_;refine du<|dE<|aP 2 U ?_;refine eP U (eh uU (vD rb s (p1) a1 cO aG ab) U fun ey eJ c0=> ?_) (fun c w' I σ' A=>by
  obtain ⟨e,he,rfl,V⟩:=I;exact kP U aW ((A 2<|.head _).trans U) ((A 3<|.tail _<|.head _).trans U) ((ce).rb V ab ab ab) (GO aa Z he))
 obtain ⟨t,p2,aF,rfl,cy,bP⟩:=c0;obtain ⟨dZ,d5,ea⟩:=ou aF;have bg:=ce.rb bP ab ab ab;refine ao 1 U<|e<|fP GA U U (v:=str t) U bg.c2 (by simp) fun cm a7 cN=> ?_;have ca:fF w cm C M [.int .i64 ((if n≤64 then n else 0:Nat):Int),str t,.slice none 0 0,.slice none 0 0,.slice none 0 0,.slice none 0 0,.slice none 0 0]:=⟨cN,a7.aq bg.c3 (fun h=>by omega),rfl,bg.lo,bg.wk.trans' a7 fun k E h=>by omega⟩
 have cQ:=a7.B cy fun h=>by omega
 refine au 1 U<|bF<|du<|dE<|aP 2 U ?_;refine eP U (eh n8 (oK rb s (p2) cm cQ aG ab) U fun v28 dJ c1=> ?_) (fun c w' I σ' A=>by
  obtain ⟨e,he,rfl,V⟩:=I;exact kP U aW ((A 2<|.head _).trans U) ((A 3<|.tail _<|.head _).trans U) ((ca).rb V ab ab ab) (GP aa Z aF he))
 obtain ⟨m,p3,aT,rfl,cz,bQ⟩:=c1;obtain ⟨d0,d6,ec⟩:=kr aT;have b8:=ca.rb bQ ab ab ab;refine au 2 U<|bF<|du<|dE<|aP 4 U ?_;refine eP U (eh jF (jS _ _ _ dJ) U fun eA eK c4=> ?_) (fun c w' I σ' A=>by
  obtain ⟨rfl,hb,rfl⟩:=I;exact kP U aW ((A 2<|.head _).trans U) ((A 3<|.tail _<|.head _).trans U) (b8) (GQ aa Z aF aT<|by have :=of_decide_eq_false hb; omega))
 obtain ⟨rfl,dD,rfl⟩:=c4;have bH:¬256 < m:=by have :=of_decide_eq_true dD; omega
 refine au 1 U<|bF<|du<|du<|dE<|jh 4 U<|bF<|dE<|cS 1 U<|lp (fun aL co an=> ∃ (k:Nat) (rs:List (List UInt8×List UInt8)) (O:ag) (q:Nat),(k≤m)∧(cU (iq s) k p3= .ok (rs,q))∧(q≤s.length)∧(dM an ad.heap.size 181 2 O rs.length<|rs.flatMap mg)∧(aI an.heap rb [str s,.int .i64 (q:Nat)])∧(fF w an C M [.int .i64 ((if n≤64 then n else 0:Nat):Int),str t,O,.slice none 0 0,.slice none 0 0,.slice none 0 0,.slice none 0 0])∧(Md (fun k=>k=rb∨k=C) ad an)∧(Sl co [(0,str s),(2,.pointer (some ⟨C,0,none⟩)),(3,.pointer (some ⟨M,0,none⟩)),(4,.pointer (some ⟨rb,0,none⟩)),(33,.int .u64 (m:Nat)),(34,.int .u64 (k:Nat))])∧(m - k=aL)) _ ⟨0,[],.slice none 0 0,p3,ab,U,ab,(iz _ _ _ _),cz,b8,(((cT.trans<|bP.mono fun _ _ h=> .inl h).trans<|a7.mono fun _ _ h=> .inr h).trans<|bQ.mono fun _ _ h=> .inl h),U,U⟩ ?_;rintro aL co an ⟨k,rs,O,q,eg,al,ej,ar,bM,aX,bp,dA,rfl⟩;refine cH dA<|cS 6 U<|cd U (fun de=> ?_) fun de=> ?_;refine aB 7 U ?_;refine eP U (eh uU (vD rb s (q) an bM aG ab) U fun v37 am c5=> ?_) (fun c w' I σ' A=>by
  obtain ⟨e,he,rfl,V⟩:=I;exact kP U aW ((A 2<|.head _).trans U) ((A 3<|.tail _<|.head _).trans U) ((aX).rb V ab ab ab) (zF aa Z aF aT bH<|mY al (KX he) ab))
 obtain ⟨f,bJ,bx,rfl,cD,a5⟩:=c5;obtain ⟨d1,d7,ed⟩:=ou bx;have aZ:=aX.rb a5 ab ab ab;have dp:=da ar a5 fun k E h=>by have :=dF ar E; omega
 have er:=a5.size;have ew:=bp.size;have av:∀ k,O.ownBlock=some k→ad.heap.size≤k:=fun k h=>(dF ar h).1;refine aC 3 U ?_;have ba:(fun w'=>Md (fun k=>k=rb∨O.ownBlock=some k) am w') am.drew:=(Md.refl _ _).drew;refine sG (fun w'=>Md (fun k=>k=rb∨O.ownBlock=some k) am w') 9 U wide ba<|mR [0] U ba<|A6 1 U ai (fun w' db=>aM U<|Md.ay db ((dg aZ.c2).trans U) fun h=>by rcases h with h | h; omega; have :=av _ h; omega) ba<|mR [2,3] U ba ?_;refine Jl 4 U ai U (eh uU (vD rb s bJ am.drew cD aG ab) U fun eB cj c6=> ?_) (fun c w' I σ' A=>by
  obtain ⟨e,he,rfl,V⟩:=I;exact kP U aW ((A 2<|.head _).trans U) ((A 3<|.tail _<|.head _).trans U) (aZ.rb (Md.oh V) ab ab ab) (zF aa Z aF aT bH<|mY al (KY bx he) ab))
 obtain ⟨t2,dI,b4,rfl,cF,aQ⟩:=c6;obtain ⟨d2,d8,ef⟩:=ou b4;have aQ:=Md.oh aQ;have b2:Md (fun k=>k=rb∨O.ownBlock=some k) am cj:=aQ.mono fun _ _ h=> .inl h;have et:=aQ.size;have b0:(fun w'=>Md (fun k=>k=rb∨O.ownBlock=some k) am w') cj:=b2;refine ⟨b0,?_⟩;refine qh 5 U ai (fun _=>hH (ps:= [(0,str f),(1,str t2)]) (L:= [str f,str t2]) LX U<|U) (fun _=>b0)<|sC 6 U ai<|rJ Cu U U U fun dR dN dV a9 cG=> ?_;have ev:=a9.size;have b3:=b2.trans<|a9.md.mono fun _ _ h=>h.elim;have dq:=cE (da dp aQ fun k E h=>by have :=dF ar E; omega) a9.md;have dc:(fun w'=>Md (fun k=>k=rb∨O.ownBlock=some k) am w') dN:=b3;refine ⟨dc,?_⟩;refine sC 7 U ai<|ap Cu (dq) U ab U (bo.jT cG) (U) (U) (by have :=jO al; omega) (by have :=jO al; omega) fun eC dO b6 bu dH dk=> ?_;obtain ⟨bl,bm,rfl⟩:=iQ b6;have aS:=b3.trans<|bu.mono fun _ _ h=> .inr h;have dH:=bu.size;have dm:¬(C=rb∨O.ownBlock=some C):=fun h=>by rcases h with h | h; omega; have :=av _ h; omega
 have dn:¬(M=rb∨O.ownBlock=some M):=fun h=>by rcases h with h | h; omega; have :=av _ h; omega
 have dh:=aS.aq aZ.c2 dm;have cI:=bu.B (Wk.B a9.md cF) fun h=>by have :=av _ h; omega
 have b1:(fun w'=>Md (fun k=>k=rb∨O.ownBlock=some k) am w') dO:=aS;refine ⟨b1,?_⟩;refine mR [8] U b1<|oC 9 U ai ai<|fP Gy U U (v:= .slice bl (rs.length+1) bm) U dh (by simp) fun ch aN cs=> ?_;have dr:fF w ch C M [.int .i64 ((if n≤64 then n else 0:Nat):Int),str t,.slice bl (rs.length+1) bm,.slice none 0 0,.slice none 0 0,.slice none 0 0,.slice none 0 0]:=⟨cs,aN.aq (aS.aq aZ.c3 dn) (fun h=>by omega),rfl,aX.lo,(aZ.wk.trans' aS fun k E h=>by rcases h with h | h; omega; have :=av _ h; omega).trans' aN fun k E h=>by omega⟩
 have ct:=aN.B cI fun h=>by omega
 have cR:Md (fun k=>k=rb∨k=C) ad ch:=((bp.trans<|a5.mono fun _ _ h=> .inl h).trans' aS fun k E h=>by rcases h with h | h; exact .inl h; have :=av _ h; omega).trans<|aN.mono fun _ _ h=> .inr h;exact oD ai<|bG 6 U<|tn<|⟨_,ab,k+1,rs++ [(f,t2)],.slice bl (rs.length+1) bm,dI,ab,(sr al<|KZ bx b4),ab,(by rw [bB,List.flatMap_append]; exact da b6 aN fun k E h=>by rcases dk k E with bK | bK; exact absurd (av k bK) ab; omega),ct,dr,cR,U,U⟩
 refine aK 2 U<|te _<|bG 1 U<|bF<|du<|dE ?_;obtain ⟨ac,rc,rfl⟩:=iQ ar;obtain rfl :k=m:=ab;obtain ⟨bi,dw⟩:∃ bi,bi=q:=⟨q,rfl⟩
 subst dw;have bb:=GR aa Z aF aT bH al;have ei:=jO al;have dy:∀ r∈rs,r.1.length≤1048576∧r.2.length≤1048576:=fun r hr=>by
  have :=(oA (R:=fun _=>True) (S:=fun r:List UInt8×List UInt8=>r.1.length≤255∧r.2.length≤255) (fun p x q' _ dC=>⟨trivial,(K0 dC).2.2⟩) trivial al).2 r hr;omega
 refine aP 2 U<|p (jk pO U (U) (show ∀ j,j < 7→ay an.heap C (0 +j)=([.int .i64 ((if n≤64 then n else 0:Nat):Int),str t,.slice ac rs.length rc,.slice none 0 0,.slice none 0 0,.slice none 0 0,.slice none 0 0]:List ag)[j]? from fun j _=>by rw [cr,dg aX.c2]; simp))<|e<|az (LD (if n≤64 then n else 0) t rs ac rc (.slice none 0 0) (.slice none 0 0) (.slice none 0 0) (.slice none 0 0) an (fO ar).2 (by split <;> omega) ab ab dy) U ?_;rintro eD dP ⟨rfl,a4⟩;have b9:=aX.M9 a4;refine eP U (eh jF (jS _ _ _ dP) U fun v51 eM c7=> ?_) (fun c w' I σ' A=>by
  obtain ⟨rfl,hb,rfl⟩:=I;exact kP U aW ((A 2<|.head _).trans U) ((A 3<|.tail _<|.head _).trans U) (b9) (by rw [bb,GI hb]))
 obtain ⟨rfl,bI,rfl⟩:=c7;refine au 1 U<|bF<|du<|du<|dE<|jh 3 U<|bF<|dE<|cS 1 U<|lp (fun aL cp ak=> ∃ (J:Nat) (ls:List (List bC)) (vs:List ag) (aH:Nat),(J≤4)∧(cU (ez s) J bi= .ok (ls,aH))∧(aH≤s.length)∧(vs.length=4)∧(aI ak.heap rb [str s,.int .i64 (aH:Nat)])∧(fF w ak C M<|[.int .i64 ((if n≤64 then n else 0:Nat):Int),str t,.slice ac rs.length rc]++vs)∧(∀ i,i < J→fV ak (rb+1) (vs.getD i .nilFunc) (ls.getD i []))∧(Md (fun k=>k=rb∨k=C) ad ak)∧(dM ak ad.heap.size 181 2 (.slice ac rs.length rc) rs.length<|rs.flatMap mg)∧(Sl cp [(0,str s),(2,.pointer (some ⟨C,0,none⟩)),(3,.pointer (some ⟨M,0,none⟩)),(4,.pointer (some ⟨rb,0,none⟩)),(52,.int .i64 (J:Nat))])∧(4 - J=aL)) _ ⟨0,[],[.slice none 0 0,.slice none 0 0,.slice none 0 0,.slice none 0 0],bi,ab,U,ab,U,(Wk.B a4 bM),b9,(fun i hi=>by omega),(bp.trans<|a4.mono fun _ _ h=>h.elim),(cE ar a4),U,U⟩ ?_;rintro aL cp ak ⟨J,ls,vs,aH,ee,aV,ek,a0,bn,ae,bq,cX,bf,dB,rfl⟩;refine cH dB<|cS 6 U<|cd U (fun dj=> ?_) fun dj=> ?_;refine aB 13 U ?_;refine eP U (eh FK (Lt rb s aH ak bn aG ab) U fun eE eN c8=> ?_) (fun c w' I σ' A=>by
  obtain ⟨e,he,rfl,V⟩:=I;exact kP U aW ((A 2<|.head _).trans U) ((A 3<|.tail _<|.head _).trans U) (ae.rb V ab ab ab) (by rw [bb,GJ bI (mY aV he (show J < 4 by omega))]))
 obtain ⟨aw,bJ,b5,bO,cK,bV⟩:=c8;obtain ⟨aJ,cc,rfl,dX,dS⟩:=bO.qL;have bh:=ae.rb bV ab ab ab;have d3:=B9 b5;refine ao 1 U<|p (p7 y4 U U ab)<|e<|fP Gz U U (v:= .slice aJ aw.length cc) U bh.c2 (by simp only [bB,bA,fk,a0]; omega) fun bj aO cw=> ?_;have dl:=jO aV;have bz:bj.heap[C]? =some (.cells ([.int .i64 ((if n≤64 then n else 0:Nat):Int),str t,.slice ac rs.length rc]++vs.set J (.slice aJ aw.length cc)).toArray 92 (0,0)):=by rw [← Lv]; exact cw
 have ds:fF w bj C M ([.int .i64 ((if n≤64 then n else 0:Nat):Int),str t,.slice ac rs.length rc]++vs.set J (.slice aJ aw.length cc)):=⟨bz,aO.aq bh.c3 (fun h=>by omega),by simp [a0],bh.lo,bh.wk.trans' aO fun k E h=>by omega⟩
 have cx:=aO.B cK fun h=>by omega
 have em:=bn.lt;have bv:Md (fun k=>k=rb∨k=C) ak bj:=(bV.mono fun _ _ h=> .inl h).trans<|aO.mono fun _ _ h=> .inr h;have cY:∀ i,i < J+1→fV bj (rb+1) ((vs.set J<|.slice aJ aw.length cc).getD i .nilFunc) ((ls++ [aw]).getD i []):=fun i hi=>by
  rcases dW i J with h | h;rw [Iv ab,It ab];exact (bq i h).md bv fun k E hb=>absurd hb ab;obtain rfl :i=J:=ab;rw [Iu ab,Ir dl.symm];exact (bO.mono ab).md aO fun k E hb=>absurd hb ab
 exact au 7 U<|tn<|⟨_,ab,J+1,ls++ [aw],vs.set J (.slice aJ aw.length cc),bJ,ab,(sr aV b5),ab,(by rw [List.length_set]; exact a0),cx,ds,cY,(cX.trans bv),(da bf bv fun k E h=>by have :=(dF bf E).1; omega),U,U⟩
 refine aK 2 U<|te _<|bG 1 U<|bF<|du<|dE ?_;obtain rfl :J=4:=ab;obtain ⟨ax,aA,aD,aE,rfl⟩:∃ ax aA aD aE,vs= [ax,aA,aD,aE]:=by
  match vs,a0 with
  | [ax,aA,aD,aE],_=>exact ⟨_,_,_,_,rfl⟩
 have a2:∀ i,i < 4→([ax,aA,aD,aE].getD i .nilFunc).oneCell'=true :=fun i hi=>by
  obtain ⟨_,_,e,_⟩:=(bq i hi).qL;rw [e]; rfl
 have dt:([.int .i64 ((if n≤64 then n else 0:Nat):Int),str t,.slice ac rs.length rc,ax,aA,aD,aE]:List ag).all kH=true :=by
  have g0:=a2 0 ab;have g1:=a2 1 ab;have g2:=a2 2 ab;have g3:=a2 3 ab;simp only [mr,Eb] at g0 g1 g2 g3;simp only [uj,D0,g0,g1,g2,g3]; rfl
 refine aP 5 U<|p (aM U<|bn.bd 1)<|ao 3 U ?_;refine eP U (eh jF (jS _ _ _ ak) U fun eF ck c9=> ?_) (fun c w' I σ' A=>by
  obtain ⟨rfl,hb,rfl⟩:=I;exact kP U aW ((A 2<|.head _).trans U) ((A 3<|.tail _<|.head _).trans U) (ae) (by rw [bb,GK bI aV (fun h=>of_decide_eq_false hb<|by rw [h])]))
 obtain ⟨rfl,dG,rfl⟩:=c9;have dx:aH=s.length:=by have :=of_decide_eq_true dG; omega
 refine au 1 U<|bF<|du<|dE<|aP 1 U<|p (jk pO U (U) (show ∀ j,j < 7→ay ck.heap C (0 +j)=([.int .i64 ((if n≤64 then n else 0:Nat):Int),str t,.slice ac rs.length rc,ax,aA,aD,aE]:List ag)[j]? from fun j _=>by rw [cr,dg ae.c2]; simp))<|e<|ir rR U U U dt ae.c2 (by rw [ae.len]; decide) fun dK bR cB=> ?_;have dd:dK.heap[C]? =some (.cells ([.int .i64 ((if n≤64 then n else 0:Nat):Int),str t,.slice ac rs.length rc]++ [ax,aA,aD,aE]).toArray 92 (0,0)):=cB.trans<|by rw [lB (by rw [ae.len]; decide),yB,lG,j0]; rfl
 refine e<|fP vh U U (v:= .int .i64 0) U (bR.aq ae.c3 fun h=>by omega) aW fun dL bS cC=>au 1 U<|bF<|xe ?_;exact GW U aW U U (bS.aq dd fun h=>by omega) cC U (fun w' hm=>by
  unfold jA;rw [bb,GL bI aV dx];have bt:Md (fun k=>k=C∨k=M) ck dL:=(bR.mono fun _ _ h=> .inl h).trans<|bS.mono fun _ _ h=> .inr h;refine ⟨⟨_,U,ac,rc,_,U,a0,(fO<|cE (da bf bt fun k E h=>by have :=(dF bf E).1; omega) hm).2,fun i hi=>(((bq i hi).md bt fun k E hb=>absurd hb ab).wk hm).mono ab⟩,(ae.wk.trans' bt fun k E h=>by omega).trans hm⟩)
theorem qc {α:Type} {f:Nat→Except Nat (α×Nat)} (C:∀ a e,f a= .error e→e≠0):∀ {k a e:Nat},cU f k a= .error e→e≠0
 | 0,a,e,h=>by cases h
 | k+1,a,e,h=>by
   rw [cU] at h;split at h
   · rename_i E A;cases h;exact qc C A
   · split at h
     · rename_i E A;cases h;exact C _ _ A
     · cases h
theorem oY {s:List UInt8} {a e:Nat} (h:bE s a= .error e):e≠0:=by rcases BZ h with h | h <;> omega
theorem vC {s:List UInt8} {a e:Nat} (h:dy s a= .error e):e≠0:=by
 unfold dy at h;split at h
 · rename_i A; cases h; exact oY A
 · repeat' split at h
   all_goals first | (cases h; decide) | cases h
theorem K2 {s:List UInt8} {a e:Nat} (h:iq s a= .error e):e≠0:=by
 unfold iq at h;split at h
 · rename_i A; cases h; exact vC A
 · split at h
   · rename_i A; cases h; exact vC A
   · cases h
theorem Hk {s:List UInt8} {n a e:Nat} (h:fJ s n a= .error e):e≠0:=by
 unfold fJ at h;split at h
 · cases h; decide
 · split at h
   · rename_i A; cases h; exact oY A
   · split at h
     · cases h; decide
     · cases h
theorem Mc {s:List UInt8} {n a e:Nat} (h:fQ s n a= .error e):e≠0:=by
 unfold fQ at h;split at h
 · rename_i A; cases h; exact oY A
 · split at h
   · cases h; decide
   · split at h
     · rename_i A; cases h; exact qc (fun _ _=>Hk) A
     · cases h
theorem Lp {s:List UInt8} {a e:Nat} (h:ez s a= .error e):e≠0:=by
 unfold ez at h;split at h
 · rename_i A; cases h; exact oY A
 · split at h
   · cases h; decide
   · split at h
     · rename_i A; cases h; exact qc (fun _ _=>Mc) A
     · split at h
       · cases h
       · cases h; decide
theorem GU {s:List UInt8} {e:Nat} (h:dx s= .error e):e≠0:=by
 unfold dx at h;split at h
 · split at h
   · rename_i A; cases h; exact oY A
   · split at h
     · rename_i A; cases h; exact vC A
     · split at h
       · rename_i A; cases h; exact oY A
       · split at h
         · cases h; decide
         · split at h
           · rename_i A; cases h; exact qc (fun _ _=>K2) A
           · generalize (if _≤64 then _ else 0)=n0 at h;unfold jc at h;split at h
             · split at h
               · rename_i A; cases h; exact qc (fun _ _=>Lp) A
               · split at h
                 · cases h
                 · cases h; decide
             · cases h; decide
 · cases h; decide
theorem jA.form {s:List UInt8} {w w':ah} {v:ag} (h:jA s w v w'):∃ L M x2 O V Z aa e,v= .tuple #[.agg [L,M,x2,O,V,Z,aa].toArray,.int .i64 ((e:Nat):Int)]∧[L,M,x2,O,V,Z,aa].all kH=true∧Wk w w'∧
 ((e≠0∧dx s= .error e)∨(e=0∧∃ b,dx s= .ok b∧nW w' w.heap.size [L,M,x2,O,V,Z,aa] b)):=by
 obtain ⟨h,ac⟩:=h;cases hX:dx s with
 | error e=>
   rw [hX] at h;exact ⟨_,_,_,_,_,_,_,e,h,U,ac,.inl ⟨GU hX,U⟩⟩
 | ok b=>
   rw [hX] at h;obtain ⟨cs,ae,hb⟩:=h;obtain ⟨ak,rc,vs,rfl,ai,aj,ad⟩:=id hb;obtain ⟨C,E,I,J,rfl⟩:∃ C E I J,vs= [C,E,I,J]:=by
    match vs,ai with
    | [C,E,I,J],_=>exact ⟨_,_,_,_,rfl⟩
   have A:∀ i,i < 4→([C,E,I,J].getD i .nilFunc).oneCell'=true :=fun i hi=>by
    obtain ⟨_,_,e,_⟩:=(ad i hi).qL;rw [e]; rfl
   have g0:=A 0 ab;have g1:=A 1 ab;have g2:=A 2 ab;have g3:=A 3 ab;simp only [mr,Eb] at g0 g1 g2 g3;exact ⟨_,_,_,_,_,_,_,0,ae,by simp only [uj,D0,g0,g1,g2,g3]; rfl,ac,.inr ⟨U,b,U,hb⟩⟩
def eZ (w:ah) (B cb:Nat) (b:eY) (A:List UInt8):Prop := ∃ cs,aI w.heap cb (cs++ [str A])∧nW w B cs b∧B≤cb
theorem eZ.wk {w w':ah} {B cb:Nat} {b:eY} {A:List UInt8} (h:eZ w B cb b A) (hm:Wk w w'):eZ w' B cb b A:=by
 obtain ⟨cs,C,E,I⟩:=h;exact ⟨cs,Wk.B hm C,E.wk hm,I⟩
def EO (s:List UInt8) (w:ah) (v:ag) (w':ah):Prop :=(match dx s with
 | .ok b=> ∃ cb,v= .tuple #[.pointer (some ⟨cb,0,none⟩),.nilIface]∧eZ w' w.heap.size cb b s
 | .error e=>v= .tuple #[.pointer none,.iface 33 (.int .i64 ((e:Nat):Int))])∧Wk w w'
theorem JA (s:List UInt8) (w:ah) (aD:s.length≤1048576):
 aR aj 11 (bc [str s]) w (EO s w):=by
 refine enter func11 U ntmps11 U<|aP 8 U<|p mv<|e<|az (GX s w aD) U fun aO aE ar=> ?_;obtain ⟨A,C,x2,E,I,J,M,ae,rfl,aA,Z,V⟩:=jA.form ar;have aN:=Z.size;refine p mv<|ao 2 U<|e<|fI Di fun ad aS aG ai am=> ?_;have aL:=ai.size;refine e<|ir rR U U U aA am aW fun ac aq an=> ?_;have ap:aI ac.heap ad [A,C,x2,E,I,J,M]:=⟨_,an⟩
 have O:Wk aE ac:=ai.md.trans' aq fun k aJ h=>by omega
 have aM:=O.size;refine aC 10 U<|cd U (fun ax=> ?_) fun ax=> ?_;have V:ae≠0∧dx s= .error ae:=V.resolve_right fun h=>by omega
 refine aB 3 U<|p (wA sM U)<|au 6 U<|f2 U U U ?_;refine ⟨?_,Z.trans O⟩;rw [V.2];exact U;obtain ⟨aH,b,av,aw⟩:=V.resolve_left fun h=>by omega
 refine aB 4 U<|p (jk pO U (U) (show ∀ j,j < 7→ay ac.heap ad (0 +j)=([A,C,x2,E,I,J,M]:List ag)[j]? from fun j _=>ap.bd j))<|p mv<|p (Fu (ps:= [(0,.agg [A,C,x2,E,I,J,M].toArray),(1,str s)]) (L:= [A,C,x2,E,I,J,M,str s]) L5 U<|by simp [Instr.fill,Value.cells,str])<|e<|zc (L:= [A,C,x2,E,I,J,M,str s]) U fun ak aQ aF aa al=> ?_;have aK:=aa.size;refine au 5 U<|f2 U U U ?_;refine ⟨?_,(Z.trans O).trans aa.md⟩;rw [av];exact ⟨ak,U,_,⟨_,al⟩,aw.wk (O.trans aa.md),ab⟩
end Go.Hb.pL
end
section
namespace Go.Hb.rC
open Go.Hb.pM Go.Hb.mE Go.Hb.rB Go.Hb.uG Go.Hb.pL
theorem jB.zo {g0:List UInt8→Option Int} {B M bs n:Nat} {J:ag} {aa:aG} {g:List UInt8→Option Int} {C gz:List (List UInt8→Option Int)} {cs:List ag} {O:Int} {l:List (List UInt8)} {w w':ah} {v:ag} (h:jB B M bs J aa g C O l w v w') (ad:bX w B M bs J aa g n C cs) (Z:jz g0 C gz g) (hw:O=1∨O= -1):
 ∃ L A ac E V I,bX w' B M bs L aa A ac E V∧jz g0 E I A∧((I=gz∧A=g∧E=C)∨(I=gz++ [A]∧A≠g∧E.length=C.length+1))∧Md (iZ M bs J) w w'∧(∀ k,L.ownBlock=some k→J.ownBlock=some k∨w.heap.size≤k):=by
 have ak:O≠0:=ab;have same:Wk w w'→∃ L A ac E V I,bX w' B M bs L aa A ac E V∧jz g0 E I A∧((I=gz∧A=g∧E=C)∨(I=gz++ [A]∧A≠g∧E.length=C.length+1))∧Md (iZ M bs J) w w'∧(∀ k,L.ownBlock=some k→J.ownBlock=some k∨w.heap.size≤k):=fun hm=>
  ⟨J,g,n,C,cs,gz,ad.wk hm,Z,.inl ⟨rfl,rfl,rfl⟩,hm.mono (fun _ _ h=>h.elim),fun k h=> .inl h⟩
 rcases h with ⟨_,_,hm⟩ | ⟨aj,m,am,h⟩
 · exact same hm
 · rcases h with ⟨_,_,hm⟩ | ⟨ae,_,h⟩
   · exact same hm
   · rcases h with ⟨_,hm⟩ | ⟨L,V,⟨x,o,al⟩,hO',hM,hf⟩
     · exact same hm
     · have ai:fm g:=by
        have :=(Z.ok C.length<|by rw [Z.len]; omega).1;rwa [Z.last] at this
       exact ⟨L,_,m,_,V,gz++ [dT O (cy O g l) g],hO',Z.add (ai.put hw aj) hO'.eO ae (uN ad.nz),.inr ⟨U,F3 ak al,by rw [bB,fE]⟩,hM,hf⟩
theorem bX.My {w w':ah} {B B' J bs n m:Nat} {Z v:ag} {L:aG} {g:List UInt8→Option Int} {V:List (List UInt8→Option Int)} {cs:List ag} {x:List UInt8} {xs:List (List UInt8)} (h:bX w B J bs Z L g n V cs) (ai:dM w B' 9 1 v m ((x::xs).map str)) (hm:Md (fun k=>v.ownBlock=some k) w w'):bX w' B J bs Z L g n V cs:=by
 have key:∀ k,v.ownBlock=some k→∃ cur z,w.heap[k]? =some (.cells cur 9 z)∧cur[0]? =some (str x):=fun k C=>by
  rcases ai.2 with ⟨rfl,_⟩ | ⟨g0,cap,cur,rfl,_,ae,_,_,_,aj⟩
  · simp [cR] at C
  · simp only [cR,bp] at C;subst C;refine ⟨cur,_,ae,?_⟩;have h0:(cur.toList.take<|m*1)[0]? =some (str x):=by rw [aj]; rfl
    rw [gr] at h0;split at h0
    · simpa using h0
    · cases h0
 have I:∀ {k:Nat} {u:ag} {us:List ag},aI w.heap k (u::us)→u≠str x→¬v.ownBlock=some k:=fun {k u us} hb hu C=>by
  obtain ⟨cur,z,A,E⟩:=key k C;obtain ⟨e,he⟩:=hb;rw [he] at A;simp only [bp,Obj.cells.injEq] at A;rw [← A.1] at E;simp only [List.getElem?_toArray,fS,bp] at E;exact hu E
 have nm:∀ {k:Nat} {f:ag→Option ag},bN w.heap k cT f→¬v.ownBlock=some k:=fun {k f} hb C=>by
  obtain ⟨cur,z,A,_⟩:=key k C;exact hb.eE A
 exact ⟨hm.B h.obj (I h.obj<|by intro h; cases h),h.db.md hm (nm h.db),h.eO,h.nB,h.nz,h.lo,da h.back hm (fun k C ak=>by
  obtain ⟨cur,z,A,_⟩:=key k ak;exact sX h.back aW k C _ _ A),h.jW,h.bk.imp fun v q ⟨am,al,an,A,E,aa,ab,ac,ad,M,O,U⟩=>⟨am,al,an,A,E,aa,ab,ac,ad,hm.B M (I M<|by intro h; cases h),hm.B O (I O<|by intro h; cases h),U.md hm<|nm U⟩⟩
theorem bX.Mz {w w':ah} {B B' A bs n m:Nat} {I v:ag} {C:aG} {g:List UInt8→Option Int} {E:List (List UInt8→Option Int)} {cs:List ag} {l:List (List UInt8)} (h:bX w B A bs I C g n E cs) (L:dM w B' 9 1 v m (l.map str)) (J:l≠[]) (hm:Md (fun k=>v.ownBlock=some k) w w'):bX w' B A bs I C g n E cs:=by
 cases l with
 | nil=>exact absurd rfl J
 | cons x xs=>exact bX.My h L hm
theorem zq {g0:List UInt8→Option Int} {A gz:List (List UInt8→Option Int)} {g:List UInt8→Option Int} (h:jz g0 A gz g):fm g∧∃ m,cC g m∧m≤500:=by
 have :=h.ok A.length<|by rw [h.len]; omega
 rwa [h.last] at this
theorem Bo (o:Option aG) (w:ah):aR aj 12 #[.pointer o] w (fun v w'=>(o=none∧v= .pointer none∧Wk w w')∨∃ C A bs,o=some C∧v= .pointer (some ⟨A,0,none⟩)∧w.heap.size≤A∧w.heap.size≤bs∧bX w' w.heap.size A bs (.slice none 0 0) C (fun _=>none) 0 [] []∧Wk w w'):=by
 cases o with
 | none=>exact (JT w).mono fun v w' ⟨I,E⟩=> .inl ⟨rfl,I,E⟩
 | some C=>
   refine (Bp C w).mono fun v w' ⟨A,bs,I,E,J,V,L,M,O⟩=> .inr ⟨C,A,bs,U,I,E,J,?_,O⟩;exact ⟨L,M,⟨[],List.nodup_nil,U,fun k=>⟨fun ⟨v,h⟩=>(by rw [oE] at h; cases h),fun h=>by simp at h⟩⟩,ab,fun x h=>(by cases h),⟨E,J⟩,iz _ _ _ _,(fun h=>by simp [cR] at h),trivial⟩
theorem dC.JU {α β:Type} {R:α→β→Prop} :∀ {l:List α},dC R l ([]:List β)→l= []
 | [],_=>rfl
 | _::_,h=>h.elim
theorem Mp {α:Type} {l:List α} {k:Nat} {d:α} (h:k < l.length):l.take (k+1)=l.take k++ [l.getD k d]:=by
 rw [List.take_add_one,bR h,cn,bR h]; rfl
theorem MI {g0:List UInt8→Option Int} {B E bs n k:Nat} {I:ag} {L:aG} {C gz:List (List UInt8→Option Int)} {gT:List UInt8→Option Int} {cs:List ag} (w:ah) (V:jz g0 C gz gT) (A:bX w B E bs I L (gz.getD k dG) n (C.take k) cs) (ak:k≤C.length) (ai:C.length≤1048576):
 aR aj 16 #[.pointer (some ⟨E,0,none⟩)] w (fun v w'=>v= .bool (decide (0 < k))∧∃ M O ae,bX w' B E bs M L (gz.getD (k - 1) dG) ae (C.take<|k - 1) O∧Md (iZ E bs I) w w'∧(∀ j,M.ownBlock=some j→I.ownBlock=some j)):=by
 cases k with
 | zero=>
   rw [yB] at A;obtain rfl :=dC.JU A.bk;refine (CY B E bs I L _ n w A).mono fun v w' ⟨U,J⟩=>⟨U,I,[],n,?_,J.mono (fun _ _ h=>h.elim),fun j h=>h⟩
   rw [yB]; exact A.wk J
 | succ k=>
   rw [Mp (d:=dG) ab] at A;have hb:=V.back k ab;obtain ⟨_,m,hm,ac⟩:=V.ok k<|by rw [V.len]; omega
   have ad:=dC.len A.bk;simp only [bB,bW,fE] at ad;refine (CZ B E bs I L _ (C.getD k dG) n m (C.take k) cs w A (by rw [hb]; exact hm) ac ab).mono fun v w' ⟨U,M,O,J,Z,aa⟩=>⟨U.trans (by simp),M,O,m,?_,Z,aa⟩
   rw [hb] at J;exact J
end Go.Hb.rC
end
section
namespace Go.Hb.eZ
open Go.Hb.pL
def iO (c:UInt8) (es:List (UInt8×Int)):Nat:=es.findIdx fun e=>e.1==c
theorem IV {c:UInt8} {es:List (UInt8×Int)} {i:Nat} {e:UInt8×Int} (he:es[i]? =some e) (C:e.1=c) (I:∀ (j:Nat) (A:UInt8×Int),j < i→es[j]? =some A→A.1≠c):iO c es=i:=by
 unfold iO;obtain ⟨hi,rfl⟩:=cB.1 he;rw [List.findIdx_eq hi];refine ⟨by simpa using C,fun j E=> ?_⟩;have :=I j _ E<|bR ab;simpa using this
theorem IW {c:UInt8} {es:List (UInt8×Int)} (E:∀ (j:Nat) (A:UInt8×Int),es[j]? =some A→A.1≠c):iO c es=es.length:=by
 unfold iO;refine List.findIdx_eq_length.2 fun e he=> ?_;obtain ⟨j,C⟩:=List.mem_iff_getElem?.1 he;simpa using E j e C
def gZ (l:List bC):Nat→List UInt8→Option Nat×Nat
 | n,[]=>(some n,0)
 | n,c::w=>if iO c (bj l n).2 < (bj l n).2.length then ((gZ l ((bj l n).2.getD (iO c (bj l n).2) (0,0)).2.toNat w).1,(gZ l ((bj l n).2.getD (iO c (bj l n).2) (0,0)).2.toNat w).2 +1) else (none,0)
def jC (l:List bC) (w:List UInt8):Option Nat×Nat:=if l= [] then (none,0) else gZ l 0 w
def j7 (l:List bC) (w:List UInt8):Bool:=match (jC l w).1 with
 | some n=>(bj l n).1
 | none=>false
def iC (l:List bC):Prop :=l.length≤1048576∧∀ x∈l,x.2.length≤256∧∀ e∈x.2,0≤e.2∧e.2 < l.length
theorem iC.nil:iC []:=⟨by simp,fun x A=>by simp at A⟩
theorem iC.st {l:List bC} (h:iC l) {n:Nat} (hn:n < l.length):(bj l n).2.length≤256∧∀ (i:Nat) e,(bj l n).2[i]? =some e→0≤e.2∧e.2 < l.length:=by
 have :=h.2 _<|iM (d:=dI) hn;exact ⟨this.1,fun i e he=>this.2 e<|jy he⟩
def b9 (b:eY) (n:Int):List bC:=if 0≤n∧n < 4 then b.jV.getD n.toNat [] else []
theorem Lq {s:List UInt8} {b:eY} (h:b.Is s) (n:Int):iC (b9 b n):=by
 unfold b9;split
 · rename_i hn;have hm:b.jV.getD n.toNat []∈b.jV:=iM<|by rw [h.J3]; omega
   obtain ⟨_,A,C⟩:=h.jV _ hm;exact ⟨A,C⟩
 · exact iC.nil
theorem eZ.sec {w:ah} {B cb:Nat} {b:eY} {J:List UInt8} (h:eZ w B cb b J) {n:Nat} (hn:n < 4):∃ A cc,ay w.heap cb (3 +n)=some (.slice A (b.jV.getD n []).length cc)∧gC w.heap A (b.jV.getD n []):=by
 obtain ⟨cs,C,⟨M,rc,vs,rfl,L,_,E⟩,_⟩:=h;obtain ⟨A,cc,e,_,I⟩:=(E n hn).qL;refine ⟨A,cc,?_,I⟩;rw [C.ay,eW (by simp only [bB,bA,fk]; omega),eI (by simp)];rw [cn] at e;have :vs[n]? =some (vs[n]'ab):=bR ab;rw [this] at e;show vs[3 +n - 3]? =_;rw [Nat.add_sub_cancel_left,this,← e]; rfl
theorem gC.none (h:Array Obj):gC h none []:=⟨fun h=>by simp at h,fun i hi=>by simp at hi⟩
theorem Lr (B I:Nat) (b:eY) (V:List UInt8) (n:Int) (w:ah) (J:eZ w B I b V):
 aR aj 130 (bc [aH I,.int .i64 n]) w (fun v w'=>(∃ C cc,v= .slice C (b9 b n).length cc∧gC w'.heap C (b9 b n))∧Wk w w'):=by
 refine enter func130 U ntmps130 U<|aP 9 U<|p (fY pc U U)<|ao 1 U<|gb (t:=7) U (fun h=>absurd (h.symm.trans<|U) dd) fun Z=>ao 4 U<|gs (t:=11) U (fun M=> ?_) fun M=> ?_;refine au 13 U<|aJ U ?_;have A:b9 b n= []:=if_neg ab;rw [A];exact ⟨⟨none,0,U,gC.none _⟩,Md.refl _ _⟩;refine aC 5 U<|cd U (fun L=> ?_) fun L=> ?_;refine aK 7 U<|aJ U ?_;have A:b9 b n= []:=if_neg ab;rw [A];exact ⟨⟨none,0,U,gC.none _⟩,Md.refl _ _⟩;obtain ⟨k,rfl⟩:∃ k:Nat,n=(k:Int):=⟨n.toNat,ab⟩
 have A:b9 b (k:Int)=b.jV.getD k []:=if_pos ab;obtain ⟨C,cc,E,O⟩:=eZ.sec J (n:=k) ab;rw [show 3 +k=0 +0 +3 +((k:Nat):Int).toNat*1 by omega] at E;refine aB 9 U<|p (p7 y4 U U ab)<|p (aM U<|E)<|p aE<|au 3 U<|aJ U ?_;rw [A];exact ⟨⟨C,cc,U,O⟩,Md.refl _ _⟩
theorem E5 (C:UInt8×Int) (x:List UInt8) (i J I:Nat) (w:ah) (M:aI w.heap J [str x]) (L:aI w.heap I [bL i]) (hi:i < x.length):
 aR aj 132 (bc [.agg #[.int .u8 C.1.toNat,.int .i64 C.2],aH J,aH I]) w (fun v w'=>v= .bool (decide (C.1=x.getD i 0))∧Wk w w'):=by
 exact enter func132 U ntmps132 U<|aP 2 U<|e<|rL U fun V aa Z E O=>aC 4 U<|mV fun A=>cD [0] U A<|il 1 U A (O.bd 0)<|il 2 U A ((Wk.B E.md M).bd 0)<|il 3 U A ((Wk.B E.md L).bd 0)<|iN 4 U (ga u9 U U ab) A<|cD [5,6] U A<|hn ai<|bG 2 U<|aJ U<|⟨bv (by rw [Int.ofNat_inj,UInt8.toNat_inj]),E.md.drew⟩
theorem IX (a:Option aG) (c:Nat) (es:List (UInt8×Int)) (x:List UInt8) (i J I:Nat) (w:ah) (Z:lK w.heap a es) (ai:aI w.heap J [str x]) (ag:aI w.heap I [bL i]) (hi:i < x.length) (an:es.length≤256):
 aR aj 131 (bc [.slice a es.length c,.func (.func 132) #[] #[aH J,aH I]]) w (fun v w'=>(∃ r:Int,v= .int .i64 r∧((r=(iO (x.getD i 0) es:Nat)∧iO (x.getD i 0) es < es.length)∨(r= -1∧iO (x.getD i 0) es=es.length)))∧Wk w w'):=by
 refine enter func131 U ntmps131 U<|aP 8 U<|p mv<|aC 5 U<|lp (fun O ad M=> ∃ (k:Nat),(k≤es.length)∧(∀ (j:Nat) (A:UInt8×Int),j < k→es[j]? =some A→A.1≠x.getD i 0)∧(Wk w M)∧(Sl ad [(0,.slice a es.length c),(1,.func (.func 132) #[] #[aH J,aH I]),(7,bL (es.length)),(8,bL k)])∧(es.length - k=O)) _ ⟨0,ab,(fun j d ac=>by omega),(Md.refl _ _),U,U⟩ ?_;rintro O ad M ⟨k,am,L,C,al,rfl⟩;refine cH al<|cS 6 U<|cd U (fun ak=> ?_) fun ak=> ?_;refine cx 11 U ?_;obtain ⟨ae,he⟩:∃ d,es[k]? =some d:=⟨_,bR ab⟩
 refine aB 4 U<|p (fv rZ U U ab<|Z.ok ab)<|p (jk yQ U (U)<|(Z.wk C).two he)<|e<|u6 FI U (E5 ae x i J I M (Wk.B C ai) (Wk.B C ag) hi) U ?_;rintro ao ap ⟨rfl,V⟩;refine aC 2 U<|cb U (fun hm=> ?_) fun hm=> ?_;refine aK 9 U<|tr<|bG 2 U<|aJ U ?_;have aa:=IV he (of_decide_eq_true hm) L;exact ⟨⟨(k:Nat),U,.inl ⟨by rw [aa],by rw [aa]; omega⟩⟩,C.trans V⟩;exact aB 4 U<|p (cK<|k+1)<|au 2 U<|tn<|⟨_,ab,k+1,ab,(fun j A ac E=>by rcases Nat.lt_succ_iff_lt_or_eq.1 ac with h | rfl; exact L j A h E; rw [he] at E; cases E; exact of_decide_eq_false hm),(C.trans V),U,U⟩
 exact aK 2 U<|eH<|bG 8 U<|aJ U<|⟨⟨-1,U,.inr ⟨U,IW fun j A E=>L j A (by have :=(cB.1 E).1; omega) E⟩⟩,C⟩
theorem E8 {l:List bC} {n:Nat} :gZ l n []=(some n,0):=rfl
theorem E9 {l:List bC} {n:Nat} {c:UInt8} {w:List UInt8} (h:iO c (bj l n).2=(bj l n).2.length):gZ l n (c::w)=(none,0):=by
 rw [gZ,if_neg ab]
theorem E7 {l:List bC} {n m:Nat} {c:UInt8} {w:List UInt8} {e:UInt8×Int} (h:(bj l n).2[iO c (bj l n).2]? =some e) (he:e.2=(m:Int)):gZ l n (c::w)=((gZ l m w).1,(gZ l m w).2 +1):=by
 have A:=(cB.1 h).1;rw [gZ,if_pos A,cn,h];show ((gZ l e.2.toNat w).1,(gZ l e.2.toNat w).2 +1)=_;rw [he,Int.toNat_natCast]
theorem G7 {x:List UInt8} {k:Nat} (h:k < x.length):x.drop k=x.getD k 0::x.drop (k+1):=by
 rw [List.drop_eq_getElem_cons h,cn,bR h]; rfl
def EM (l:List bC) (x:List UInt8) (w:ah) (v:ag) (w':ah):Prop :=Wk w w'∧∃ p,v= .tuple #[p,.int .i64 ((jC l x).2:Nat)]∧match (jC l x).1 with
 | none=>p= .pointer none
 | some q=> ∃ A C,p= .pointer (some ⟨A,C,none⟩)∧ay w'.heap A (C+0)=some (.bool (bj l q).1)
theorem yU (B ak:Nat) (b:eY) (aO:List UInt8) (n:Int) (x:List UInt8) (w:ah) (aU:eZ w B ak b aO) (aD:iC (b9 b n)) (bg:x.length≤4294967296):
 aR aj 83 (bc [aH ak,.int .i64 n,str x]) w (EM (b9 b n) x w):=by
 obtain ⟨a9,ba⟩:=id aD;refine enter func83 U ntmps83 U<|aP 2 U<|e<|rK U U fun L a8 bf Z aw=> ?_;have bi:=Z.size;refine ao 6 U<|p mv<|p mv<|e<|az (Lr B ak b aO n a8<|aU.wk Z.md) U ?_;rintro bn a7 ⟨⟨am,cc,rfl,aX⟩,hE14⟩;have aA:=Z.md.trans hE14;refine p aE<|ao 5 U<|p mv<|aC 4 U<|cd U (fun aY=> ?_) fun aY=> ?_;have I:(b9 b n).length=0:=ab;refine aK 8 U<|f2 U U U ?_;have C:jC (b9 b n) x=(none,0):=if_pos<|List.eq_nil_of_length_eq_zero I;refine ⟨aA,.pointer none,by rw [C]; rfl,?_⟩;rw [C];have I:0 < (b9 b n).length:=ab;refine aB 10 U<|p (aM U<|(aI.bd ⟨_,Wk.aq hE14 aw⟩ 0:ay a7.heap L 0=some (str x)))<|aC 5 U<|lp (fun av aQ J=> ∃ (k q:Nat),(k≤x.length)∧(q < (b9 b n).length)∧(jC (b9 b n) x=((gZ (b9 b n) q<|x.drop k).1,(gZ (b9 b n) q<|x.drop k).2 +k))∧(gC J.heap am<|b9 b n)∧(aI J.heap L [str x])∧(Wk w J)∧(Sl aQ [(5,aH L),(8,.slice am (b9 b n).length cc),(9,bL q),(19,bL (x.length)),(20,bL k)])∧(x.length - k=av)) _ ⟨0,0,ab,I,(by rw [jC,if_neg (fun h=>by rw [h] at I; simp at I)]; rfl),aX,(⟨_,Wk.aq hE14 aw⟩),aA,U,U⟩ ?_;rintro av aQ J ⟨k,q,a1,ag,ad,E,ac,O,a4,rfl⟩;refine cH a4<|cS 6 U<|cd U (fun aZ=> ?_) fun aZ=> ?_;refine aB 7 U<|e<|fI NB fun an bp bb aF aS=> ?_;have bh:=aF.size;refine e<|fP pR U U U aS (by simp) fun al aW aT=> ?_;have ax:aI al.heap an [bL k]:=⟨_,aT⟩
 have A:Wk J al:=Md.trans' aF.md aW fun k a1 h=>by omega
 have bl:=A.size;refine aC 3 U ?_;obtain ⟨ap,ar,aa,aV⟩:=E.two ag;have aJ:=tE A aa;have V:=aV.wk A;obtain ⟨a2,a3⟩:=aD.st ag;have aL:=G7 (x:=x) (k:=k) ab;refine aB 3 U<|p (fv r6 U U ab<|E.ok ab)<|ao 1 U<|p (aM U<|aJ 1 ab)<|p oG<|e<|az (IX ap ar (bj (b9 b n) q).2 x k L an al V (A.B ac) ax ab a2) U ?_;rintro bo bq ⟨⟨bm,rfl,aN⟩,hE29⟩;refine aC 10 U<|cd U (fun a0=> ?_) fun a0=> ?_;have ae:=aN.resolve_left fun h=>by omega
 refine cx 1 U<|mV fun aG=>il 0 U aG ((hE29.B ax).bd 0)<|cD [1,2] U aG<|hn ai<|bG 5 U<|tr<|bG 2 U<|f2 U U U ?_;have C:jC (b9 b n) x=(none,k):=by rw [ad,aL,E9 ae.2]; simp
 refine ⟨(O.trans<|A.trans hE29).drew,.pointer none,by rw [C]; rfl,?_⟩;rw [C];obtain ⟨rfl,ae⟩:=aN.resolve_right fun h=>by omega
 refine cx 2 U ?_;obtain ⟨⟨c,z⟩,he⟩:∃ e,(bj (b9 b n) q).2[iO (x.getD k 0) (bj (b9 b n) q).2]? =some e:=⟨_,bR ae⟩
 obtain ⟨a5,a6⟩:=a3 _ _ he;obtain ⟨m,rfl⟩:∃ m:Nat,z=(m:Int):=⟨z.toNat,by simp only at a5; omega⟩
 simp only at a6;exact aB 3 U<|p (fv r6 U U ab<|E.ok ab)<|ao 1 U<|p (aM U<|(tE hE29 aJ) 1 ab)<|ao 1 U<|p (fv rZ U U ab<|V.ok ab)<|ao 1 U<|p (aM U (show _=some (bT .i64 ((m:Nat):Int)) from (V.wk hE29).to _ (c,_) he))<|ao 5 U<|p (cK<|k+1)<|au 2 U<|tn<|⟨_,ab,k+1,m,ab,ab,(by rw [ad,aL,E7 he U]; simp only [Prod.mk.injEq,true_and]; omega),(E.wk<|A.trans hE29),(Wk.B (A.trans hE29) ac),(O.trans<|A.trans hE29),U,U⟩
 refine aK 2 U<|eH<|ji 3 U<|mV fun M=>cD [0,1] U M<|iN 2 U (fv r6 U U ab<|E.ok ab) M<|il 3 U M (ac.bd 0)<|cD [4,5,6] U M<|hn ai<|bG 2 U<|f2 U U U ?_;obtain rfl :k=x.length:=ab;have C:jC (b9 b n) x=(some q,x.length):=by rw [ad,List.drop_length,E8]; simp
 refine ⟨Md.drew O,_,by rw [C]; rfl,?_⟩;rw [C];obtain ⟨ap,ar,aa,_⟩:=E.two ag;exact ⟨_,_,U,aa 0 ab⟩
theorem IG (B A:Nat) (b:eY) (E:List UInt8) (n:Int) (x:List UInt8) (w:ah) (I:eZ w B A b E) (L:iC (b9 b n)) (O:x.length≤4294967296) (C:(jC (b9 b n) x).1=none):
 aR aj 40 (bc [aH A,.int .i64 n,str x]) w (fun v w'=>v= .bool (j7 (b9 b n) x)∧Wk w w'):=by
 refine enter func40 U ntmps40 U<|aP 7 U<|p mv<|p mv<|p mv<|e<|az (yU B A b E n x w I L O) U ?_;rintro Z aa ⟨J,p,rfl,hp⟩;rw [C] at hp;subst hp;refine p mv<|ao 2 U<|p aE<|ao 5 U<|p mv<|p (qp CS U U)<|ao 1 U<|gb (t:=18) U (fun h=>absurd (h.symm.trans<|U) dd) fun V=>ao 5 U<|p aE<|au 3 U<|aJ U ?_;have M:j7 (b9 b n) x=false :=by rw [j7,C]
 rw [M];exact ⟨U,J⟩
theorem II (B A:Nat) (b:eY) (E:List UInt8) (n:Int) (x:List UInt8) (w:ah) (I:eZ w B A b E) (L:iC (b9 b n)) (V:x.length≤4294967296) (q:Nat) (C:(jC (b9 b n) x).1=some q):
 aR aj 40 (bc [aH A,.int .i64 n,str x]) w (fun v w'=>v= .bool (j7 (b9 b n) x)∧Wk w w'):=by
 refine enter func40 U ntmps40 U<|aP 7 U<|p mv<|p mv<|p mv<|e<|az (yU B A b E n x w I L V) U ?_;rintro ac ad ⟨J,p,rfl,hp⟩;rw [C] at hp;obtain ⟨Z,ab,rfl,O⟩:=hp;refine p mv<|ao 2 U<|p aE<|ao 5 U<|p mv<|p (qp CS U U)<|ao 1 U<|gb (t:=18) U (fun aa=> ?_) fun h=>absurd ((U).symm.trans h) dd;refine bU U mv<|ao 2 U<|bU U (aM U<|O)<|au 5 U<|aJ U ?_;have M:j7 (b9 b n) x=(bj (b9 b n) q).1:=by rw [j7,C]
 rw [M];exact ⟨U,J⟩
theorem IJ (B A:Nat) (b:eY) (C:List UInt8) (n:Int) (x:List UInt8) (w:ah) (E:eZ w B A b C) (I:iC (b9 b n)) (J:x.length≤4294967296):aR aj 40 (bc [.pointer (some ⟨A,0,none⟩),.int .i64 n,str x]) w (fun v w'=>v= .bool (j7 (b9 b n) x)∧Wk w w'):=by
 cases hX:(jC (b9 b n) x).1 with
 | none=>exact IG B A b C n x w E I J hX
 | some q=>exact II B A b C n x w E I J q hX
theorem zn (B A:Nat) (b:eY) (C:List UInt8) (x:List UInt8) (w:ah) (E:eZ w B A b C) (J:iC (b9 b 0)) (L:x.length≤4294967296):
 aR aj 21 (bc [aH A,str x]) w (fun v w'=>v= .bool (j7 (b9 b 0) x)∧Wk w w'):=by
 refine enter func21 U ntmps21 U<|aP 7 U<|p mv<|p mv<|e<|az (IJ B A b C 0 x w E J L) U ?_;rintro M O ⟨rfl,I⟩;exact au 4 U<|aJ U<|⟨U,I⟩
end Go.Hb.eZ
end
namespace Go.Hb
theorem Fz {b:Bool} (h:(!b)=true):b=false :=by cases b; rfl; cases h
theorem Fy {b:Bool} (h:(!b)=false):b=true :=by cases b; cases h; rfl
def zS:Except Nat (List UInt8×Int)→ag
 | .ok (x,o)=> .tuple #[str x,.int .i64 o,.int .i64 0]
 | .error e=> .tuple #[str [],.int .i64 0,.int .i64 ((e:Nat):Int)]
theorem Hn (f:List (List UInt8)):∃ x o e,zS (dZ f)= .tuple #[str x,.int .i64 o,.int .i64 ((e:Nat):Int)]∧((e=0∧dZ f= .ok (x,o))∨(e≠0∧dZ f= .error e)):=by
 cases h:dZ f with
 | ok p=>exact ⟨p.1,p.2,0,rfl,.inl ⟨rfl,rfl⟩⟩
 | error e=>exact ⟨[],0,e,rfl,.inr ⟨(Hu h).1,rfl⟩⟩
theorem Hy (a:Option aG) (cap:Nat) (f:List (List UInt8)) (w:ah) (M:dN w.heap a f) (an:∀ x∈f,x≠[]) (am:∀ x∈f,x.length≤1048576) (au:f.length≤1048577):
 aR aj 29 (bc [.slice a f.length cap]) w (fun v w'=>v=zS (dZ f)∧Wk w w'):=by
 refine enter func29 U ntmps29 U<|aP 10 U<|p mv<|aC 4 U<|cd U (fun ag=> ?_) fun ag=> ?_;exact aK 9 U<|f3 U U U U<|⟨by rw [Ht ab]; rfl,Md.refl _ _⟩
 have I:f.length=1:=ab;have av:0 < (f.getD 0 []).length:=Ef.2<|an _<|iM ab;have aw:(f.getD 0 []).length≤1048576:=am _<|iM ab;have aq:=Nk<|(f.getD 0 []).drop 1;rw [gS] at aq;refine cx 7 U ?_;refine lu (fun ae ac=> ∃ (o:Int),((o=1∧c8 f=43)∨(o= -1∧c8 f=45))∧(Wk w ac)∧(Sl ae [(0,.slice a f.length cap),(5,.int .i64 o)])) ?_ ?_;refine aP 2 U<|p mv<|p (fv mM U U ab<|bo.ok (M)<|oJ ab)<|p (aM U<|dN.get (i:=0) M ab)<|p (qe 0 u9 U U ab)<|aC 9 U<|cd U (fun ai=> ?_) fun ai=> ?_;have A:c8 f=43:=by unfold c8; omega
 exact aK 2 U<|tn<|⟨1,(.inl ⟨U,A⟩),(Md.refl _ _),U⟩
 have aa:c8 f≠43:=by unfold c8; omega
 refine cx 6 U<|cd U (fun ak=> ?_) fun ak=> ?_;have A:c8 f=45:=by unfold c8; omega
 exact aK 4 U<|tn<|⟨-1,(.inr ⟨U,A⟩),(Md.refl _ _),U⟩
 have ap:c8 f≠45:=by unfold c8; omega
 exact aK 9 U<|tr<|f3 U U U U<|⟨by rw [Hv I aa ap]; rfl,Md.refl _ _⟩
 rintro ae ac ⟨o,ao,C,aa⟩;refine cH aa ?_;have A:c8 f=43∨c8 f=45:=ab;refine aB 3 U<|p (fv mM U U ab<|bo.ok (M.wk C)<|oJ ab)<|p (aM U<|dN.get (i:=0) (M.wk C) ab)<|p (nu u9 U U ab)<|e<|az (Nl ((f.getD 0 []).drop 1) ac<|by rw [gS]; omega) U ?_;rintro ax ar ⟨rfl,L⟩;refine p mv<|aC 19 U<|cd U (fun al=> ?_) fun al=> ?_;have E:(dm f).2.2.2≠0:=by show (ju<|(f.getD 0 []).drop 1).2.2.2≠0; omega
 exact aK 11 U<|f3 U U U U<|⟨by rw [Hs I A E]; rfl,C.trans L⟩
 have E:(dm f).2.2.2=0:=by show (ju<|(f.getD 0 []).drop 1).2.2.2=0; omega
 refine cx 6 U<|cb U (fun V=> ?_) fun V=> ?_;have J:(dm f).2.2.1=true :=V;exact aK 10 U<|f3 U U U U<|⟨by rw [Hr I A E J]; rfl,C.trans L⟩
 have J:(dm f).2.2.1=false :=V;refine aB 3 U<|e<|az (xU (ju<|(f.getD 0 []).drop 1).1 ar ab) U ?_;rintro ay aA ⟨rfl,ad⟩;refine aC 4 U<|cb U (fun Z=> ?_) fun Z=> ?_;have O:cJ (dm f).1=false :=Fz Z;exact aK 10 U<|f3 U U U U<|⟨by rw [Ho I A E J O]; rfl,(C.trans L).trans ad⟩
 have O:cJ (dm f).1=true :=Fy Z;refine aK 13 U<|f3 U U U U ?_;refine ⟨?_,(C.trans L).trans ad⟩;rw [vl I A E J O];rcases ao with ⟨rfl,h⟩ | ⟨rfl,h⟩;rw [if_pos h]; rfl;rw [if_neg ab]; rfl
theorem vG (b:UInt8) (w:ah):
 aR aj 116 (bc [.int .u8 b.toNat]) w (fun v w'=>v= .bool (lV b)∧Wk w w'):=by
 refine enter func116 U ntmps116 U<|aP 10 U<|gs (t:=5) U (fun A=> ?_) fun A=> ?_;exact ao 3 U<|p aE<|au 3 U<|aJ U<|⟨by show bO true =_; rw [vF,decide_eq_true (.inl ab)],Md.refl _ _⟩
 exact au 7 U<|aJ U<|⟨by show bO (decide ((b.toNat:Int)=9))=_; rw [vF]; exact congrArg bO (decide_eq_decide.2 ab),Md.refl _ _⟩
theorem HU (l:List UInt8) (w:ah) (a5:l.length≤1048576):
 aR aj 63 (bc [str l]) w (fun v w'=>dM w' w.heap.size 9 1 v (bP [] l).length ((bP [] l).map str)∧Wk w w'):=by
 refine enter func63 U ntmps63 U<|cS 24 U<|lp (fun ax aA av=> ∃ (i:Nat) (fr:Int) (M:List UInt8) (A:List (List UInt8)) (v:ag),(i≤l.length)∧(fG l i fr M)∧(A++bP M (l.drop i)=(bP [] l))∧(Wk w av)∧(dM av w.heap.size 9 1 v (A).length<|(A).map str)∧(Sl aA [(0,str l),(3,v),(4,.int .i64 fr),(7,.int .i64 l.length),(8,.int .i64 i)])∧(l.length - i=ax)) _ ⟨0,-1,[],[],.slice none 0 0,ab,fG.no,U,(Md.refl _ _),(iz _ _ _ _),U,U⟩ ?_;rintro ax aA av ⟨i,fr,M,A,v,hi,J,C,aa,ak,aV,rfl⟩;refine cH aV ?_;have a2:A.length≤l.length+1:=by have O:=congrArg lE C; have L:=vz l []; rw [bB] at O; omega
 refine cS 6 U<|cd U (fun aO=> ?_) fun aO=> ?_;refine aB 15 U<|p (ga u9 U U ab)<|e<|az (vG (l.getD i 0) _) U ?_;rintro a9 aX ⟨rfl,ay⟩;have ac:Wk w aX:=Md.trans aa ay;have a6:=ac.size;have al:=cE ak ay;refine ao 1 U<|gb (t:=16) U (fun I=> ?_) fun I=> ?_;refine aC 6 U<|cd U (fun aM=> ?_) fun aM=> ?_;obtain ⟨p6,Z,ar⟩:=J.pos ab;refine aB 2 U<|wU (v)<|ao 3 U<|p (tz u9 U U U ab)<|e<|n7 ku U U fun aY ba a0 ae aD=>e<|ap ku (cE al ae.md) U (by have :=ae.size; omega) U (bo.jT aD) (U) (U) ab ab fun aW bb aP aI a7 a3=> ?_;have aG:=Wk.own (Md.trans ac ae.md) (cE al ae.md) aI<|aT _;have aQ:=BJ aP;exact p aE<|au 12 U<|tn<|⟨_,ab,i+1,-1,[],A++ [(l.take i).drop fr.toNat],aW,ab,fG.no,(by rw [drop_cons 0 ab,H8 I ar,Z] at C; rw [gQ]; exact C),aG,aQ,U,U⟩
 refine aB 4 U<|p (ga u9 U U ab)<|e<|az (vG (l.getD i 0) _) U ?_;rintro v31 aw ⟨rfl,V⟩;have ad:Wk w aw:=Md.trans ac V;have am:=cE al V;refine ao 2 U<|gb (t:=33) U (fun E=> ?_) fun E=> ?_;refine aC 6 U<|cd U (fun an=> ?_) fun an=> ?_;refine aK 11 U<|tn ?_;rw [I] at E; cases E;refine aK 8 U<|tn ?_;rw [I] at E; cases E;exact ao 3 U<|p aE<|au 11 U<|tn<|⟨_,ab,i+1,fr,M,A,v,ab,(by obtain ⟨O,L⟩:=J.neg ab; subst O L; exact fG.no),(by obtain ⟨O,L⟩:=J.neg ab; subst L; rw [drop_cons 0 ab,H7 I] at C; exact C),ad,am,U,U⟩
 refine ao 3 U<|p aE<|ao 7 U<|p (ga u9 U U ab)<|e<|az (vG (l.getD i 0) _) U ?_;rintro v31 aw ⟨rfl,V⟩;have ad:Wk w aw:=Md.trans ac V;have am:=cE al V;refine ao 2 U<|gb (t:=33) U (fun E=> ?_) fun E=> ?_;refine aC 6 U<|cd U (fun an=> ?_) fun an=> ?_;exact aK 11 U<|tn<|⟨_,ab,i+1,i,[l.getD i 0],A,v,ab,(fG.begin ab),(by obtain ⟨O,L⟩:=J.neg ab; subst L; rw [drop_cons 0 ab,vA I] at C; exact C),ad,am,U,U⟩
 exact aK 8 U<|tn<|⟨_,ab,i+1,fr,M++ [l.getD i 0],A,v,ab,(J.more ab ab),(by rw [drop_cons 0 ab,vA I] at C; exact C),ad,am,U,U⟩
 refine ao 3 U<|p aE<|au 11 U<|tn ?_;rw [I] at E; cases E;refine aK 2 U<|eH<|ji 9 U<|cd U (fun aN=> ?_) fun aN=> ?_;obtain ⟨p6,Z,ar⟩:=J.pos ab;refine aB 1 U<|wU (v)<|ao 2 U<|p (nu u9 U U ab)<|e<|n7 ku U U fun aZ bd a1 ai aF=>e<|ap ku (cE ak ai.md) U (by have :=ai.size; have :=aa.size; omega) U (bo.jT aF) (U) (U) ab ab fun v46 bf aS aL a8 a4=> ?_;have aH:=Wk.own (Md.trans aa ai.md) (cE ak ai.md) aL<|aT _;have aU:=BJ aS;refine p aE<|ao 4 U<|p mv<|p aE<|au 3 U<|aJ U ?_;have aq:A++ [l.drop fr.toNat]=(bP [] l):=by rw [← C,show l.drop i= [] from lB ab,Am ar,Z,List.take_of_length_le ab]
 exact ⟨by rw [← aq]; exact aU,aH⟩;obtain ⟨p6,Z⟩:=J.neg ab;refine aB 4 U<|wU (v)<|p (Fj (v) U)<|au 3 U<|aJ U ?_;have aq:A=(bP [] l):=by rw [← C,lB ab,Z,H9,j0]
 exact ⟨by rw [← aq]; exact ak,aa⟩
end Go.Hb
namespace Go.Hb.uF
theorem BM {s A:List UInt8} (h:s.take A.length=A):A.length≤s.length:=by grind
theorem Mm {s:List UInt8} (h:decide (1≤s.length∧s.drop (s.length - 1)= [13])=true):eR s=s.take (s.length - 1):=by
 have A:=of_decide_eq_true h;rw [AR ab] at A;exact Hm ab<|by simpa using A.2
theorem Mn {s:List UInt8} (h:decide (1≤s.length∧s.drop (s.length - 1)= [13])=false):eR s=s:=by
 have A:=of_decide_eq_false h;refine zR fun C=>A ⟨ab,?_⟩;rw [AR ab,C.2]
theorem IU (c:UInt8):dQ c [c]=0:=by unfold dQ; simp
theorem vK (s A:List UInt8) (w:ah) (E:s.length≤1099511627776) (hp:A.length≤1099511627776):
 aR aj 121 (bc [str s,str A]) w (fun v w'=>v= .bool (decide (s.take A.length=A))∧Wk w w'):=by
 refine enter func121 U ntmps121 U<|aP 13 U<|gs (t:=10) U (fun C=> ?_) fun C=> ?_;exact ao 3 U<|bU U (qI u9 U U ab)<|au 7 U<|aJ U<|⟨U,Md.refl _ _⟩
 exact ao 7 U<|p aE<|au 3 U<|aJ U<|⟨by show bO false =_; rw [decide_eq_false (fun h=>by have :=BM h; omega)],Md.refl _ _⟩
theorem Ms (s A:List UInt8) (w:ah) (J:s.length≤1099511627776) (hp:A.length≤1099511627776):
 aR aj 166 (bc [str s,str A]) w (fun v w'=>v=str (pb s A)∧Wk w w'):=by
 refine enter func166 U ntmps166 U<|aP 10 U<|e<|az (vK s A _ J hp) U ?_;rintro M O ⟨rfl,I⟩;refine aC 2 U<|cb U (fun E=> ?_) fun E=> ?_;have C:=of_decide_eq_true E;have L:=BM C;exact aB 5 U<|p (nu u9 U U ab)<|au 5 U<|aJ U<|⟨by show str (s.drop (A.length:Int).toNat)=_; unfold pb; rw [if_pos C]; rfl,I⟩
 have C:=of_decide_eq_false E;exact aK 9 U<|aJ U<|⟨by show str s=_; unfold pb; rw [if_neg C],I⟩
theorem Mt (s A:List UInt8) (w:ah) (E:s.length≤1099511627776) (hp:A.length≤1099511627776):
 aR aj 113 (bc [str s,str A]) w (fun v w'=>v=str (pb s A)∧Wk w w'):=by
 refine enter func113 U ntmps113 U<|aP 9 U<|e<|az (Ms s A _ E hp) U ?_;rintro I J ⟨rfl,C⟩;exact au 4 U<|aJ U<|⟨U,C⟩
theorem IC (s A:List UInt8) (w:ah) (E:s.length≤1099511627776) (hp:A.length≤1099511627776):
 aR aj 224 (bc [str s,str A]) w (fun v w'=>v= .bool (decide (A.length≤s.length∧s.drop (s.length - A.length)=A))∧Wk w w'):=by
 refine enter func224 U ntmps224 U<|aP 13 U<|gs (t:=10) U (fun C=> ?_) fun C=> ?_;exact ao 6 U<|bU U (nu u9 U U ab)<|au 7 U<|aJ U<|⟨by show bO (decide (s.drop ((s.length:Int) - (A.length:Int)).toNat=A))=_; rw [show ((s.length:Int) - (A.length:Int)).toNat=s.length - A.length from by omega]; exact bv (by constructor <;> intro h <;> first | exact ⟨ab,h⟩ | exact h.2),Md.refl _ _⟩
 exact ao 10 U<|p aE<|au 3 U<|aJ U<|⟨by show bO false =_; rw [decide_eq_false ab],Md.refl _ _⟩
theorem Mu (s:List UInt8) (w:ah) (E:s.length≤1099511627776):
 aR aj 168 (bc [str s,str [13]]) w (fun v w'=>v=str (eR s)∧Wk w w'):=by
 refine enter func168 U ntmps168 U<|aP 10 U<|e<|az (IC s [13] _ E aW) U ?_;rintro L M ⟨rfl,C⟩;refine aC 2 U<|cb U (fun A=> ?_) fun A=> ?_;have J:=(of_decide_eq_true A).1;have I:([13]:List UInt8).length=1:=rfl;exact aB 8 U<|p (qI u9 U U ab)<|au 5 U<|aJ U<|⟨by show str (s.take ((s.length:Int) - (([13]:List UInt8).length:Int)).toNat)=_; rw [Mm A,show ((s.length:Int) - (([13]:List UInt8).length:Int)).toNat=s.length - 1 from by simp only [fE]; omega],C⟩
 exact aK 9 U<|aJ U<|⟨by show str s=_; rw [Mn A],C⟩
theorem Mv (s:List UInt8) (w:ah) (C:s.length≤1099511627776):
 aR aj 115 (bc [str s,str [13]]) w (fun v w'=>v=str (eR s)∧Wk w w'):=by
 refine enter func115 U ntmps115 U<|aP 9 U<|e<|az (Mu s _ C) U ?_;rintro E I ⟨rfl,A⟩;exact au 4 U<|aJ U<|⟨U,A⟩
theorem IL (s:List UInt8) (c:UInt8) (w:ah):
 aR aj 266 (bc [str s,.int .u8 c.toNat]) w (fun v w'=>v= .int .i64 (dQ c s)∧Wk w w'):=by
 exact enter func266 U ntmps266 U<|aP 9 U<|p (Gb (AF s c _) U)<|au 4 U<|aJ U<|⟨U,Md.refl _ _⟩
theorem IK (s:List UInt8) (c:UInt8) (w:ah):
 aR aj 223 (bc [str s,str [c]]) w (fun v w'=>v= .int .i64 (dQ c s)∧Wk w w'):=by
 refine enter func223 U ntmps223 U<|aP 19 U<|gs (t:=19) U (fun h=>absurd h<|by simp) fun I=>aC 7 U<|cd U (fun A=> ?_) fun A=> ?_;exact aK 8 U<|aJ U<|⟨by show bT .i64 0=_; rw [← A,IU],Md.refl _ _⟩
 refine cx 7 U<|cd U (fun E=> ?_) fun h=>absurd U h;refine aB 4 U<|p (qe 0 u9 U U<|by simp)<|e<|az (IL s c _) U ?_;rintro v30 J ⟨rfl,C⟩;exact au 6 U<|aJ U<|⟨U,C⟩
theorem Gk (s:List UInt8) (c:UInt8) (w:ah) (L:s.length≤1099511627776):
 aR aj 167 (bc [str s,str [c]]) w (fun v w'=>v= .tuple #[str (iG c s),str (jH c s),.bool (!decide (dQ c s < 0))]∧Wk w w'):=by
 refine enter func167 U ntmps167 U<|aP 12 U<|e<|az (IK s c _) U ?_;rintro v10 M ⟨rfl,C⟩;refine aC 9 U<|cd U (fun E=> ?_) fun E=> ?_;have I:=AE (c:=c) (l:=s) ab;have J:[c].length=1:=rfl;exact cx 1 U<|mV fun A=>cD [0,1] U A<|iN 2 U (qI u9 U U ab) A<|cD [3,4,5,6] U A<|iN 7 U (cK<|s.idxOf c+1) A<|iN 8 U (nu u9 U U ab) A<|cD [9,10,11] U A<|hn ai<|bG 3 U<|f3 U U U U<|⟨by show mq #[str (s.take (dQ c s).toNat),str (s.drop<|s.idxOf c+1),.bool true]=_; unfold iG jH; rw [if_neg ab,if_neg ab,I.1,decide_eq_false ab]; rfl,Md.trans C (Md.refl _ _).drew⟩
 exact aK 11 U<|f3 U U U U<|⟨by show mq #[str s,str [],.bool false]=_; unfold iG jH; rw [if_pos ab,if_pos ab,decide_eq_true ab]; rfl,C⟩
theorem Gm (s:List UInt8) (c:UInt8) (w:ah) (C:s.length≤1099511627776):
 aR aj 114 (bc [str s,str [c]]) w (fun v w'=>v= .tuple #[str (iG c s),str (jH c s),.bool (!decide (dQ c s < 0))]∧Wk w w'):=by
 refine enter func114 U ntmps114 U<|aP 11 U<|e<|az (Gk s c _ C) U ?_;rintro v9 E ⟨rfl,A⟩;exact au 9 U<|f3 U U U U<|⟨U,A⟩
end Go.Hb.uF
section
namespace Go.Hb
open Go.Hb.uF
theorem Iw {α:Type} {l:List α} {i:Nat} {d:α} (h:i < l.length):l.getD i d∈l:=by grind
def fg (n:Nat) (ls:List (List UInt8)):List (Nat×List UInt8):=(ls.zipIdx n).map fun q=>(q.2,q.1)
theorem J4 (n:Nat) (l:List UInt8) (ls:List (List UInt8)):fg n (l::ls)=(n,l)::fg (n+1) ls:=by simp [fg,List.zipIdx_cons]
theorem J6 (n:Nat):fg n []= []:=rfl
theorem Bs (n:Nat) (ls:List (List UInt8)):(fg n ls).map gW=ls:=by
 unfold fg; rw [List.map_map]; exact List.zipIdx_map_fst n ls
theorem J5 (n:Nat) (ls:List (List UInt8)):(fg n ls).length=ls.length:=by simp [fg]
def vk (x:Nat×List UInt8):Array ag:= #[.int .i64 x.1,str x.2]
theorem Br {ls:List (List UInt8)} {n:Nat} {pre:List (Nat×List UInt8)} {x:Nat×List UInt8} {rest:List (Nat×List UInt8)} (h:fg n ls=pre++x::rest):pre.length < ls.length∧x.1=n+pre.length∧ls=pre.map gW++x.2::rest.map gW:=by
 have E:=congrArg lE h;rw [J5,bB,bA] at E;have C:=congrArg (List.map gW) h;rw [Bs,j1,List.map_cons] at C;refine ⟨ab,?_,C⟩;have A:=congrArg (fun l=>l[pre.length]?) h;simp only [fg,List.getElem?_map,List.getElem?_zipIdx,eI (aT _),uC,fS] at A;cases h4:ls[pre.length]? with
 | none=>rw [h4] at A; cases A
 | some q=>rw [h4] at A; cases A; rfl
theorem Hc (s:List UInt8) (w:ah):
 aR aj 62 (bc [str s]) w (fun v w'=> ∃ b,v= .func (.func 112) #[] #[aH b]∧w.heap.size≤b∧w'.heap[b]? =some (.cells [str s].toArray 9 (0,0))∧Wk w w'):=by
 exact enter func62 U ntmps62 U<|aP 2 U<|e<|rK U U fun A J I E C=>ao 5 U<|p oG<|au 4 U<|aJ U<|⟨A,U,ab,C,E.md⟩
theorem G9 (s:List UInt8) (b:Nat) (aA:s.length≤65536) (l:Nat) (A:List (Nat×List UInt8)→ah→Prop) (w:ah) (h0:A [] w) (ak:∀ pre W,A pre W→W.heap[b]? =some (.cells [str s].toArray 9 (0,0))) (bD:∀ pre C M,A pre C→Wk C M→A pre M) (ao:∀ pre x rest C,(fg 1<|jQ s)=pre++x::rest→A pre C→YieldAt Fence.wide 0 aj l (vk x) C fun e W'=>e= .returned (.bool true)∧A (pre++ [x]) W'):
 aR aj 112 (bc [.func (.yield l) #[] #[],aH b]) w (fun v w'=>A (fg 1<|jQ s) w'):=by
 have Z:=ak _ _ h0;refine enter func112 U ntmps112 U<|aP 3 U<|p (aM U<|(dg Z).trans U)<|aC 4 U<|cd U (fun h=>absurd h ab) fun av=>aB 4 U<|p (aM U<|(dg Z).trans U)<|e<|az (Mt s qk _ ab aW) U ?_;rintro v12 aF ⟨rfl,ac⟩;refine aC 9 U<|lp (fun O L J=> ∃ (r:List UInt8) (pre:List (Nat×List UInt8)),(r.length≤s.length)∧((fg 1<|jQ s)=pre++fg (pre.length+1) (cI [] r))∧(A pre J)∧(pre.length≤s.length)∧(L 4=bL (pre.length+1))∧(Sl L [(0,.func (.yield l) #[] #[]),(3,str r)])∧(r.length=O)) _ ⟨qN s,[],(xN s),U,(bD _ _ _ h0 ac),(Nat.zero_le _),(iv<|by first | rfl | (rw [bB]; rfl)),U,U⟩ ?_;rintro O L J ⟨r,pre,ay,aa,V,aw,an,am,rfl⟩;refine cH am<|fx 4 an<|cS 7 U<|cd U (fun E=> ?_) fun E=> ?_;have I:(fg 1<|jQ s)=pre++(pre.length+1,eR (iG 10 r))::fg (pre.length+2) (cI []<|jH 10 r):=by rw [aa,Jy E,J4]
 have ax:=Gl (c:=10) E;have ar:=Gj 10 r;refine aB 7 U<|e<|az (Gm r 10 _ ab) U ?_;rintro aD aG ⟨rfl,ad⟩;refine p mv<|aC 15 U<|BT<|py U (nf (.func (.yield l) #[] #[]) U)<|py U (nf (bL<|pre.length+1) U)<|py U mv<|ey U<|az (Mv (iG 10 r) _ ab) U ?_;rintro aE aI ⟨rfl,ae⟩;have ag:=bD _ _ _ V<|Md.trans ad ae;refine Df U U (ao pre (pre.length+1,eR (iG 10 r)) _ _ I ag) fun aJ ai=> ?_;refine py U (no U)<|Bq ?_;exact ji 1 U<|cf (U)<|aB 5 U<|p (cK<|pre.length+2)<|au 2 U<|tn<|⟨_,ab,jH 10 r,pre++ [(pre.length+1,eR (iG 10 r))],ab,(by rw [I,gQ,bB]; rfl),ai,(by have ap:=Br I; have aq:=sE s; rw [bB,fE]; omega),(iv<|by first | rfl | (rw [bB]; rfl)),U,U⟩
 refine aK 2 U<|eH<|bG 1 U<|f0 U ?_;show A (fg 1<|jQ s) J;have al:r= []:=Decidable.of_not_not E;rw [aa,al,wg,J6,j0];exact V
theorem Ha (s:List UInt8) (b:Nat) (I:s.length≤65536):yH aj 112 #[.pointer (some ⟨b,0,none⟩)] vk (fg 1<|jQ s) (fun W=>W.heap[b]? =some (.cells [str s].toArray 9 (0,0))):=
 fun l A W h0 C bD J=>Calls.mono (G9 s b I l A W h0 C bD J) fun e w' ⟨v,he,E⟩=>⟨⟨v,he⟩,E⟩
end Go.Hb
end
section
namespace Go.Hb
open Go.Hb.uF
set_option maxHeartbeats 1000000 in
theorem KW (s:List UInt8) (w:ah) (b8:s.length≤1048576):
 aR aj 28 (bc [str s]) w (fun v w'=>(∃ a,v= .tuple #[a,.int .i64 (if 65536 < s.length then 10 else 0)]∧(if 65536 < s.length then a= .slice none 0 0 else ∃ vs,dM w' w.heap.size 79 2 a (ee s).length (mh vs)∧e9 w' w.heap.size 9 vs (ee s)))∧Wk w w'):=by
 refine zT [] func28 U ntmps28 U ?_;refine du<|dE<|jh 4 U<|bF<|du<|du<|dE<|jh 5 U<|bF<|dE<|cd U (fun bz=> ?_) fun bz=> ?_;refine jh 7 U<|prt<|HN U U U ?_;have ac:65536 < s.length:=ab;exact ⟨⟨.slice none 0 0,by show mq #[.slice none 0 0,.int .i64 10]=_; rw [if_pos ac],by rw [if_pos ac]⟩,Md.refl _ _⟩;refine jh 1 U<|bF<|du<|dE<|aP 1 U<|e<|fI ND fun av bV b2 bv aZ=>au 1 U<|bF<|du<|du<|dE<|aP 2 U<|e<|az (Hc s _) U ?_;rintro ce aA ⟨aF,rfl,b0,aY,a1⟩;have ae:Wk w aA:=Md.trans bv.md a1;have b9:av < bV.heap.size:=(bJ.1 aZ).1;have bw:=a1.aq aZ;have b1:=(bJ.1 aY).1;have ac:s.length≤65536:=ab;refine au 1 U<|bF ?_;apply KO (vk) (fg 1<|jQ s) (fun W=>W.heap[aF]? =some (.cells [str s].toArray 9 (0,0))) (fun pre M=> ∃ v vs,M.heap[av]? =some (.cells [v].toArray 75 (0,0))∧dM M aA.heap.size 79 2 v (gh 1<|pre.map gW).length (mh vs)∧e9 M aA.heap.size 9 vs (gh 1<|pre.map gW)∧M.heap[aF]? =some (.cells [str s].toArray 9 (0,0))∧aA.heap.size≤M.heap.size∧Wk w M) rfl FH (fun _=>rfl) (Ha s aF ac) (⟨.slice none 0 0,[],bw,iz _ _ _ _,e9.nil _ _ _,aY,aT _,ae⟩) (fun _ _ ⟨_,_,_,_,_,h,_⟩=>h) (fun pre A C F ⟨v,vs,aw,bg,bh,bi,bl,bj⟩ hm ak=>⟨v,vs,tB aw hm ak,Cy bg hm ak,bh.md hm (fun k E cur z=>(ak k E).2 cur _ z),tB bi hm ak,bS bl hm.size,Cz bj hm ae.size ak⟩);intro l x M K ag;exact jh 8 U<|tn<|ag;intro l pre x rest M bQ aL;obtain ⟨v,vs,aS,an,ax,aQ,ay,aJ⟩:=aL;obtain ⟨b7,bR,bT⟩:=Br bQ;have b5:=sE s;have ca:=(bJ.1 aQ).1;have cb:x.2.length≤s.length:=AY<|by rw [bT]; simp
 have b4:=vz x.2 [];have bK:=BY (pre.map gW) 1;rw [lF] at bK;refine aP 3 U<|p mv<|e<|az (HU x.2 _ ab) U ?_;rintro cf a8 ⟨am,bq⟩;obtain ⟨O,aG,rfl⟩:=iQ am;have a2:=(fO am).2;have bA:=(fO am).1;refine p aE<|aC 2 U ?_;refine lu (fun bb aD=> ∃ (n V:Nat),(n≤(bP [] x.2).length)∧(n≤V)∧(jP (bP [] x.2)=(bP [] x.2).take n)∧(Wk a8 aD)∧(Sl bb [(4,.pointer (some ⟨av,0,none⟩)),(5,.int .i64 x.1),(7,.slice O n V)])) ?_ ?_;refine aP 2 U<|p mv<|aC 5 U<|lp (fun aX bd ba=> ∃ (i:Nat),(i≤(bP [] x.2).length)∧(∀ q,q < i→oV ((bP [] x.2).getD q [])=false)∧(Wk a8 ba)∧(Sl bd [(4,.pointer (some ⟨av,0,none⟩)),(5,.int .i64 x.1),(7,.slice O (bP [] x.2).length aG),(19,.slice O (bP [] x.2).length aG),(20,.int .i64 (bP [] x.2).length),(21,.int .i64 i)])∧((bP [] x.2).length - i=aX)) _ ⟨0,ab,(fun q bI=>by omega),(Md.refl _ _),U,U⟩ ?_;rintro aX bd ba ⟨i,hi,aV,ai,bO,rfl⟩;refine cH bO<|cS 6 U<|cd U (fun bC=> ?_) fun bC=> ?_;refine aB 7 U<|p (fv mM U U ab<|bo.ok (a2.wk ai)<|oJ ab)<|p (aM U<|dN.get (i:=i) (a2.wk ai) ab)<|ao 7 U<|p (qe 0 u9 U U<|Ef.2 (An _ _ _<|Iw ab).1)<|aC 3 U<|cd U (fun bD=> ?_) fun bD=> ?_;exact aB 5 U<|p (zt mM U U U ab)<|au 6 U<|te _<|bG 1 U<|tn<|⟨i,i,hi,(aT _),(AI hi aV<|.inr<|decide_eq_true ab),ai,U⟩
 exact aK 7 U<|tn<|⟨_,ab,i+1,ab,(fun q bI=>by rcases dW q i with h | h <;> first | exact aV q h | (rw [show q=i by omega]; exact decide_eq_false ab)),ai,U,U⟩
 exact aK 2 U<|te _<|bG 1 U<|tn<|⟨(bP [] x.2).length,aG,(aT _),bA,(by have h:=AI hi aV (.inl ab); rwa [show i=(bP [] x.2).length from by omega] at h),ai,U⟩
 rintro bb aD ⟨n,V,hn,bH,a4,aH,bN⟩;refine cH bN ?_;have I:Wk M aD:=Md.trans bq aH;have aO:=I.aq aS;have a6:=cE an I;have a7:=ax.wk I;have a3:=I.aq aQ;have a0:Wk w aD:=Md.trans aJ I;refine cx 7 U<|cd U (fun bE=> ?_) fun bE=> ?_;have ar:kf x.2 (1 +pre.length)= [(x.1,(bP [] x.2).take n)]:=by unfold kf; rw [a4,if_neg (fun h=>by have h:=congrArg lE h; rw [bW,fk] at h; omega),← bR]
 refine aB 1 U<|p (aM U<|(dg aO).trans U)<|ao 2 U<|p (hH (ps:= [(0,.int .i64 x.1),(1,.slice O n V)]) (L:= [.int .i64 x.1,.slice O n V]) L3 U<|U)<|e<|rJ Ct U U U fun bf a9 aN J bm=> ?_;have bn:aI a9.heap bf [.int .i64 x.1,.slice O n V]:=bm;have br:Wk w a9:=Md.trans a0 J.md;have ad:=cE a6 J.md;have aN:=J.md.aq aO;refine e<|ap Ct (ad) U (by have :=J.size; have :=I.size; omega) U (bo.jT bn) (U) (U) ab ab fun bU cg aU Z cc b3=> ?_;have bt:=Wk.own br ad Z ae.size;have bx:=Z.aq (J.md.aq a3) fun h=>by have :=dF ad h; omega
 have al:=Z.aq aN fun h=>oQ ad aN aW h;have bL:=(a7.wk J.md).md Z<|sX ad aW;have a5:=da (cE (cE am aH) J.md) Z fun k E=>Kt (cE (cE am aH) J.md) ad aW E;refine e<|fP Gv U U (BI aU) al (by simp) fun bX aa bp=> ?_;have bu:Wk w bX:=Md.trans' bt aa fun k E h=>by omega
 have bM:=(bL.md aa<|FT al aW).snoc (n:=x.1) (r:=(bP [] x.2).take n) (v:= .slice O n V)<|by rw [bW,Nat.min_eq_left hn,List.map_take]; exact (Tg.wO<|sW (da a5 aa fun k E h=>oQ a5 al aW<|h ▸ E) ay).clip bH
 exact au 2 U<|⟨(eo.wk I).trans ((eo.wk J.md).trans<|(eo.md Z<|qB ad).trans<|eo.md aa fun k E=>⟨_,_,_,E ▸ al⟩),bU,vs++ [(x.1,.slice O n V)],bp,(by rw [j1,show [x].map gW= [x.2] from U,th,lF,ar]; rw [bB,Ld]; exact da aU aa fun k E h=>oQ aU al aW<|h ▸ E),(by rw [j1,show [x].map gW= [x.2] from U,th,lF,ar]; exact bM),aa.aq bx (fun h=>by omega),bS ay (bS I.size<|bS J.md.size<|bS Z.size aa.size),bu⟩
 have ar:kf x.2 (1 +pre.length)= []:=by unfold kf; rw [a4,if_pos (by rw [show n=0 by omega]; rfl)]
 exact aK 2 U<|⟨eo.wk I,v,vs,aO,(by rw [j1,show [x].map gW= [x.2] from U,th,lF,ar]; rw [j0]; exact a6),(by rw [j1,show [x].map gW= [x.2] from U,th,lF,ar]; rw [j0]; exact a7),a3,bS ay I.size,a0⟩
 intro D M bZ aL ag;obtain ⟨v,vs,aS,an,ax,aQ,ay,aJ⟩:=aL;have b6:=(bJ.1 ag).1;refine bF<|du<|dE<|aP 1 U<|p (aM U<|(dg aS).trans U)<|p aE<|au 2 U<|bF<|xe<|HO U U U ag ?_;have ac:¬65536 < s.length:=ab;rw [Bs] at an ax;exact ⟨⟨v,by show mq #[v,.int .i64 0]=_; rw [if_neg ac],by rw [if_neg ac]; exact ⟨vs,sW (da an (na _ _ _) fun k E h=>by obtain ⟨c,e,z,aw⟩:=qB an k E; rw [h,ag] at aw; cases aw) ae.size,(ax.md (na _ _ _) fun k E cur z=>by rw [E,ag]; simp).mono ae.size⟩⟩,Md.trans' aJ (na _ _ _) fun k E h=>by have :=ae.size; omega⟩
end Go.Hb
end
section
namespace Go.Hb
open Go.Hb.rC
def EP (t:List UInt8) (C:aG) (w:ah) (v:ag) (w':ah):Prop :=((∃ g B A bs,oP t= .ok g∧v= .tuple #[.pointer (some ⟨A,0,none⟩),.agg #[bT .i64 0,.int .i64 0,.int .i64 0]]∧w.heap.size≤B∧bX w' B A bs (.slice none 0 0) C g (ee t).length [] [])∨
 (∃ l e:Nat,oP t= .error (l,e)∧v= .tuple #[.pointer none,.agg #[bT .i64 0,.int .i64 (l:Nat),.int .i64 (e:Nat)]]))∧Wk w w'
theorem Kg (ag:aG) (t:List UInt8) (w:ah) (cm:t.length≤1048576):
 aR aj 9 (bc [.pointer (some ag),str t]) w (EP t ag w):=by
 have ck:=KR t;refine enter func9 U ntmps9 U<|aP 3 U<|e<|fI Dh fun Z cb ch ap bv=> ?_;have cr:=ap.size;refine ao 5 U<|p mv<|p (fY pc U U)<|aC 2 U<|cf (U)<|aB 4 U<|p mv<|e<|az (KW t cb ab) U ?_;rintro cw V ⟨⟨cc,rfl,aX⟩,hE19⟩;have cp:=hE19.size;have ar:V.heap[Z]? =some (.cells [bT .i64 0,.int .i64 0,.int .i64 0].toArray 35 (0,0)):=Wk.aq hE19 bv;have ci:=(bJ.1 ar).1;refine p mv<|ao 2 U<|p aE<|aC 10 U<|cd U (fun aF=> ?_) fun aF=> ?_;have ad:65536 < t.length:=Decidable.byContradiction fun h=>aF<|by rw [if_neg h]
 refine aB 3 U<|p (hH (ps:= [(2,.int .i64 (if 65536 < t.length then 10 else 0))]) (L:= [.int .i64 0,.int .i64 0,.int .i64 (if 65536 < t.length then 10 else 0)]) tA U<|U)<|ao 1 U<|e<|ir rQ U U U U ar (by simp) fun b7 bA bn=> ?_;have bp:aI b7.heap Z [bT .i64 0,.int .i64 0,.int .i64 (if 65536 < t.length then 10 else 0)]:=⟨_,bn⟩
 refine au 4 U<|vv U tk (nj (cs:= [bT .i64 0,.int .i64 0,.int .i64 (if 65536 < t.length then 10 else 0)]) U rF U fun j a6=>bp.bd j) ?_;refine ⟨.inr ⟨0,10,if_pos ad,?_⟩,(ap.md.trans hE19).trans' bA fun k av h=>by omega⟩;rw [if_pos ad]; rfl;have ad:¬65536 < t.length:=fun h=>aF<|by rw [if_pos h]; decide
 rw [if_neg ad] at aX;obtain ⟨b5,a7,b3⟩:=aX;obtain ⟨bb,rc,rfl⟩:=iQ a7;have a0:=(fO a7).2;have aA:=b3.all;refine aB 4 U<|p mv<|e<|az (Bo (some ag) V) U fun cy cA bI=> ?_;obtain ⟨ce,ae,bs,bP,rfl,cu,cv,bE,a1⟩:=bI.resolve_left fun ⟨h,_⟩=>by cases h
 cases bP;have cq:=a1.size;refine p aE<|ao 5 U<|p mv<|aC 5 U<|lp (fun aU bh ax=> ∃ (i:Nat) (g:List UInt8→Option Int),(i≤(ee t).length)∧(ew (ee t) i= .ok g)∧(bX ax V.heap.size ae bs (.slice none 0 0) ag g i [] [])∧(Wk V ax)∧(Sl bh [(5,aH Z),(8,aH ae),(28,.slice bb (ee t).length rc),(29,bL ((ee t).length)),(30,bL i)])∧((ee t).length - i=aU)) _ ⟨0,(fun _=>none),ab,U,bE,a1,U,U⟩ ?_;rintro aU bh ax ⟨i,g,hi,am,E,M,b1,rfl⟩;refine cH b1<|cS 6 U<|cd U (fun bN=> ?_) fun bN=> ?_;refine cx 5 U ?_;obtain ⟨aw,J,hr⟩:∃ aw J,(ee t).getD i (0,[])=(aw,J):=⟨_,_,rfl⟩
 have a9:(ee t)[i]? =some (aw,J):=by rw [← hr,cn,bR ab]; rfl
 have aN:=KS<|jy a9;obtain ⟨q,a8⟩:∃ q,b5[i]? =some q:=⟨_,bR<|by rw [aA.1]; omega⟩
 obtain ⟨bZ,fa,ay,b0,bS⟩:=aA.2 i q _ a8 a9;obtain ⟨O,b6⟩:=q;obtain rfl :O=aw:=bZ;obtain rfl :b6= .slice fa J.length ay:=b0;have cj:J.length≤t.length+1:=aN.2.2.2.1;refine aB 1 U<|p (fv HE U U ab<|bo.ok (a0.wk M)<|Le<|by rw [aA.1]; omega)<|p (jk E3 U (U)<|Lg (a0.wk M) a8)<|e<|fI NF fun aS cz cg a3 bm=> ?_;have co:=a3.size;refine e<|ir Gw U U U U bm (by simp) fun aQ bC bw=> ?_;have aZ:aI aQ.heap aS [bT .i64 (O:Nat),.slice fa J.length ay]:=⟨_,bw⟩
 have ac:Wk ax aQ:=Md.trans' a3.md bC fun k av h=>by omega
 have ct:=ac.size;refine ao 5 U<|p (aM U<|aZ.bd 1)<|e<|az (Hy fa ay J aQ (bS.wk<|M.trans ac) (fun x aO=>(aN.2.2.2.2 x aO).1) (fun x aO=>by have :=(aN.2.2.2.2 x aO).2; omega) ab) U ?_;rintro v37 ca ⟨ba,ak⟩;obtain ⟨x,o,aT,bQ,aY⟩:=Hn J;rw [bQ] at ba;subst ba;have A:=E.wk<|ac.trans ak;refine p mv<|aC 8 U ?_;refine lu (fun bi bg=> ∃ (C:Nat),((C≠0∧ew (ee t) (i+1)= .error (O,C))∨(C=0∧dZ J= .ok (x,o)∧g x=none∧i≠500))∧(bg=ca)∧(Sl bi [(5,aH Z),(8,aH ae),(10,aH aS),(11,str x),(12,.int .i64 o),(13,bL C),(28,.slice bb (ee t).length rc),(29,bL ((ee t).length)),(30,bL i)])) ?_ ?_;refine cS 8 U<|cd U (fun aJ=> ?_) fun aJ=> ?_;have aa:=aY.resolve_left fun h=>aJ<|by rw [h.1]; rfl
 exact aK 2 U<|tn<|⟨aT,(.inl ⟨aa.1,by rw [Km am (by rw [hr]; exact aa.2),hr]⟩),U,U⟩
 have aa:=(aY.resolve_right fun h=>aJ ab).2;refine aB 5 U<|p (aM U<|A.obj.bd 1)<|ao 1 U<|p (qg eV pf jj (A.db.ma) U U (⟨_,U⟩)<|sI g x)<|aC 4 U<|cd U (fun an=> ?_) fun an=> ?_;have I:g x≠none:=fun h=>an<|by rw [h]; rfl
 exact aK 4 U<|tn<|⟨112,(.inl ⟨aW,by rw [Kp am (by rw [hr]; exact aa) I,hr]⟩),U,U⟩
 have I:g x=none:=by
  cases I:g x with
  | none=>rfl
  | some u=>rw [I] at an; simp only [Option.getD_some,ne_eq,Classical.not_not] at an; subst an; exact absurd I<|E.nz x
 refine aB 5 U<|p (aM U<|A.obj.bd 1)<|p (sF eV U U A.db A.eO)<|aC 4 U<|cd U (fun bO=> ?_) fun bO=> ?_;exact aK 4 U<|tn<|⟨280,(.inl ⟨aW,by rw [Ko am (by rw [hr]; exact aa) I ab,hr]⟩),U,U⟩
 exact aK 2 U<|tn<|⟨aT,(.inr ⟨ab,aa,I,ab⟩),U,U⟩
 rintro bi bg ⟨C,aV,b4,b2⟩;refine cH b2 ?_;subst b4;refine cx 7 U<|cd U (fun aL=> ?_) fun aL=> ?_;have bj:=aV.resolve_right fun h=>aL<|by rw [h.1]; rfl
 refine cx 1 U ?_;have bK:=Wk.aq ((M.trans ac).trans ak) ar;refine wj 5 fun al=>lX [0] U al<|nh 1 U al ((ak.B aZ).bd 0)<|lX [2] U al<|JC 3 U (hH (ps:= [(1,bL O),(2,bL C)]) (L:= [.int .i64 0,bL O,bL C]) tA U<|U) al<|lX [4] U al<|oC 5 U ai ai<|ir rQ U U U U bK (by simp) fun b8 bB bq=> ?_;have br:aI b8.heap Z [bT .i64 0,bL O,bL C]:=⟨_,bq⟩
 refine oD ai<|bG 5 U<|tr<|bG 2 U<|vv U tk (nj (cs:= [bT .i64 0,bL O,bL C]) U rF U fun j a6=>br.bd j) ?_;refine ⟨.inr ⟨O,C,?_,U⟩,((ap.md.trans hE19).trans<|(M.trans ac).trans ak).trans' (Md.oh bB) fun k av h=>by omega⟩;unfold oP;rw [if_neg ad];exact BE bj.2 ab;obtain ⟨_,bl,I,bU⟩:=aV.resolve_left fun h=>aL ab;have a5:=BG am (by rw [hr]; exact bl) I bU;obtain ⟨bz,bD,bW⟩:=BH a5;refine aB 6 U<|p (aM U<|A.obj.bd 1)<|ao 2 U<|e<|tH (kx:=str x) (v:= .int .i64 o) eV jj A.db U U U ⟨_,U⟩ fun bf a2 a4=> ?_;rw [oF] at a4;have bV:=A.lo;have bx:Wk V bf:=((M.trans ac).trans ak).trans' a2 fun k av h=>by omega
 have bH:bX bf V.heap.size ae bs (.slice none 0 0) ag (fun y=>if y=x then some o else g y) (i+1) [] []:=⟨a2.B A.obj (fun h=>by subst h; exact A.db.eE A.obj.choose_spec),a4,bD,bW,bz.nz,A.lo,iz _ _ _ _,A.jW,trivial⟩
 exact ao 4 U<|p (cK<|i+1)<|au 2 U<|tn<|⟨_,ab,i+1,(fun y=>if y=x then some o else g y),ab,a5,bH,bx,U,U⟩
 refine aK 2 U<|eH<|ji 3 U ?_;have bM:=Wk.aq M ar;refine aB 2 U<|p (hH (ps:= []) (L:= [.int .i64 0,.int .i64 0,.int .i64 0]) tA U<|U)<|ao 1 U<|e<|ir rQ U U U U bM (by simp) fun b9 aD bt=> ?_;have bu:aI b9.heap Z [bT .i64 0,.int .i64 0,.int .i64 0]:=⟨_,bt⟩
 have bV:=E.lo;refine au 3 U<|vv U tk (nj (cs:= [bT .i64 0,.int .i64 0,.int .i64 0]) U rF U fun j a6=>bu.bd j) ?_;obtain rfl :i=(ee t).length:=ab;refine ⟨.inl ⟨g,V.heap.size,ae,bs,?_,U,ab,⟨aD.B E.obj ab,E.db.md aD ab,E.eO,E.nB,E.nz,E.lo,iz _ _ _ _,E.jW,trivial⟩⟩,((ap.md.trans hE19).trans M).trans' aD fun k av h=>by omega⟩;unfold oP;rw [if_neg ad];exact am
end Go.Hb
end
section
namespace Go.Hb.yJ
open Go.Hb.rC Go.Hb.eZ Go.Hb.pL
theorem Hz (a b c A C c':Int) (w:ah):(binOp .eql 35 (.agg [.int .i64 a,.int .i64 b,.int .i64 c].toArray)<|.agg [.int .i64 A,.int .i64 C,.int .i64 c'].toArray).run aj w= .ok (.bool<|decide (a=A∧b=C∧c=c')) w:=by
 have M:=underlying3;have O:=underlying3;have u3:=underlying33;have L:aj.underlying 35=some (.struct<|aj.fieldsOf 35):=ai;have hp:aj.stoodInHeld 35=false :=ai;rw [run_eql_struct,show (10000:Nat)=9999 +1 from rfl,run_equalIn_agg w 9999 35 _ _ L hp];simp only [Program.fieldsOf,underlying35];go_simp;by_cases E:a=A <;> by_cases I:b=C <;> by_cases J:c=c' <;> simp [E,I,J]
section
variable {N:Fm} {σ:Nat→ag} {w:ah} {dst:Option Nat} {ty:TypeId} {pos :String} {af:Array Edge} {g:Option (Nat×Bool)} {x y:Operand}
theorem JR {L:TypeId} {a b c A C c':Int} (I:ev N σ x= .agg [.int .i64 a,.int .i64 b,.int .i64 c].toArray) (J:ev N σ y= .agg [.int .i64 A,.int .i64 C,.int .i64 c'].toArray):
 (execOp (ev N σ) ⟨dst,.binOp .neq 35 x y L,ty,pos,af,g⟩).run aj w= .ok (.value<|.bool<|decide (¬(a=A∧b=C∧c=c'))) w:=by
 have hm:aj.eqGuardType aj.depth 35=false :=ai;have E:=run_eqGuard_agg w .neq 35 x y [.int .i64 a,.int .i64 b,.int .i64 c].toArray [.int .i64 A,.int .i64 C,.int .i64 c'].toArray hm;have he:(binOp .neq 35 (.agg [.int .i64 a,.int .i64 b,.int .i64 c].toArray)<|.agg [.int .i64 A,.int .i64 C,.int .i64 c'].toArray).run aj w= .ok (.bool<|decide (¬(a=A∧b=C∧c=c'))) w:=by
  have h:=Hz a b c A C c' w;simp only [binOp,gq] at h ⊢;generalize ((Op.equal 35 (.agg [.int .i64 a,.int .i64 b,.int .i64 c].toArray)<|.agg [.int .i64 A,.int .i64 C,.int .i64 c'].toArray).run aj w)=r at h ⊢;cases r with
  | ok q M=>
    simp only [fR,jw,Result.ok.injEq,Value.bool.injEq] at h ⊢;rw [h.1];exact ⟨(decide_not).symm,h.2⟩
  | halt q M=>simp [Result.andThen] at h
 simp only [execOp,I,J,gq,E,he,fR,jw]
end
def lQ (g:List UInt8→Option Int) (l:List bC) (x:List UInt8):Bool:=if (g x).getD 0=1 then true else if (g x).getD 0= -1 then false else j7 l x
theorem F6 {g:List UInt8→Option Int} {l:List bC} {x:List UInt8} (h:(g x).getD 0=0):lQ g l x=j7 l x:=by
 unfold lQ; rw [h,if_neg aW,if_neg aW]
theorem F5 {g:List UInt8→Option Int} {l:List bC} {x:List UInt8} (A:fm g) (h:(g x).getD 0≠0):lQ g l x=decide ((g x).getD 0 > 0):=by
 cases hx:g x with
 | none=>rw [hx] at h; exact absurd rfl h
 | some o=>
   unfold lQ;rw [hx];rcases A.val x o hx with rfl | rfl <;> rfl
theorem Mq {w w':ah} {b o:Nat} {u v x:ag} (hm:Wk w w') (h:∀ j,j < 3→ay w.heap b (o+j)= [u,v,x][j]?):∀ j,j < 3→ay w'.heap b (o+j)= [u,v,x][j]? :=CI (hm.ay<|h 0 ab) (hm.ay<|h 1 ab)<|hm.ay<|h 2 ab
theorem oy {α:Type} {l:List α} {n i:Nat} {d:α} (h:i < n):(l.take n).getD i d=l.getD i d:=by
 rw [cn,gr,if_pos h,cn]
theorem mB.MH {g0:List UInt8→Option Int} {A gs:List (List UInt8→Option Int)} {g:List UInt8→Option Int} (h:jz g0 A gs g):jz g0 (A.take<|A.length - 1) (gs.take<|A.length - 1 +1) (gs.getD (A.length - 1) dG):=by
 have J:=h.len;have E:(A.take<|A.length - 1).length=A.length - 1:=by rw [bW]; omega
 have I:(gs.take<|A.length - 1 +1).length=A.length - 1 +1:=by rw [bW]; omega
 refine ⟨ab,by rw [oy ab]; exact h.zero,by rw [E,oy ab],fun k C=> ?_,fun k C=> ?_⟩
 · rw [E] at C;rw [oy C,oy ab,oy ab];exact h.back k ab
 · rw [I] at C;rw [oy C];exact h.ok k ab
theorem iZ.not {w:ah} {B A bs n k:Nat} {C:ag} {E:aG} {g:List UInt8→Option Int} {I:List (List UInt8→Option Int)} {cs:List ag} (h:bX w B A bs C E g n I cs) (J:w.heap.size≤k):¬iZ A bs C k:=by
 rintro (rfl | rfl | hb)
 · have :=h.obj.lt; omega
 · have :=h.db.lt; omega
 · have :=(dF h.back hb).2; omega
theorem rN (B I bs:Nat) (Z:ag) (M:aG) (g:List UInt8→Option Int) (n:Nat) (V:List (List UInt8→Option Int)) (cs:List ag) (L E:Nat) (b:eY) (s x:List UInt8) (w:ah) (O:bX w B I bs Z M g n V cs) (ad:M=⟨E,0,none⟩) (aa:eZ w L E b s) (ac:iC (b9 b 0)) (ae:x.length≤4294967296):
 aR aj 20 (bc [aH I,str x]) w (fun v w'=>v= .bool (lQ g (b9 b 0) x)∧Wk w w'):=by
 subst ad;refine enter func20 U ntmps20 U<|aP 10 U<|e<|az (ke B I bs Z ⟨E,0,none⟩ g n V cs x w O) U ?_;rintro al ai ⟨rfl,A⟩;refine aC 9 U<|cd U (fun C=> ?_) fun C=> ?_;exact aK 8 U<|aJ U<|⟨by unfold lQ; rw [if_pos C]; rfl,A⟩
 refine cx 6 U<|cd U (fun J=> ?_) fun J=> ?_;exact aK 8 U<|aJ U<|⟨by unfold lQ; rw [if_neg C,if_pos J]; rfl,A⟩
 refine aB 6 U<|p (qp u32 U U)<|ao 1 U<|gb (t:=14) U (fun ak=> ?_) fun h=>absurd ((U).symm.trans h) dd;refine ao 3 U<|bU U (aM U<|(O.wk A).obj.bd 0)<|ao 1 U<|eg U U U<|az (zn L E b s x ai (aa.wk A) ac ae) U ?_;rintro v20 am ⟨rfl,ab⟩;exact au 5 U<|aJ U<|⟨by unfold lQ; rw [if_neg C,if_neg J]; rfl,A.trans ab⟩
theorem xI (ws:List (List UInt8)) (A:Option aG) (E:Nat) (w:ah) (L:dN w.heap A ws) (Z:ws.length≤137438953472):
 aR aj 13 (bc [.slice A ws.length E]) w (fun v w'=>Wk w w'∧dM w' w.heap.size 9 1 v ws.length (ws.map str)∧(ws= []→v= .slice none 0 0)):=by
 refine enter func13 U ntmps13 U<|aP 8 U<|e<|ap ku (iz w w.heap.size 9 1) U ab U (L) (by simp) (by rw [DZ]; exact uk.2 fun _ _=>rfl) ab ab fun v4 O C J M V=> ?_;have I:Wk w O:=J.mono fun k _ h=>absurd (show (none:Option Nat)=some k from h)<|by simp
 refine p aE<|au 3 U<|aJ U ?_;rw [cr,lG] at C;exact ⟨I,C,fun h=>M.2 ⟨U,by rw [h]; rfl⟩⟩
end Go.Hb.yJ
end
section
namespace Go.Hb
open Go.Hb.pM Go.Hb.mE Go.Hb.rB Go.Hb.uG Go.Hb.rC Go.Hb.pL Go.Hb.eZ Go.Hb.yJ
theorem C1 {x:List UInt8} :∀ {l:List (List UInt8)},x∈l→x.length≤kz l
 | [],h=>by cases h
 | y::l,h=>by
   have :kz (y::l)=y.length+kz l:=by simp [kz]
   rcases List.mem_cons.1 h with rfl | h
   · omega
   · have :=C1 h; omega
set_option maxHeartbeats 4000000 in
theorem Lh (s:List UInt8) (ops:List kM) (a:Option aG) (cap:Nat) (ls:List (List UInt8)) (bx:Option aG) (b2:Nat) (w:ah) (dt:cY 544 np w) (d2:s.length≤1048576) (cj:pN w.heap a ops) (bP:(ops.map jo).sum≤1048576) (dk:dN w.heap bx ls) (e3:ls.length+kz ls≤1048576):
 aR aj 5 (bc [str s,.slice a ops.length cap,.slice bx ls.length b2]) w (fun v w'=>v= .bool true∧Wk w w'):=by
 have e1:=Ka ops;have dS:∀ x∈ls,x.length≤1048576:=fun x aw=>by have :=C1 aw; omega
 refine enter func5 U ntmps5 U<|aP 8 U<|e<|az (M3 w dt) U ?_;rintro fq aV ⟨rfl,c5⟩;refine aC 3 U<|cf (U)<|aB 4 U<|p mv<|e<|az (JA s aV d2) U ?_;rintro v21 A ⟨bg,c6⟩;obtain ⟨a1,u,rfl,dH⟩:∃ a1 u,v21= .tuple #[.pointer a1,u]∧∀ aY,a1=some aY→∃ cb b,aY=⟨cb,0,none⟩∧dx s= .ok b∧eZ A aV.heap.size cb b s:=by
  cases hX:dx s with
  | ok b=>rw [hX] at bg; obtain ⟨cb,h,dy⟩:=bg; exact ⟨_,_,h,fun aY J=>⟨cb,b,(Option.some.inj J).symm,rfl,dy⟩⟩
  | error q=>rw [hX] at bg; exact ⟨_,_,bg,fun aY J=>by cases J⟩
 clear bg;have aD:=c5.trans c6;refine p mv<|ao 2 U<|p aE<|p aE<|ao 4 U<|p mv<|e<|az (Bo a1 A) U fun ek cB ci=>p aE<|ao 5 U<|p mv<|p (fY pc U U)<|ao 1 U<|gb (t:=28) U (fun bt=> ?_) fun bt=> ?_;obtain rfl :a1=none:=by cases a1; rfl; cases bt
 obtain ⟨_,rfl,a8⟩:(none:Option aG)=none∧ek= .pointer none∧Wk A cB:=ci.resolve_right fun ⟨_,_,_,h,_⟩=>by cases h
 refine ao 8 U<|p mv<|p (fY pc U U)<|ao 1 U<|gb (t:=34) U (fun eS=> ?_) fun h=>absurd ((U).symm.trans h) dd;exact bU U mv<|bU U (fY u32 U U)<|au 6 U<|aJ U<|⟨U,aD.trans a8⟩
 obtain ⟨aY,C,bs,rfl,rfl,fc,fd,bK,a8⟩:=ci.resolve_left fun ⟨h,_⟩=>by rw [h] at bt; cases bt
 obtain ⟨cb,b,rfl,du,c2⟩:=dH aY rfl;have eh:=a8.size;have bb:iC (b9 b 0):=Lq (GS du) 0;refine bU U mv<|bU U (fY u32 U U)<|aC 3 U<|cf (U)<|aB 4 U<|p mv<|e<|az (xI ls bx b2 cB (dk.wk<|aD.trans a8) ab) U ?_;rintro el fE ⟨bD,co,dU⟩;have e8:=bD.size;refine p aE<|ao 5 U<|p mv<|aC 5 U<|lp (fun a4 cD aW=> ∃ (i:Nat) (g:List UInt8→Option Int) (gz E:List (List UInt8→Option Int)) (cs:List ag) (V:ag) (n:Nat) (ask:List (List UInt8)) (bi:ag),(i≤ops.length)∧(bX aW A.heap.size C bs V ⟨cb,0,none⟩ g n E cs)∧(mB E gz g)∧(E.length≤i)∧(Wk A aW)∧(dM aW A.heap.size 9 1 (bi) (ask).length<|(ask).map str)∧(∀ k,((bi):ag).ownBlock=some k→k≠C∧k≠bs∧¬((V):ag).ownBlock=some k)∧(ask= []→bi= .slice none 0 0)∧(ask.length≤1048576 +i*1048576)∧(∀ x∈ask,x.length≤1048576)∧(Sl cD [(7,aH cb),(9,aH C),(10,bi),(40,.slice a ops.length cap),(41,bL (ops.length)),(42,bL i)])∧(ops.length - i=a4)) _ ⟨0,(fun _=>none),[fun _=>none],[],[],.slice none 0 0,0,ls,el,ab,(bK.wk bD),mB.start,(by simp),(a8.trans bD),(sW co eh),(fun k I=>by have ad:=bK.obj.lt; have J:=bK.db.lt; have ai:=(dF co I).1; exact ⟨ab,ab,fun h=>by simp [cR] at h⟩),dU,ab,dS,U,U⟩ ?_;rintro a4 cD aW ⟨i,g,gz,E,cs,V,n,ask,bi,hi,O,aA,eX,av,aF,aU,cn,eG,cm,d3,rfl⟩;refine cH d3 ?_;obtain ⟨aN,aO,rfl⟩:=iQ aF;have eN:=dC.len O.bk;refine cS 6 U<|cd U (fun dA=> ?_) fun dA=> ?_;refine cx 5 U ?_;obtain ⟨bv,bw,cN,bN,_⟩:=cj.st i ab;have bV:=J9 (ops:=ops) (i:=i) ab;refine aB 1 U<|p (fv HC U U ab<|(cj.wk<|aD.trans av).ok ab)<|p (jk E2 U (U)<|Mq (aD.trans av) cN)<|e<|fI NA fun bn fB eI dn cP=>e<|ir Gt U U U U cP (by simp) fun bj dl cO=> ?_;have aS:aI bj.heap bn [bT .i64 (ops.getD i dj).1,.slice bv (ops.getD i dj).2.1.length bw,str (ops.getD i dj).2.2]:=⟨_,cO⟩
 have an:Wk aW bj:=Md.trans' dn.md dl fun k I h=>by omega
 have e6:=an.size;have bQ:¬iZ C bs V bn:=iZ.not O ab;refine aC 2 U ?_;refine lu (fun cF bm=> ∃ (g2:List UInt8→Option Int) (aQ al:List (List UInt8→Option Int)) (ax:List ag) (am:ag) (aL:Nat),(bX bm A.heap.size C bs am ⟨cb,0,none⟩ g2 aL al ax)∧(mB al aQ g2)∧(al.length≤i+1)∧(Wk A bm)∧(dM bm A.heap.size 9 1 (.slice aN ask.length aO) (ask).length<|(ask).map str)∧(∀ k,((.slice aN ask.length aO):ag).ownBlock=some k→k≠C∧k≠bs∧¬((am):ag).ownBlock=some k)∧(aI bm.heap bn [bT .i64 (ops.getD i dj).1,.slice bv (ops.getD i dj).2.1.length bw,str (ops.getD i dj).2.2])∧(Sl cF [(7,aH cb),(9,aH C),(10,.slice aN ask.length aO),(12,aH bn),(40,.slice a ops.length cap),(41,bL (ops.length)),(42,bL i)])) ?_ ?_;refine aP 3 U<|p (aM U<|aS.bd 0)<|aC 9 U<|cd U (fun dB=> ?_) fun dB=> ?_;refine aB 3 U<|p (aM U<|aS.bd 1)<|e<|az (xI _ bv bw bj (bN.wk<|(aD.trans av).trans an) ab) U ?_;rintro v53 ev ⟨b5,cp,_⟩;obtain ⟨a53,cJ,rfl⟩:=iQ cp;have a9:=an.trans b5;refine e<|az (yN A.heap.size C bs V ⟨cb,0,none⟩ g n E cs (ops.getD i dj).2.1 a53 cJ ev (O.wk a9) (fO cp).2 ab (fun x aw=>bS (bV.2.2 x aw) bP) ab) U fun fs ew dr=> ?_;obtain ⟨am,g2,aL,al,ax,aQ,Z,a6,a0,bH,dI⟩:=jB.zo dr (O.wk a9) aA<|.inl rfl;have c7:Wk A ew:=(av.trans a9).trans' bH (fun k I h=>by
  rcases h with h | h | h;have :=O.lo; omega;have :=O.lo; omega;have :=(dF O.back h).1; omega)
 have dY:=da (cE aF a9) bH (fun k I h=>by
  obtain ⟨ad,J,ai⟩:=aU k I;rcases h with h | h | h;exact ad h;exact J h;exact ai h)
 have e9:=a9.size;have cV:=bH.B (Wk.B b5 aS) bQ;have bu:al.length≤i+1:=by rcases a0 with h | h <;> (obtain ⟨_,_,h⟩:=h; rw [h]; omega)
 have d7:∀ k,((.slice aN ask.length aO):ag).ownBlock=some k→k≠C∧k≠bs∧¬((am):ag).ownBlock=some k:=fun k I=>by
  obtain ⟨ad,J,ai⟩:=aU k I;refine ⟨ad,J,fun h=> ?_⟩;rcases dI k h with a5 | a5;exact ai a5;have :=(dF aF I).2; omega
 exact au 2 U<|tn<|⟨g2,aQ,al,ax,am,aL,Z,a6,bu,c7,dY,d7,cV,U⟩
 refine cx 6 U<|cd U (fun dD=> ?_) fun dD=> ?_;refine aB 3 U<|p (aM U<|aS.bd 1)<|e<|az (xI _ bv bw bj (bN.wk<|(aD.trans av).trans an) ab) U ?_;rintro ft ex ⟨b6,cq,_⟩;obtain ⟨cI,cL,rfl⟩:=iQ cq;have ba:=an.trans b6;refine e<|az (y7 A.heap.size C bs V ⟨cb,0,none⟩ g n E cs (ops.getD i dj).2.1 cI cL ex (O.wk ba) (fO cq).2 ab (fun x aw=>bS (bV.2.2 x aw) bP) ab) U fun fu ey ds=> ?_;obtain ⟨am,g2,aL,al,ax,aQ,Z,a6,a0,bI,dJ⟩:=jB.zo ds (O.wk ba) aA<|.inr rfl;have c8:Wk A ey:=(av.trans ba).trans' bI (fun k I h=>by
  rcases h with h | h | h;have :=O.lo; omega;have :=O.lo; omega;have :=(dF O.back h).1; omega)
 have dZ:=da (cE aF ba) bI (fun k I h=>by
  obtain ⟨ad,J,ai⟩:=aU k I;rcases h with h | h | h;exact ad h;exact J h;exact ai h)
 have fa:=ba.size;have cX:=bI.B (Wk.B b6 aS) bQ;have bu:al.length≤i+1:=by rcases a0 with h | h <;> (obtain ⟨_,_,h⟩:=h; rw [h]; omega)
 have d8:∀ k,((.slice aN ask.length aO):ag).ownBlock=some k→k≠C∧k≠bs∧¬((am):ag).ownBlock=some k:=fun k I=>by
  obtain ⟨ad,J,ai⟩:=aU k I;refine ⟨ad,J,fun h=> ?_⟩;rcases dJ k h with a5 | a5;exact ai a5;have :=(dF aF I).2; omega
 exact au 2 U<|tn<|⟨g2,aQ,al,ax,am,aL,Z,a6,bu,c8,dZ,d8,cX,U⟩
 refine cx 6 U<|cd U (fun dE=> ?_) fun dE=> ?_;refine aB 2 U<|e<|az (MI (k:=E.length) (gz:=gz) (gT:=g) bj aA (by rw [aA.last,List.take_length]; exact O.wk an) (aT _) ab) U ?_;rintro fw ez ⟨rfl,cw,cM,ej,dp,bJ,dK⟩;have c1:=mB.MH aA;have c9:Wk A ez:=(av.trans an).trans' bJ (fun k I h=>by
  rcases h with h | h | h;have :=O.lo; omega;have :=O.lo; omega;have :=(dF O.back h).1; omega)
 have d0:=da (cE aF an) bJ (fun k I h=>by
  obtain ⟨ad,J,ai⟩:=aU k I;rcases h with h | h | h;exact ad h;exact J h;exact ai h)
 have cZ:=bJ.B aS bQ;have dR:(E.take<|E.length - 1).length≤i+1:=by rw [bW]; omega
 have d9:∀ k,((.slice aN ask.length aO):ag).ownBlock=some k→k≠C∧k≠bs∧¬((cw):ag).ownBlock=some k:=fun k I=>by
  obtain ⟨ad,J,ai⟩:=aU k I;exact ⟨ad,J,fun h=>ai<|dK k h⟩
 exact au 2 U<|tn<|⟨(gz.getD (E.length - 1) dG),(gz.take<|E.length - 1 +1),(E.take<|E.length - 1),cM,cw,ej,dp,c1,dR,c9,d0,d9,cZ,U⟩
 exact aK 2 U<|tn<|⟨g,gz,E,cs,V,n,(O.wk an),aA,ab,(av.trans an),(cE aF an),aU,aS,U⟩
 rintro cF bm ⟨g2,aQ,al,ax,am,aL,Z,a6,bu,bA,bR,d6,c0,d4⟩;refine cH d4<|aB 3 U<|p (aM U<|c0.bd 1)<|e<|ap ku (bR) U (by have :=bA.size; omega) U (bN.wk<|aD.trans bA) (by simp) (by rw [DZ]; exact uk.2 fun _ _=>rfl) ab ab fun bZ cC dX bq ei dL=> ?_;have e2:=bq.size;have dq:bX cC A.heap.size C bs am ⟨cb,0,none⟩ g2 aL al ax:=by
  by_cases ck:ask= []
  exact Z.wk<|bq.mono fun k _ h=>by rw [cn ck] at h; simp [cR] at h
  exact bX.Mz Z bR ck bq
 have dc:Wk A cC:=bA.trans' bq fun k I h=>by have :=(dF bR h).1; omega
 have eK:=Z.obj.lt;have eL:=Z.db.lt;have ea:∀ k,((bZ):ag).ownBlock=some k→k≠C∧k≠bs∧¬((am):ag).ownBlock=some k:=fun k I=>by
  rcases dL k I with h | h;exact d6 k h;exact ⟨ab,ab,fun J=>by have :=(dF Z.back J).2; omega⟩
 have dV:ask++(ops.getD i dj).2.1= []→bZ= .slice none 0 0:=fun h=>by
  obtain ⟨ad,J⟩:=List.append_eq_nil_iff.1 h;exact ei.2 ⟨cn ad,by rw [J]; rfl⟩
 have dv:(ask++(ops.getD i dj).2.1).length≤1048576 +(i+1)*1048576:=by rw [bB]; omega
 have dw:∀ x∈ask++(ops.getD i dj).2.1,x.length≤1048576:=fun x aw=>by
  rcases List.mem_append.1 aw with h | h;exact cm x h;exact bS (bV.2.2 x h) bP
 exact p aE<|ao 4 U<|p (cK<|i+1)<|au 2 U<|tn<|⟨_,ab,i+1,g2,aQ,al,ax,am,aL,ask++(ops.getD i dj).2.1,bZ,ab,dq,a6,ab,dc,(by rw [bB,j1]; exact dX),ea,dV,dv,dw,U,U⟩
 refine aK 2 U<|eH<|kV 6 U<|e<|az (tC A.heap.size C bs V ⟨cb,0,none⟩ g n E cs aW O (zq aA).1.len) U ?_;rintro fx eA ⟨xs,br,ec,ct,dg⟩;obtain ⟨bh,m0,dT,e0⟩:=zq aA;have e5:xs.length=m0:=br.eO dT;have ef:=tF (g:=g) (xs:=xs) fun x aw=>by
  obtain ⟨o,dW⟩:=(br.2 x).1 aw;exact bh.len x o dW
 have bO:=Kj br bh ab;rw [xL br ec] at ct ef bO;subst ct;refine e<|az (Kg ⟨cb,0,none⟩ (xK g) eA ab) U ?_;rintro v75 eB ⟨d1,b8⟩;obtain ⟨g2,a2,aX,a3,a0,rfl,fe,bM⟩:=d1.resolve_right fun ⟨l,q,h,_⟩=>by rw [bO] at h; cases h
 rw [bO] at a0;cases a0;rw [bM.eO.uniq O.eO] at bM;have de:=dg.trans b8;have fb:=b8.size;refine p mv<|ao 2 U<|e<|fI Dh fun b1 fC eJ ch cQ=> ?_;have e7:=ch.size;refine p aE<|e<|ir rQ U U U U cQ (by simp) fun bl dm cT=> ?_;have cU:aI bl.heap b1 [bT .i64 0,.int .i64 0,.int .i64 0]:=⟨_,cT⟩
 have b7:Wk eB bl:=ch.md.trans' dm fun k I h=>by omega
 have bC:Wk aW bl:=de.trans b7;have ak:=O.wk bC;have Z:=bM.wk b7;refine ao 5 U<|p mv<|p (fY u32 U U)<|ao 1 U<|gb (t:=80) U (fun h=>absurd (h.symm.trans<|U) dd) fun eT=>bU U (jk rF U (U) (show ∀ j,j < 3→ay bl.heap b1 (0 +j)=([bT .i64 0,.int .i64 0,.int .i64 0]:List ag)[j]? from fun j _=>cU.bd j))<|bU U (hH (ps:= []) (L:= [.int .i64 0,.int .i64 0,.int .i64 0]) tA U<|U)<|bU U (JR U U)<|ao 2 U<|gs (t:=85) U (fun h=>absurd h fun h=>h ⟨U,U,U⟩) fun eU=>bU U mv<|eg U U U<|az (tC a2 aX a3 (.slice none 0 0) ⟨cb,0,none⟩ g n [] [] bl Z bh.len) U ?_;rintro v87 eC ⟨fF,dO,ed,cu,ca⟩;rw [xL dO ed] at cu;subst cu;refine ao 1 U<|eg U U U<|az (tC A.heap.size C bs V ⟨cb,0,none⟩ g n E cs eC (ak.wk ca) bh.len) U ?_;rintro fy eD ⟨fG,dP,ee,cv,dh⟩;rw [xL dP ee] at cv;subst cv;have bE:=ca.trans dh;refine ao 3 U<|gs (t:=92) U (fun h=>absurd h fun h=>h U) fun eV=>bU U mv<|eg U U U<|az (AW a2 aX a3 (.slice none 0 0) ⟨cb,0,none⟩ g n [] [] eD<|Z.wk bE) U ?_;rintro fz eE ⟨rfl,cc⟩;refine ao 1 U<|eg U U U<|az (AW A.heap.size C bs V ⟨cb,0,none⟩ g n E cs eE<|ak.wk<|bE.trans cc) U ?_;rintro fA eF ⟨rfl,di⟩;have ce:=(bE.trans cc).trans di;refine ao 3 U<|gs (t:=99) U (fun h=>absurd h fun h=>h U) fun eW=>bU U mv<|eg U U U<|az (CY a2 aX a3 (.slice none 0 0) ⟨cb,0,none⟩ g n eF<|Z.wk ce) U ?_;rintro ff cy ⟨rfl,c3⟩;have bp:=ce.trans c3;have ak:=ak.wk bp;have Z:=Z.wk bp;have cg:Wk A cy:=(av.trans bC).trans bp;have a7:=c2.wk cg;have cr:=cE aF<|bC.trans bp;refine aC 3 U<|cf (U)<|cx 11 U<|lp (fun a4 cG b0=> ∃ (j:Nat),(j≤ask.length)∧(Wk cy b0)∧(Sl cG [(7,aH cb),(9,aH C),(13,aH aX),(103,.slice aN ask.length aO),(104,bL (ask.length)),(105,bL j)])∧(ask.length - j=a4)) _ ⟨0,ab,(Md.refl _ _),U,U⟩ ?_;rintro a4 cG b0 ⟨j,eY,M,d5,rfl⟩;refine cH d5<|cS 6 U<|cd U (fun dz=> ?_) fun dz=> ?_;refine cx 5 U ?_;have e4:=cm (ask.getD j [])<|iM ab;refine aB 1 U<|p (fv mM U U ab<|bo.ok ((fO cr).2.wk M)<|oJ ab)<|p (aM U<|dN.get (i:=j) ((fO cr).2.wk M) ab)<|ao 7 U<|e<|az (ke a2 aX a3 (.slice none 0 0) ⟨cb,0,none⟩ g n [] [] (ask.getD j []) b0<|Z.wk<|M) U ?_;rintro fg em ⟨rfl,aa⟩;refine ao 2 U<|e<|az (ke A.heap.size C bs V ⟨cb,0,none⟩ g n E cs (ask.getD j []) em<|ak.wk<|(M).trans aa) U ?_;rintro fh en ⟨rfl,ac⟩;refine ao 2 U<|gs (t:=116) U (fun h=>absurd h fun h=>h U) fun eP=>ao 2 U<|eg U U U<|az (rN a2 aX a3 (.slice none 0 0) ⟨cb,0,none⟩ g n [] [] aV.heap.size cb b s (ask.getD j []) en (Z.wk<|((M).trans aa).trans ac) U (a7.wk<|((M).trans aa).trans ac) bb ab) U ?_;rintro fi eo ⟨rfl,ae⟩;refine ao 2 U<|eg U U U<|az (rN A.heap.size C bs V ⟨cb,0,none⟩ g n E cs aV.heap.size cb b s (ask.getD j []) eo (ak.wk<|(((M).trans aa).trans ac).trans ae) U (a7.wk<|(((M).trans aa).trans ac).trans ae) bb ab) U ?_;rintro fj ep ⟨rfl,aq⟩;refine bU U (wD u4 U U)<|ao 2 U<|gs (t:=125) U (fun h=>absurd h fun h=>h U) fun eQ=>ao 2 U<|eg U U U<|az (ke A.heap.size C bs V ⟨cb,0,none⟩ g n E cs (ask.getD j []) ep<|ak.wk<|((((M).trans aa).trans ac).trans ae).trans aq) U ?_;rintro fk cz ⟨rfl,ar⟩;refine ao 2 U<|gs (t:=130) U (fun bf=> ?_) fun bf=> ?_
 refine ao 2 U<|eg U U U<|az (rN A.heap.size C bs V ⟨cb,0,none⟩ g n E cs aV.heap.size cb b s (ask.getD j []) cz (ak.wk<|(((((M).trans aa).trans ac).trans ae).trans aq).trans ar) U (a7.wk<|(((((M).trans aa).trans ac).trans ae).trans aq).trans ar) bb ab) U ?_;rintro fl eq ⟨rfl,bz⟩;refine ao 2 U<|eg U U U<|az (zn aV.heap.size cb b s (ask.getD j []) eq (a7.wk<|((((((M).trans aa).trans ac).trans ae).trans aq).trans ar).trans bz) bb ab) U ?_;rintro fm er ⟨rfl,b3⟩;rw [F6 bf];refine bU U (wD u4 U U)<|ao 3 U<|gs (t:=140) U (fun h=>absurd h fun h=>h U) fun eR=>ao 2 U<|eg U U U<|az (ke A.heap.size C bs V ⟨cb,0,none⟩ g n E cs (ask.getD j []) er<|ak.wk<|(((((((M).trans aa).trans ac).trans ae).trans aq).trans ar).trans bz).trans b3) U ?_;rintro v143 cA ⟨rfl,aZ⟩;exact ao 2 U<|gs (t:=145) U (fun h=>absurd h fun h=>h bf) fun dQ=>ao 9 U<|p (sZ U)<|ao 7 U<|p (cK<|j+1)<|au 2 U<|tn<|⟨_,ab,j+1,ab,(((((((((M).trans aa).trans ac).trans ae).trans aq).trans ar).trans bz).trans b3).trans aZ),U,U⟩
 refine ao 8 U<|p (sZ U)<|p mv<|ao 2 U<|eg U U U<|az (ke A.heap.size C bs V ⟨cb,0,none⟩ g n E cs (ask.getD j []) cz<|ak.wk<|(((((M).trans aa).trans ac).trans ae).trans aq).trans ar) U ?_;rintro v143 cA ⟨rfl,aZ⟩;refine ao 2 U<|gs (t:=145) U (fun dQ=> ?_) fun h=>absurd bf h;refine ao 2 U<|eg U U U<|az (rN A.heap.size C bs V ⟨cb,0,none⟩ g n E cs aV.heap.size cb b s (ask.getD j []) cA (ak.wk<|((((((M).trans aa).trans ac).trans ae).trans aq).trans ar).trans aZ) U (a7.wk<|((((((M).trans aa).trans ac).trans ae).trans aq).trans ar).trans aZ) bb ab) U ?_;rintro v148 et ⟨rfl,b4⟩;refine ao 2 U<|eg U U U<|az (ke A.heap.size C bs V ⟨cb,0,none⟩ g n E cs (ask.getD j []) et<|ak.wk<|(((((((M).trans aa).trans ac).trans ae).trans aq).trans ar).trans aZ).trans b4) U ?_;rintro fo fD ⟨rfl,c4⟩;exact ao 1 U<|bU U (wD u4 U U)<|aC 4 U<|cd U (fun h=>absurd h fun h=>h<|F5 bh bf) fun eM=>aB 4 U<|p (cK<|j+1)<|au 2 U<|tn<|⟨_,ab,j+1,ab,(((((((((M).trans aa).trans ac).trans ae).trans aq).trans ar).trans aZ).trans b4).trans c4),U,U⟩
 exact aK 2 U<|eH<|bG 8 U<|aJ U<|⟨U,(aD.trans cg).trans M⟩
end Go.Hb
end
