/-
  Walks and plain laws that the law rests on, laid together. No conditions but those that each theorem names.
-/
import Derived.Test.YtbogmhohloohhaaGreatDoorMnOwnBack4
set_option linter.unusedVariables false
set_option maxRecDepth 20000
set_option maxHeartbeats 1000000
open Array renaming getElem?_eq_some_iff→bI
open Go renaming Value→ab,World→ah
open Go.Value renaming int→cW,oneCell'→jC,ownBlock→cG
open Go.World renaming ownsRow→dN,ownsRow_nil→jD
open List renaming all_cons→rQ,all_nil→BC,drop_eq_nil_of_le→BE,getD_cons_succ→BL,getD_cons_zero→rT,getD_eq_getElem?_getD→cH,getElem?_eq_getElem→bW,length→rW,length_append→bK,length_cons→bZ,length_nil→nY,length_singleton→gY,length_take→cm,map_append→mC,take_zero→vW,toArray→bC
open Nat renaming le_trans→bX,zero_add→bS
open Option.some renaming injEq→aY
open Go.Proofs.Tryz

section
namespace Go.Hb
open Go.Hb.fD
open Go.Proofs
open Go.Hb.sj
theorem Fg (s A:List UInt8) (w:ah) (E:s.length≤1073741824) (hp:A.length≤1073741824):
 bf prog 80 (bC [str s,str A]) w (fun v w'=>v= .bool (decide (s.take A.length=A))∧Wk w w'):=by
 refine enter func80 U ntmps80 U<|bd 13 U<|gs (t:=10) U (fun C=> ?_) fun C=> ?_;exact ar 3 U<|cS U (z1 u9 U U ag)<|aA 7 U<|aW U<|⟨U,Md.refl _ _⟩
 exact ar 7 U<|p aE<|aA 3 U<|aW U<|⟨by show Value.bool false =_; rw [decide_eq_false (fun h=>by have :=congrArg rW h; rw [cm] at this; omega)],Md.refl _ _⟩
theorem Ff (s A:List UInt8) (w:ah) (E:s.length≤1073741824) (hp:A.length≤1073741824):
 bf prog 40 (bC [str s,str A]) w (fun v w'=>v= .bool (decide (s.take A.length=A))∧Wk w w'):=by
 refine enter func40 U ntmps40 U<|bd 9 U<|e<|aZ (Fg s A _ E hp) U ?_;rintro I J ⟨rfl,C⟩;exact aA 4 U<|aW U<|⟨U,C⟩
theorem DR (p2 p3:Nat) (w:ah):
 CallsD prog 41 (bC [.pointer (some ⟨p2,0,none⟩),.pointer (some ⟨p3,0,none⟩)]) .returning w (fun A I w'=> ∃ v,A= .returned v∧I= .returning∧(fun w'=>Wk w w') w'):=by
 refine xf (v:= .nilIface) func41 U ntmps41 U (fun L cs E=> .inr ⟨by simp [recoverD,E],U,U⟩) ?_;exact p (Ah qH JT U)<|p mv<|p (xt U U)<|p (xt U U)<|p aE<|p aE<|nl<|tn<|sq fun J C=>rg U<|p mv<|nl<|tn<|C _ _<|cf (U)<|zX<|f0 U<|Md.refl _ _
theorem DQ (p2 p3:Nat) (A:Int) (w:ah) (C:∃ L:List ab,L.length=7∧w.heap[p2]? =some (.cells L.toArray 56 (0,0))) (E:∃ v:ab,w.heap[p3]? =some (.cells [v].toArray 34 (0,0))) (O:p2≠p3):
 CallsD prog 41 (bC [.pointer (some ⟨p2,0,none⟩),.pointer (some ⟨p3,0,none⟩)]) (.panicking<|jS A) w (fun V ae w'=> ∃ v,V= .returned v∧ae=(.panicking [{v:= .iface 34 (.int .i64 A),recovered:=true}])∧(fun w'=>w'.heap[p2]? =some (.cells [cW .i64 0,str [],.slice none 0 0,.slice none 0 0,.slice none 0 0,.slice none 0 0,.slice none 0 0].toArray 56 (0,0))∧w'.heap[p3]? =some (.cells [.int .i64 A].toArray 34 (0,0))∧Md (fun k=>k=p2∨k=p3) w w') w'):=by
 obtain ⟨ak,ac,C⟩:=C;obtain ⟨v3,E⟩:=E;have am:=(bI.1 C).1;have an:=(bI.1 E).1;refine xf (v:= .iface 34<|.int .i64 A) func41 U ntmps41 U (fun al cs ad=> .inl<|by simp [recoverD,ad,jS]) ?_;refine p (Ag qH U)<|p mv<|p (xt U U)<|p (xt U U)<|p aE<|p aE<|nl<|tn<|sq fun aj aa=>rg U<|p mv<|nl<|tn<|aa _ _<|ct (U)<|rg U<|p (jJ (ps:= []) (L:= [.int .i64 0,.string ⟨⟨[]⟩⟩,.slice none 0 0,.slice none 0 0,.slice none 0 0,.slice none 0 0,.slice none 0 0]) Aa U<|U)<|p mv<|e<|ka pW U U U U C (by rw [ac]; decide) fun ai J I=>e<|fM sU U U (v:= .int .i64 A) U (J.ao E fun h=>O h.symm) (by show 0 < 1; decide) fun ap M Z=>nl<|f0 U ?_;have I:ai.heap[p2]? =some (.cells [cW .i64 0,str [],.slice none 0 0,.slice none 0 0,.slice none 0 0,.slice none 0 0,.slice none 0 0].toArray 56 (0,0)):=I.trans<|by rw [BE ag]; rfl
 exact ⟨M.ao I O,Z,(J.mono fun _ _ h=> .inl h).trans' M fun _ _ h=> .inr h⟩
theorem xB (p2 p3:Nat) (w:ah):(invoke (.fn (.func 41) #[aJ p2,aJ p3]) #[]).run prog w= .ok (.enter 41 #[aJ p2,aJ p3]) w:=by
 have h:=C3 #[aJ p2,aJ p3] w;simp [invoke,h]
theorem qe {n:Nat} {D:List Deferred} {G:List Nat} {σ:Nat→ab} {t:Nat} (h:t < n):ev ⟨n,D,G,none⟩ σ (.tmp t)=σ t:=by
 show cond (Nat.blt t n) (σ t) undef=_;rw [show Nat.blt t n=true from by simpa using h]; rfl
theorem D5 {n:Nat} {G:List Nat} {fn:Func} {R:ab→ah→Prop} {σ:Nat→ab} {w:ah} {p2 p3:Nat} {A:Int} (V:fn.results= #[.cell 2 56,.cell 3 34]) (ac:3 < n) (Z:σ 2= .pointer (some ⟨p2,0,none⟩)) (aa:σ 3= .pointer (some ⟨p3,0,none⟩)) (C:∃ L:List ab,L.length=7∧w.heap[p2]? =some (.cells L.toArray 56 (0,0))) (E:∃ v:ab,w.heap[p3]? =some (.cells [v].toArray 34 (0,0))) (O:p2≠p3)
 (I:∀ w',Md (fun k=>k=p2∨k=p3) w w'→R (.tuple #[.agg [cW .i64 0,str [],.slice none 0 0,.slice none 0 0,.slice none 0 0,.slice none 0 0,.slice none 0 0].toArray,.int .i64 A]) w'):qb ⟨n,[{target:= .fn (.func 41) #[.pointer (some ⟨p2,0,none⟩),.pointer (some ⟨p3,0,none⟩)],args:= #[]}],G,none⟩ (ko prog fn R) (.panic<|jS A) σ w:=by
 refine EK (xB p2 p3 w) (DQ p2 p3 A w C E O) ?_;rintro w' ⟨J,M,hm⟩;exact ⟨_,uA V (kP<|qY (cs:= [cW .i64 0,str [],.slice none 0 0,.slice none 0 0,.slice none 0 0,.slice none 0 0,.slice none 0 0]) ((qe ag).trans Z) oe U fun j _=>by rw [bS,dd J]; simp) (kP<|iq ((qe ag).trans aa) wD<|(dd M).trans U),I w' hm⟩
theorem D6 {n:Nat} {G:List Nat} {fn:Func} {R:ab→ah→Prop} {σ:Nat→ab} {w:ah} {p2 p3:Nat} {v:ab} {L:List ab} (O:fn.results= #[.cell 2 56,.cell 3 34]) (aa:3 < n) (V:σ 2= .pointer (some ⟨p2,0,none⟩)) (Z:σ 3= .pointer (some ⟨p3,0,none⟩)) (A:w.heap[p2]? =some (.cells L.toArray 56 (0,0))) (C:w.heap[p3]? =some (.cells [v].toArray 34 (0,0))) (E:L.length=7)
 (I:∀ w',Wk w w'→R (.tuple #[.agg L.toArray,v]) w'):qb ⟨n,[{target:= .fn (.func 41) #[.pointer (some ⟨p2,0,none⟩),.pointer (some ⟨p3,0,none⟩)],args:= #[]}],G,none⟩ (ko prog fn R) .ret σ w:=by
 refine EJ (xB p2 p3 w) (DR p2 p3 w) ?_;intro w' hm;have J:=Wk.ao hm A;have M:=Wk.ao hm C;exact ⟨_,uA O (kP<|qY (cs:=L) ((qe ag).trans V) oe E fun j _=>by rw [bS,dd J]; simp) (kP<|iq ((qe ag).trans Z) wD<|(dd M).trans U),I w' hm⟩
section
variable {s:List UInt8} {a e n m p1 p2 p3 p4 p5 p q ls:Nat} {t f:List UInt8} {rs:List (List UInt8×List UInt8)} {l:List (List bH)}
theorem Hg (h:cZ s a= .error e):gq s a= .error e:=by unfold gq; rw [h]
theorem Hh (h:cZ s a= .ok (f,p)) (A:cZ s p= .error e):gq s a= .error e:=by unfold gq; rw [h]; simp only; rw [A]
theorem Hi (h:cZ s a= .ok (f,p)) (A:cZ s p= .ok (t,q)):gq s a= .ok ((f,t),q):=by unfold gq; rw [h]; simp only; rw [A]
theorem DW (hm:¬s.take 4=fj):du s= .error 200:=if_neg hm
theorem DX (hm:s.take 4=fj) (h:bo s 4= .error e):du s= .error e:=by unfold du; rw [if_pos hm,h]
theorem DY (hm:s.take 4=fj) (h:bo s 4= .ok (n,p1)) (A:cZ s p1= .error e):du s= .error e:=by unfold du; rw [if_pos hm,h]; simp only; rw [A]
theorem DZ (hm:s.take 4=fj) (h:bo s 4= .ok (n,p1)) (A:cZ s p1= .ok (t,p2)) (C:bo s p2= .error e):du s= .error e:=by unfold du; rw [if_pos hm,h]; simp only; rw [A]; simp only; rw [C]
theorem D0 (hm:s.take 4=fj) (h:bo s 4= .ok (n,p1)) (A:cZ s p1= .ok (t,p2)) (C:bo s p2= .ok (m,p3)) (E:256 < m):du s= .error 201:=by unfold du; rw [if_pos hm,h]; simp only; rw [A]; simp only; rw [C]; exact if_pos E
theorem xC (hm:s.take 4=fj) (h:bo s 4= .ok (n,p1)) (A:cZ s p1= .ok (t,p2)) (C:bo s p2= .ok (m,p3)) (E:¬256 < m) (I:cr (gq s) m p3= .error e):du s= .error e:=by unfold du; rw [if_pos hm,h]; simp only; rw [A]; simp only; rw [C]; simp only; rw [if_neg E,I]
theorem D3 (hm:s.take 4=fj) (h:bo s 4= .ok (n,p1)) (A:cZ s p1= .ok (t,p2)) (C:bo s p2= .ok (m,p3)) (E:¬256 < m) (I:cr (gq s) m p3= .ok (rs,p4)):du s=iE s (if n≤64 then n else 0) t rs p4:=by unfold du; rw [if_pos hm,h]; simp only; rw [A]; simp only; rw [C]; simp only; rw [if_neg E,I]
theorem DS (h:gr ls t rs=false):iE s ls t rs a= .error 201:=by unfold iE; rw [h]; rfl
theorem DT (h:gr ls t rs=true) (A:cr (dS s) 4 a= .error e):iE s ls t rs a= .error e:=by unfold iE; rw [if_pos h,A]
theorem DU (h:gr ls t rs=true) (A:cr (dS s) 4 a= .ok (l,p5)) (C:p5≠s.length):iE s ls t rs a= .error 202:=by unfold iE; rw [if_pos h,A]; exact if_neg C
theorem DV (h:gr ls t rs=true) (A:cr (dS s) 4 a= .ok (l,p5)) (C:p5=s.length):iE s ls t rs a= .ok ⟨ls,t,rs,l⟩:=by unfold iE; rw [if_pos h,A]; exact if_pos C
end
def mF (w:ah) (B:Nat) (cs:List ab) (b:oa):Prop := ∃ A rc vs,cs= [.int .i64 (b.least:Nat),str b.tr,.slice A b.zA.length rc]++vs∧vs.length=4∧bh w.heap A (b.zA.flatMap kO)∧∀ i,i < 4→eZ w B (vs.getD i .nilFunc) (b.HH.getD i [])
theorem mF.wk {w w':ah} {B:Nat} {cs:List ab} {b:oa} (h:mF w B cs b) (hm:Wk w w'):mF w' B cs b:=by
 obtain ⟨J,rc,vs,A,C,E,I⟩:=h;exact ⟨J,rc,vs,A,C,E.wk hm,fun i hi=>(I i hi).wk hm⟩
def iy (s:List UInt8) (w:ah) (v:ab) (w':ah):Prop :=(match du s with
 | .ok b=> ∃ cs,v= .tuple #[.agg cs.toArray,.int .i64 0]∧mF w' w.heap.size cs b
 | .error e=>v= .tuple #[.agg [cW .i64 0,str [],.slice none 0 0,.slice none 0 0,.slice none 0 0,.slice none 0 0,.slice none 0 0].toArray,.int .i64 (e:Nat)])∧Wk w w'
theorem iy.no {s:List UInt8} {w w':ah} {e:Nat} (h:du s= .error e) (hm:Wk w w'):iy s w (.tuple #[.agg [cW .i64 0,str [],.slice none 0 0,.slice none 0 0,.slice none 0 0,.slice none 0 0,.slice none 0 0].toArray,.int .i64 (e:Nat)]) w':=by
 unfold iy; rw [h]; exact ⟨rfl,hm⟩
theorem HK {a b c v:ab} {vs:List ab} {k:Nat} :([a,b,c]++vs).set (0 +3 +((k:Nat):Int).toNat*1) v= [a,b,c]++vs.set k v:=by
 rw [show 0 +3 +((k:Nat):Int).toNat*1=k+1 +1 +1 from by omega]; rfl
theorem E9 {α:Type} {l:List α} {i k:Nat} {v d:α} (h:i≠k):(l.set k v).getD i d=l.getD i d:=by
 rw [cH,List.getElem?_set_ne (fun e=>h e.symm),cH]
theorem E8 {α:Type} {l:List α} {k:Nat} {v d:α} (h:k < l.length):(l.set k v).getD k d=v:=by
 rw [cH,List.getElem?_set_self h]; rfl
theorem E7 {α:Type} {l m:List α} {i:Nat} {d:α} (h:i < l.length):(l++m).getD i d=l.getD i d:=by
 rw [cH,List.getElem?_append_left h,cH]
theorem E6 {α:Type} {l:List α} {a d:α} {i:Nat} (h:i=l.length):(l++ [a]).getD i d=a:=by
 subst h;rw [cH,List.getElem?_append_right (Nat.le_refl _),Nat.sub_self]; rfl
structure eM (w0 w:ah) (b2 b3:Nat) (L:List ab):Prop where
 c2:w.heap[b2]? =some (.cells L.toArray 56 (0,0))
 c3:w.heap[b3]? =some (.cells [cW .i64 0].toArray 34 (0,0))
 len:L.length=7
 lo:w0.heap.size≤b2∧w0.heap.size≤b3∧b2≠b3
 wk:Wk w0 w
theorem eM.md {F:Nat→Prop} {w0 w w':ah} {A C:Nat} {L:List ab} (h:eM w0 w A C L) (hm:Md F w w') (E:¬F A) (I:¬F C) (J:∀ k,F k→w0.heap.size≤k):eM w0 w' A C L:=
 ⟨hm.ao h.c2 E,hm.ao h.c3 I,h.len,h.lo,h.wk.trans' hm fun k O M=>by have :=J k M; omega⟩
theorem eM.Jr {w0 w w':ah} {A C:Nat} {L:List ab} (h:eM w0 w A C L) (hm:Wk w w'):eM w0 w' A C L:=h.md hm (fun h=>h) (fun h=>h) fun _ h=>h.elim
theorem eM.rb {w0 w w':ah} {A C rb:Nat} {L:List ab} (h:eM w0 w A C L) (hm:Md (fun k=>k=rb) w w') (E:A≠rb) (I:C≠rb) (h0:w0.heap.size≤rb):eM w0 w' A C L:=h.md hm E I fun k J=>by omega
theorem jN {n:Nat} {G:List Nat} {fn:Func} {σ:Nat→ab} {s:List UInt8} {w W:ah} {C E e:Nat} {L:List ab} (J:fn.results= #[.cell 2 56,.cell 3 34]) (I:3 < n) (M:σ 2= .pointer (some ⟨C,0,none⟩)) (O:σ 3= .pointer (some ⟨E,0,none⟩)) (A:eM w W C E L) (U:du s= .error e):qb ⟨n,[{target:= .fn (.func 41) #[.pointer (some ⟨C,0,none⟩),.pointer (some ⟨E,0,none⟩)],args:= #[]}],G,none⟩ (ko prog fn<|iy s w) (.panic<|jS (e:Nat)) σ W:=
 D5 J I M O ⟨_,A.len,A.c2⟩ ⟨_,A.c3⟩ A.lo.2.2 (fun w' hm=>iy.no U<|A.wk.trans' hm fun k V h=>by rcases h with rfl | rfl; have :=A.lo.1; omega; have :=A.lo.2.1; omega)
theorem D7 (s:List UInt8) (w:ah) (aD:s.length≤1048576):
 bf prog 20 (bC [str s]) w (iy s w):=by
 refine Et [2,3] func20 U ntmps20 U ?_;refine ed<|ej<|bd 1 U<|e<|iA AU fun C eG dU bV cu=>e<|iA JP fun M cf dV bv cz=> ?_;have ep:=bV.size;have eq:=bv.size;have cQ:Wk w cf:=bV.md.trans bv.md;have dr:=Wk.ao bv.md cu;refine aA 1 U<|bE<|ed<|ed<|ej<|bd 2 U<|e<|aZ (Ff s fj cf ag aP) U ?_;rintro v10 eE ⟨rfl,aY⟩;have bJ:=cQ.trans aY;have b9:=Wk.ao aY dr;have ca:=Wk.ao aY cz;have en:=aY.size;refine aA 2 U<|bE<|ej<|cb U (fun aO=> ?_) fun aO=> ?_;have aa:¬s.take 4=fj:=fun h=>by rw [show s.take fj.length=fj from h] at aO; simp at aO
 refine bd 2 U<|p (jJ (ps:= []) (L:= [.int .i64 0,.string ⟨⟨[]⟩⟩,.slice none 0 0,.slice none 0 0,.slice none 0 0,.slice none 0 0,.slice none 0 0]) Aa U<|U)<|e<|ka pW U U U U b9 aP fun eJ bR cG=>e<|fM sU U U (v:= .int .i64 200) U (bR.ao ca fun h=>by omega) aP fun dP bU cI=>aA 3 U<|prt ?_;have dc:dP.heap[C]? =some (.cells [cW .i64 0,str [],.slice none 0 0,.slice none 0 0,.slice none 0 0,.slice none 0 0,.slice none 0 0].toArray 56 (0,0)):=(bU.ao cG fun h=>by omega).trans rfl;exact EH (uA U (kP<|qY U U U fun j d4=>by rw [bS,dd dc]; simp)<|kP<|iq U U<|(dd cI).trans U)<|iy.no (DW aa)<|(bJ.trans' bR fun k E h=>by omega).trans' bU fun k E h=>by omega
 have aa:s.take 4=fj:=Classical.byContradiction fun h=>by rw [decide_eq_false (show ¬s.take fj.length=fj from h)] at aO; cases aO
 have cp:4≤s.length:=by have :=congrArg rW aa; rw [cm] at this; simp only [fj,bZ,nY] at this; omega
 refine lG 1 U<|bE<|ed<|jP FV #[.pointer (some ⟨C,0,none⟩),.pointer (some ⟨M,0,none⟩)] U aP ?_;refine ed<|ej<|bd 2 U<|p (jJ (ps:= [(0,str s),(1,.int .i64 4)]) (L:= [str s,.int .i64 4]) Ig U<|U)<|e<|xa U fun rb ad el a4 ct=> ?_;have eo:=a4.size;have cM:aC ad.heap rb [str s,.int .i64 ((4:Nat):Int)]:=⟨_,ct⟩
 have b4:eM w ad C M [cW .i64 0,str [],.slice none 0 0,.slice none 0 0,.slice none 0 0,.slice none 0 0,.slice none 0 0]:=⟨Wk.ao a4.md b9,Wk.ao a4.md ca,rfl,⟨ag,ag,ag⟩,bJ.trans a4.md⟩
 refine aA 2 U<|bE<|Ie (fun ck aW=> ∃ (n p1:Nat),(eM w aW C M [.int .i64 ((if n≤64 then n else 0:Nat):Int),str [],.slice none 0 0,.slice none 0 0,.slice none 0 0,.slice none 0 0,.slice none 0 0])∧(aC aW.heap rb [str s,.int .i64 (p1:Nat)])∧(Md (fun k=>k=rb∨k=C) ad aW)∧(bo s 4= .ok (n,p1))∧(p1≤s.length)∧(Sl ck [(0,str s),(2,.pointer (some ⟨C,0,none⟩)),(3,.pointer (some ⟨M,0,none⟩)),(4,.pointer (some ⟨rb,0,none⟩))])) ?_ ?_;refine ed<|ej<|bd 2 U ?_;refine eP U (dL mN (ni rb s (4) ad cM aD<|cp) U fun ew eF cU=> ?_) (fun c w' I σ' A=>by
  obtain ⟨e,he,rfl,V⟩:=I;exact jN U aP ((A 2<|.head _).trans U) ((A 3<|.tail _<|.head _).trans U) ((b4).rb V ag ag ag) (DX aa he))
 obtain ⟨n,p1,Z,rfl,bG,bq⟩:=cU;obtain ⟨dY,bz,d9⟩:=jt Z;have aT:=b4.rb bq ag ag ag;refine aA 2 U<|bE<|ed<|ej<|lG 4 U<|bE<|ej<|cd U (fun bx=> ?_) fun bx=> ?_;exact bd 2 U<|p (pU u3 vi U<|mc ag)<|ar 1 U<|e<|fM pV U U (v:= .int .i64 (n:Nat)) U aT.c2 aP fun eN a2 cJ=>aA 1 U<|xq<|⟨n,p1,(⟨by rw [if_pos ag]; exact cJ,a2.ao aT.c3 (fun h=>by omega),U,aT.lo,aT.wk.trans' a2 fun k E h=>by omega⟩),(a2.B bG fun h=>by omega),((bq.mono fun _ _ h=> .inl h).trans<|a2.mono fun _ _ h=> .inr h),Z,bz,U⟩
 exact lG 1 U<|xq<|⟨n,p1,(by rw [if_neg ag]; exact aT),bG,(bq.mono fun _ _ h=> .inl h),Z,bz,U⟩
 rintro ck aW ⟨n,p1,b8,cL,cP,Z,bz,dv⟩;refine HW dv ?_;refine ed<|ej<|bd 2 U ?_;refine eP U (dL sJ (tq rb s (p1) aW cL aD ag) U fun ex eH cV=> ?_) (fun c w' I σ' A=>by
  obtain ⟨e,he,rfl,V⟩:=I;exact jN U aP ((A 2<|.head _).trans U) ((A 3<|.tail _<|.head _).trans U) ((b8).rb V ag ag ag) (DY aa Z he))
 obtain ⟨t,p2,aB,rfl,cx,bN⟩:=cV;obtain ⟨dZ,d5,ea⟩:=oz aB;have a9:=b8.rb bN ag ag ag;refine ar 1 U<|e<|fM DM U U (v:=str t) U a9.c2 (by simp) fun cj a3 cK=> ?_;have b7:eM w cj C M [.int .i64 ((if n≤64 then n else 0:Nat):Int),str t,.slice none 0 0,.slice none 0 0,.slice none 0 0,.slice none 0 0,.slice none 0 0]:=⟨cK,a3.ao a9.c3 (fun h=>by omega),rfl,a9.lo,a9.wk.trans' a3 fun k E h=>by omega⟩
 have cN:=a3.B cx fun h=>by omega
 refine aA 1 U<|bE<|ed<|ej<|bd 2 U ?_;refine eP U (dL mN (ni rb s (p2) cj cN aD ag) U fun v28 dH cX=> ?_) (fun c w' I σ' A=>by
  obtain ⟨e,he,rfl,V⟩:=I;exact jN U aP ((A 2<|.head _).trans U) ((A 3<|.tail _<|.head _).trans U) ((b7).rb V ag ag ag) (DZ aa Z aB he))
 obtain ⟨m,p3,aN,rfl,cy,bO⟩:=cX;obtain ⟨d0,d6,eb⟩:=jt aN;have b5:=b7.rb bO ag ag ag;refine aA 2 U<|bE<|ed<|ej<|bd 4 U ?_;refine eP U (dL iD (iN _ _ _ dH) U fun ey eI cY=> ?_) (fun c w' I σ' A=>by
  obtain ⟨rfl,hb,rfl⟩:=I;exact jN U aP ((A 2<|.head _).trans U) ((A 3<|.tail _<|.head _).trans U) (b5) (D0 aa Z aB aN<|by have :=of_decide_eq_false hb; omega))
 obtain ⟨rfl,dA,rfl⟩:=cY;have bA:¬256 < m:=by have :=of_decide_eq_true dA; omega
 refine aA 1 U<|bE<|ed<|ed<|ej<|lG 4 U<|bE<|ej<|dD 1 U<|lp (fun aG cn am=> ∃ (k:Nat) (rs:List (List UInt8×List UInt8)) (O:ab) (q:Nat),(k≤m)∧(cr (gq s) k p3= .ok (rs,q))∧(q≤s.length)∧(dN am ad.heap.size 131 2 O rs.length<|rs.flatMap kO)∧(aC am.heap rb [str s,.int .i64 (q:Nat)])∧(eM w am C M [.int .i64 ((if n≤64 then n else 0:Nat):Int),str t,O,.slice none 0 0,.slice none 0 0,.slice none 0 0,.slice none 0 0])∧(Md (fun k=>k=rb∨k=C) ad am)∧(Sl cn [(0,str s),(2,.pointer (some ⟨C,0,none⟩)),(3,.pointer (some ⟨M,0,none⟩)),(4,.pointer (some ⟨rb,0,none⟩)),(33,.int .u64 (m:Nat)),(34,.int .u64 (k:Nat))])∧(m - k=aG)) _ ⟨0,[],.slice none 0 0,p3,ag,U,ag,(jD _ _ _ _),cy,b5,(((cP.trans<|bN.mono fun _ _ h=> .inl h).trans<|a3.mono fun _ _ h=> .inr h).trans<|bO.mono fun _ _ h=> .inl h),U,U⟩ ?_;rintro aG cn am ⟨k,rs,O,q,eg,ak,ei,an,bI,aS,bn,dx,rfl⟩;refine dw dx<|dD 6 U<|cd U (fun da=> ?_) fun da=> ?_;refine aM 7 U ?_;refine eP U (dL sJ (tq rb s (q) am bI aD ag) U fun v37 al cZ=> ?_) (fun c w' I σ' A=>by
  obtain ⟨e,he,rfl,V⟩:=I;exact jN U aP ((A 2<|.head _).trans U) ((A 3<|.tail _<|.head _).trans U) ((aS).rb V ag ag ag) (xC aa Z aB aN bA<|lL ak (Hg he) ag))
 obtain ⟨f,bD,bw,rfl,cC,a1⟩:=cZ;obtain ⟨d1,d7,ec⟩:=oz bw;have aU:=aS.rb a1 ag ag ag;have dl:=cR an a1 fun k E h=>by have :=dF an E; omega
 have er:=a1.size;have ev:=bn.size;have aq:∀ k,O.ownBlock=some k→ad.heap.size≤k:=fun k h=>(dF an h).1;refine aQ 3 U ?_;have a6:(fun w'=>Md (fun k=>k=rb∨O.ownBlock=some k) al w') al.drew:=(Md.refl _ _).drew;refine qB (fun w'=>Md (fun k=>k=rb∨O.ownBlock=some k) al w') 9 U wide a6<|lH [0] U a6<|yO 1 U ai (fun w' c6=>aH U<|Md.ay c6 ((dd aU.c2).trans U) fun h=>by rcases h with h | h; omega; have :=aq _ h; omega) a6<|lH [2,3] U a6 ?_;refine FQ 4 U ai U (dL sJ (tq rb s bD al.drew cC aD ag) U fun ez ch c0=> ?_) (fun c w' I σ' A=>by
  obtain ⟨e,he,rfl,V⟩:=I;exact jN U aP ((A 2<|.head _).trans U) ((A 3<|.tail _<|.head _).trans U) (aU.rb (Md.mU V) ag ag ag) (xC aa Z aB aN bA<|lL ak (Hh bw he) ag))
 obtain ⟨t2,dG,b1,rfl,cD,aK⟩:=c0;obtain ⟨d2,d8,ef⟩:=oz b1;have aK:=Md.mU aK;have bY:Md (fun k=>k=rb∨O.ownBlock=some k) al ch:=aK.mono fun _ _ h=> .inl h;have et:=aK.size;have bW:(fun w'=>Md (fun k=>k=rb∨O.ownBlock=some k) al w') ch:=bY;refine ⟨bW,?_⟩;refine oK 5 U ai (fun _=>jJ (ps:= [(0,str f),(1,str t2)]) (L:= [str f,str t2]) Ih U<|U) (fun _=>bW)<|qy 6 U ai<|sE z7 U U U fun dQ dK dW a5 cE=> ?_;have eu:=a5.size;have b0:=bY.trans<|a5.md.mono fun _ _ h=>h.elim;have dm:=dk (cR dl aK fun k E h=>by have :=dF an E; omega) a5.md;have c7:(fun w'=>Md (fun k=>k=rb∨O.ownBlock=some k) al w') dK:=b0;refine ⟨c7,?_⟩;refine qy 7 U ai<|ap z7 (dm) U ag U (bh.j3 cE) (U) (U) (by have :=ji ak; omega) (by have :=ji ak; omega) fun eA dM b3 bt dC dg=> ?_;obtain ⟨bi,bl,rfl⟩:=iP b3;have aL:=b0.trans<|bt.mono fun _ _ h=> .inr h;have dC:=bt.size;have di:¬(C=rb∨O.ownBlock=some C):=fun h=>by rcases h with h | h; omega; have :=aq _ h; omega
 have dj:¬(M=rb∨O.ownBlock=some M):=fun h=>by rcases h with h | h; omega; have :=aq _ h; omega
 have db:=aL.ao aU.c2 di;have cF:=bt.B (Wk.B a5.md cD) fun h=>by have :=aq _ h; omega
 have bX:(fun w'=>Md (fun k=>k=rb∨O.ownBlock=some k) al w') dM:=aL;refine ⟨bX,?_⟩;refine lH [8] U bX<|oI 9 U ai ai<|fM DI U U (v:= .slice bi (rs.length+1) bl) U db (by simp) fun ce aI cq=> ?_;have dn:eM w ce C M [.int .i64 ((if n≤64 then n else 0:Nat):Int),str t,.slice bi (rs.length+1) bl,.slice none 0 0,.slice none 0 0,.slice none 0 0,.slice none 0 0]:=⟨cq,aI.ao (aL.ao aU.c3 dj) (fun h=>by omega),rfl,aS.lo,(aU.wk.trans' aL fun k E h=>by rcases h with h | h; omega; have :=aq _ h; omega).trans' aI fun k E h=>by omega⟩
 have cs:=aI.B cF fun h=>by omega
 have cO:Md (fun k=>k=rb∨k=C) ad ce:=((bn.trans<|a1.mono fun _ _ h=> .inl h).trans' aL fun k E h=>by rcases h with h | h; exact .inl h; have :=aq _ h; omega).trans<|aI.mono fun _ _ h=> .inr h;exact oJ ai<|cg 6 U<|tn<|⟨_,ag,k+1,rs++ [(f,t2)],.slice bi (rs.length+1) bl,dG,ag,(qs ak<|Hi bw b1),ag,(by rw [bK,List.flatMap_append]; exact cR b3 aI fun k E h=>by rcases dg k E with bF | bF; exact absurd (aq k bF) ag; omega),cs,dn,cO,U,U⟩
 refine bg 2 U<|te _<|cg 1 U<|bE<|ed<|ej ?_;obtain ⟨ac,rc,rfl⟩:=iP an;obtain rfl :k=m:=ag;obtain ⟨bb,ds⟩:∃ bb,bb=q:=⟨q,rfl⟩
 subst ds;have a7:=D3 aa Z aB aN bA ak;have eh:=ji ak;have du:∀ r∈rs,r.1.length≤1048576∧r.2.length≤1048576:=fun r hr=>by
  have :=(oG (R:=fun _=>True) (S:=fun r:List UInt8×List UInt8=>r.1.length≤255∧r.2.length≤255) (fun p x q' _ dz=>⟨trivial,(Hj dz).2.2⟩) trivial ak).2 r hr;omega
 refine bd 2 U<|p (jZ oe U (U) (show ∀ j,j < 7→ay am.heap C (0 +j)=([.int .i64 ((if n≤64 then n else 0:Nat):Int),str t,.slice ac rs.length rc,.slice none 0 0,.slice none 0 0,.slice none 0 0,.slice none 0 0]:List ab)[j]? from fun j _=>by rw [bS,dd aS.c2]; simp))<|e<|aZ (HT (if n≤64 then n else 0) t rs ac rc (.slice none 0 0) (.slice none 0 0) (.slice none 0 0) (.slice none 0 0) am (fk an).2 (by split <;> omega) ag ag du) U ?_;rintro eB dO ⟨rfl,a0⟩;have b6:=aS.Jr a0;refine eP U (dL iD (iN _ _ _ dO) U fun v51 eK c1=> ?_) (fun c w' I σ' A=>by
  obtain ⟨rfl,hb,rfl⟩:=I;exact jN U aP ((A 2<|.head _).trans U) ((A 3<|.tail _<|.head _).trans U) (b6) (by rw [a7,DS hb]))
 obtain ⟨rfl,bB,rfl⟩:=c1;refine aA 1 U<|bE<|ed<|ed<|ej<|lG 3 U<|bE<|ej<|dD 1 U<|lp (fun aG co aj=> ∃ (J:Nat) (ls:List (List bH)) (vs:List ab) (aE:Nat),(J≤4)∧(cr (dS s) J bb= .ok (ls,aE))∧(aE≤s.length)∧(vs.length=4)∧(aC aj.heap rb [str s,.int .i64 (aE:Nat)])∧(eM w aj C M<|[.int .i64 ((if n≤64 then n else 0:Nat):Int),str t,.slice ac rs.length rc]++vs)∧(∀ i,i < J→eZ aj (rb+1) (vs.getD i .nilFunc) (ls.getD i []))∧(Md (fun k=>k=rb∨k=C) ad aj)∧(dN aj ad.heap.size 131 2 (.slice ac rs.length rc) rs.length<|rs.flatMap kO)∧(Sl co [(0,str s),(2,.pointer (some ⟨C,0,none⟩)),(3,.pointer (some ⟨M,0,none⟩)),(4,.pointer (some ⟨rb,0,none⟩)),(52,.int .i64 (J:Nat))])∧(4 - J=aG)) _ ⟨0,[],[.slice none 0 0,.slice none 0 0,.slice none 0 0,.slice none 0 0],bb,ag,U,ag,U,(Wk.B a0 bI),b6,(fun i hi=>by omega),(bn.trans<|a0.mono fun _ _ h=>h.elim),(dk an a0),U,U⟩ ?_;rintro aG co aj ⟨J,ls,vs,aE,ee,aR,ek,aV,bm,ae,bp,cS,a8,dy,rfl⟩;refine dw dy<|dD 6 U<|cd U (fun de=> ?_) fun de=> ?_;refine aM 13 U ?_;refine eP U (dL C4 (HI rb s aE aj bm aD ag) U fun eC eL c4=> ?_) (fun c w' I σ' A=>by
  obtain ⟨e,he,rfl,V⟩:=I;exact jN U aP ((A 2<|.head _).trans U) ((A 3<|.tail _<|.head _).trans U) (ae.rb V ag ag ag) (by rw [a7,DT bB (lL aR he (show J < 4 by omega))]))
 obtain ⟨au,bD,b2,bM,cH,bT⟩:=c4;obtain ⟨aF,cc,rfl,dX,dT⟩:=bM.rf;have ba:=ae.rb bT ag ag ag;have d3:=HF b2;refine ar 1 U<|p (qn CM U U ag)<|e<|fM DJ U U (v:= .slice aF au.length cc) U ba.c2 (by simp only [bK,bZ,nY,aV]; omega) fun bc aJ cv=> ?_;have dh:=ji aR;have bx:bc.heap[C]? =some (.cells ([.int .i64 ((if n≤64 then n else 0:Nat):Int),str t,.slice ac rs.length rc]++vs.set J (.slice aF au.length cc)).toArray 56 (0,0)):=by rw [← HK]; exact cv
 have dp:eM w bc C M ([.int .i64 ((if n≤64 then n else 0:Nat):Int),str t,.slice ac rs.length rc]++vs.set J (.slice aF au.length cc)):=⟨bx,aJ.ao ba.c3 (fun h=>by omega),by simp [aV],ba.lo,ba.wk.trans' aJ fun k E h=>by omega⟩
 have cw:=aJ.B cH fun h=>by omega
 have em:=bm.lt;have bu:Md (fun k=>k=rb∨k=C) aj bc:=(bT.mono fun _ _ h=> .inl h).trans<|aJ.mono fun _ _ h=> .inr h;have cT:∀ i,i < J+1→eZ bc (rb+1) ((vs.set J<|.slice aF au.length cc).getD i .nilFunc) ((ls++ [au]).getD i []):=fun i hi=>by
  rcases Nat.lt_or_ge i J with h | h;rw [E9 ag,E7 ag];exact (bp i h).md bu fun k E hb=>absurd hb ag;obtain rfl :i=J:=ag;rw [E8 ag,E6 dh.symm];exact (bM.mono ag).md aJ fun k E hb=>absurd hb ag
 exact aA 7 U<|tn<|⟨_,ag,J+1,ls++ [au],vs.set J (.slice aF au.length cc),bD,ag,(qs aR b2),ag,(by rw [List.length_set]; exact aV),cw,dp,cT,(cS.trans bu),(cR a8 bu fun k E h=>by have :=(dF a8 E).1; omega),U,U⟩
 refine bg 2 U<|te _<|cg 1 U<|bE<|ed<|ej ?_;obtain rfl :J=4:=ag;obtain ⟨av,aw,ax,az,rfl⟩:∃ av aw ax az,vs= [av,aw,ax,az]:=by
  match vs,aV with
  | [av,aw,ax,az],_=>exact ⟨_,_,_,_,rfl⟩
 have aX:∀ i,i < 4→([av,aw,ax,az].getD i .nilFunc).oneCell'=true :=fun i hi=>by
  obtain ⟨_,_,e,_⟩:=(bp i hi).rf;rw [e]; rfl
 have dq:([.int .i64 ((if n≤64 then n else 0:Nat):Int),str t,.slice ac rs.length rc,av,aw,ax,az]:List ab).all jC=true :=by
  have g0:=aX 0 ag;have g1:=aX 1 ag;have g2:=aX 2 ag;have g3:=aX 3 ag;simp only [rT,BL] at g0 g1 g2 g3;simp only [rQ,BC,g0,g1,g2,g3]; rfl
 refine bd 5 U<|p (aH U<|bm.bj 1)<|ar 3 U ?_;refine eP U (dL iD (iN _ _ _ aj) U fun eD ci c5=> ?_) (fun c w' I σ' A=>by
  obtain ⟨rfl,hb,rfl⟩:=I;exact jN U aP ((A 2<|.head _).trans U) ((A 3<|.tail _<|.head _).trans U) (ae) (by rw [a7,DU bB aR (fun h=>of_decide_eq_false hb<|by rw [h])]))
 obtain ⟨rfl,dB,rfl⟩:=c5;have dt:aE=s.length:=by have :=of_decide_eq_true dB; omega
 refine aA 1 U<|bE<|ed<|ej<|bd 1 U<|p (jZ oe U (U) (show ∀ j,j < 7→ay ci.heap C (0 +j)=([.int .i64 ((if n≤64 then n else 0:Nat):Int),str t,.slice ac rs.length rc,av,aw,ax,az]:List ab)[j]? from fun j _=>by rw [bS,dd ae.c2]; simp))<|e<|ka pW U U U dq ae.c2 (by rw [ae.len]; decide) fun dI bP cA=> ?_;have c9:dI.heap[C]? =some (.cells ([.int .i64 ((if n≤64 then n else 0:Nat):Int),str t,.slice ac rs.length rc]++ [av,aw,ax,az]).toArray 56 (0,0)):=cA.trans<|by rw [BE (by rw [ae.len]; decide),vW,List.nil_append,List.append_nil]; rfl
 refine e<|fM sU U U (v:= .int .i64 0) U (bP.ao ae.c3 fun h=>by omega) aP fun dJ bQ cB=>aA 1 U<|bE<|zE ?_;exact D6 U aP U U (bQ.ao c9 fun h=>by omega) cB U (fun w' hm=>by
  unfold iy;rw [a7,DV bB aR dt];have br:Md (fun k=>k=C∨k=M) ci dJ:=(bP.mono fun _ _ h=> .inl h).trans<|bQ.mono fun _ _ h=> .inr h;refine ⟨⟨_,U,ac,rc,_,U,aV,(fk<|dk (cR a8 br fun k E h=>by have :=(dF a8 E).1; omega) hm).2,fun i hi=>(((bp i hi).md br fun k E hb=>absurd hb ag).wk hm).mono ag⟩,(ae.wk.trans' br fun k E h=>by omega).trans hm⟩)
theorem oF {α:Type} {f:Nat→Except Nat (α×Nat)} (C:∀ a e,f a= .error e→e≠0):∀ {k a e:Nat},cr f k a= .error e→e≠0
 | 0,a,e,h=>by cases h
 | k+1,a,e,h=>by
   rw [cr] at h;split at h
   · rename_i E A;cases h;exact oF C A
   · split at h
     · rename_i E A;cases h;exact C _ _ A
     · cases h
theorem nA {s:List UInt8} {a e:Nat} (h:bo s a= .error e):e≠0:=by rcases zF h with h | h <;> omega
theorem tl {s:List UInt8} {a e:Nat} (h:cZ s a= .error e):e≠0:=by
 unfold cZ at h;split at h
 · rename_i A; cases h; exact nA A
 · repeat' split at h
   all_goals first | (cases h; decide) | cases h
theorem Hk {s:List UInt8} {a e:Nat} (h:gq s a= .error e):e≠0:=by
 unfold gq at h;split at h
 · rename_i A; cases h; exact tl A
 · split at h
   · rename_i A; cases h; exact tl A
   · cases h
theorem Ep {s:List UInt8} {n a e:Nat} (h:eQ s n a= .error e):e≠0:=by
 unfold eQ at h;split at h
 · cases h; decide
 · split at h
   · rename_i A; cases h; exact nA A
   · split at h
     · cases h; decide
     · cases h
theorem Iv {s:List UInt8} {n a e:Nat} (h:eV s n a= .error e):e≠0:=by
 unfold eV at h;split at h
 · rename_i A; cases h; exact nA A
 · split at h
   · cases h; decide
   · split at h
     · rename_i A; cases h; exact oF (fun _ _=>Ep) A
     · cases h
theorem HG {s:List UInt8} {a e:Nat} (h:dS s a= .error e):e≠0:=by
 unfold dS at h;split at h
 · rename_i A; cases h; exact nA A
 · split at h
   · cases h; decide
   · split at h
     · rename_i A; cases h; exact oF (fun _ _=>Iv) A
     · split at h
       · cases h
       · cases h; decide
theorem D4 {s:List UInt8} {e:Nat} (h:du s= .error e):e≠0:=by
 unfold du at h;split at h
 · split at h
   · rename_i A; cases h; exact nA A
   · split at h
     · rename_i A; cases h; exact tl A
     · split at h
       · rename_i A; cases h; exact nA A
       · split at h
         · cases h; decide
         · split at h
           · rename_i A; cases h; exact oF (fun _ _=>Hk) A
           · generalize (if _≤64 then _ else 0)=n0 at h;unfold iE at h;split at h
             · split at h
               · rename_i A; cases h; exact oF (fun _ _=>HG) A
               · split at h
                 · cases h
                 · cases h; decide
             · cases h; decide
 · cases h; decide
theorem iy.form {s:List UInt8} {w w':ah} {v:ab} (h:iy s w v w'):∃ L M x2 O V Z aa e,v= .tuple #[.agg [L,M,x2,O,V,Z,aa].toArray,.int .i64 ((e:Nat):Int)]∧[L,M,x2,O,V,Z,aa].all jC=true∧Wk w w'∧
 ((e≠0∧du s= .error e)∨(e=0∧∃ b,du s= .ok b∧mF w' w.heap.size [L,M,x2,O,V,Z,aa] b)):=by
 obtain ⟨h,ac⟩:=h;cases hX:du s with
 | error e=>
   rw [hX] at h;exact ⟨_,_,_,_,_,_,_,e,h,U,ac,.inl ⟨D4 hX,U⟩⟩
 | ok b=>
   rw [hX] at h;obtain ⟨cs,ae,hb⟩:=h;obtain ⟨ak,rc,vs,rfl,ai,aj,ad⟩:=id hb;obtain ⟨C,E,I,J,rfl⟩:∃ C E I J,vs= [C,E,I,J]:=by
    match vs,ai with
    | [C,E,I,J],_=>exact ⟨_,_,_,_,rfl⟩
   have A:∀ i,i < 4→([C,E,I,J].getD i .nilFunc).oneCell'=true :=fun i hi=>by
    obtain ⟨_,_,e,_⟩:=(ad i hi).rf;rw [e]; rfl
   have g0:=A 0 ag;have g1:=A 1 ag;have g2:=A 2 ag;have g3:=A 3 ag;simp only [rT,BL] at g0 g1 g2 g3;exact ⟨_,_,_,_,_,_,_,0,ae,by simp only [rQ,BC,g0,g1,g2,g3]; rfl,ac,.inr ⟨U,b,U,hb⟩⟩
def Co (w:ah) (B cb:Nat) (b:oa) (A:List UInt8):Prop := ∃ cs,aC w.heap cb (cs++ [str A])∧mF w B cs b∧B≤cb
def Cq (s:List UInt8) (w:ah) (v:ab) (w':ah):Prop :=(match du s with
 | .ok b=> ∃ cb,v= .tuple #[.pointer (some ⟨cb,0,none⟩),.nilIface]∧Co w' w.heap.size cb b s
 | .error e=>v= .tuple #[.pointer none,.iface 34 (.int .i64 ((e:Nat):Int))])∧Wk w w'
theorem F5 (s:List UInt8) (w:ah) (ax:s.length≤1048576):
 bf prog 7 (bC [str s]) w (Cq s w):=by
 refine enter func7 U ntmps7 U<|bd 8 U<|p mv<|e<|aZ (D7 s w ax) U fun aK az ap=> ?_;obtain ⟨A,C,x2,E,I,J,M,ae,rfl,aw,Z,V⟩:=iy.form ap;have aJ:=Z.size;refine p mv<|ar 2 U<|e<|iA AU fun ad aN aD ai al=> ?_;have aH:=ai.size;refine e<|ka pW U U U aw al aP fun ac ao am=> ?_;have an:aC ac.heap ad [A,C,x2,E,I,J,M]:=⟨_,am⟩
 have O:Wk az ac:=ai.md.trans' ao fun k aF h=>by omega
 have aI:=O.size;refine aQ 10 U<|cd U (fun av=> ?_) fun av=> ?_;have V:ae≠0∧du s= .error ae:=V.resolve_right fun h=>by omega
 refine aM 3 U<|p (ua qH U)<|aA 6 U<|f2 U U U ?_;refine ⟨?_,Z.trans O⟩;rw [V.2];exact U;obtain ⟨aE,b,aq,au⟩:=V.resolve_left fun h=>by omega
 refine aM 4 U<|p (jZ oe U (U) (show ∀ j,j < 7→ay ac.heap ad (0 +j)=([A,C,x2,E,I,J,M]:List ab)[j]? from fun j _=>an.bj j))<|p mv<|p (CW (ps:= [(0,.agg [A,C,x2,E,I,J,M].toArray),(1,str s)]) (L:= [A,C,x2,E,I,J,M,str s]) Im U<|by simp [Instr.fill,Value.cells,str])<|e<|xa (L:= [A,C,x2,E,I,J,M,str s]) U fun aj aL aB aa ak=> ?_;have aG:=aa.size;refine aA 5 U<|f2 U U U ?_;refine ⟨?_,(Z.trans O).trans aa.md⟩;rw [aq];exact ⟨aj,U,_,⟨_,ak⟩,au.wk (O.trans aa.md),ag⟩
end Go.Hb
end
section
namespace Go.Hb.wo
open Go.Hb.fD
open Go.Proofs
open Go.Hb.ln Go.Hb.pN Go.Hb.mK Go.Hb.sm Go.Hb.wj Go.Hb.sj
theorem iz.xm {B M bs n:Nat} {J:ab} {aa:Addr} {g:List UInt8→Option Int} {C gz:List (List UInt8→Option Int)} {cs:List ab} {O:Int} {l:List (List UInt8)} {w w':ah} {v:ab} (h:iz B M bs J aa g C O l w v w') (ad:bP w B M bs J aa g n C cs) (Z:gE C gz g) (hw:O=1∨O= -1):
 ∃ L A ac E V I,bP w' B M bs L aa A ac E V∧gE E I A∧((I=gz∧A=g∧E=C)∨(I=gz++ [A]∧A≠g∧E.length=C.length+1))∧Md (fY M bs J) w w'∧(∀ k,L.ownBlock=some k→J.ownBlock=some k∨w.heap.size≤k):=by
 have ak:O≠0:=ag;have same:Wk w w'→∃ L A ac E V I,bP w' B M bs L aa A ac E V∧gE E I A∧((I=gz∧A=g∧E=C)∨(I=gz++ [A]∧A≠g∧E.length=C.length+1))∧Md (fY M bs J) w w'∧(∀ k,L.ownBlock=some k→J.ownBlock=some k∨w.heap.size≤k):=fun hm=>
  ⟨J,g,n,C,cs,gz,ad.wk hm,Z,.inl ⟨rfl,rfl,rfl⟩,hm.mono (fun _ _ h=>h.elim),fun k h=> .inl h⟩
 rcases h with ⟨_,_,hm⟩ | ⟨aj,m,am,h⟩
 · exact same hm
 · rcases h with ⟨_,_,hm⟩ | ⟨ae,_,h⟩
   · exact same hm
   · rcases h with ⟨_,hm⟩ | ⟨L,V,⟨x,o,al⟩,hO',hM,hf⟩
     · exact same hm
     · have ai:ff g:=by
        have :=(Z.ok C.length<|by rw [Z.len]; omega).1;rwa [Z.last] at this
       exact ⟨L,_,m,_,V,gz++ [dz O (bU O g l) g],hO',Z.add (ai.put hw aj) hO'.fG ae (sA ad.nz),.inr ⟨U,Dm ak al,by rw [bK,gY]⟩,hM,hf⟩
theorem bP.IM {w w':ah} {B B' J bs n m:Nat} {Z v:ab} {L:Addr} {g:List UInt8→Option Int} {V:List (List UInt8→Option Int)} {cs:List ab} {x:List UInt8} {xs:List (List UInt8)} (h:bP w B J bs Z L g n V cs) (ai:dN w B' 9 1 v m ((x::xs).map str)) (hm:Md (fun k=>v.ownBlock=some k) w w'):bP w' B J bs Z L g n V cs:=by
 have key:∀ k,v.ownBlock=some k→∃ cur z,w.heap[k]? =some (.cells cur 9 z)∧cur[0]? =some (str x):=fun k C=>by
  rcases ai.2 with ⟨rfl,_⟩ | ⟨g0,cap,cur,rfl,_,ag,_,_,_,aj⟩
  · simp [cG] at C
  · simp only [cG,aY] at C;subst C;refine ⟨cur,_,ag,?_⟩;have h0:(cur.toList.take<|m*1)[0]? =some (str x):=by rw [aj]; rfl
    rw [List.getElem?_take] at h0;split at h0
    · simpa using h0
    · cases h0
 have I:∀ {k:Nat} {u:ab} {us:List ab},aC w.heap k (u::us)→u≠str x→¬v.ownBlock=some k:=fun {k u us} hb hu C=>by
  obtain ⟨cur,z,A,E⟩:=key k C;obtain ⟨e,he⟩:=hb;rw [he] at A;simp only [aY,Obj.cells.injEq] at A;rw [← A.1] at E;simp only [List.getElem?_toArray,List.getElem?_cons_zero,aY] at E;exact hu E
 have nm:∀ {k:Nat} {f:ab→Option ab},bD w.heap k cn f→¬v.ownBlock=some k:=fun {k f} hb C=>by
  obtain ⟨cur,z,A,_⟩:=key k C;exact hb.eo A
 exact ⟨hm.B h.obj (I h.obj<|by intro h; cases h),h.dm.md hm (nm h.dm),h.fG,h.nB,h.nz,h.lo,cR h.back hm (fun k C ak=>by
  obtain ⟨cur,z,A,_⟩:=key k ak;exact uo h.back aP k C _ _ A),h.kb,h.bk.imp fun v q ⟨am,al,an,A,E,aa,ac,ad,ae,M,O,U⟩=>⟨am,al,an,A,E,aa,ac,ad,ae,hm.B M (I M<|by intro h; cases h),hm.B O (I O<|by intro h; cases h),U.md hm<|nm U⟩⟩
theorem bP.IN {w w':ah} {B B' A bs n m:Nat} {I v:ab} {C:Addr} {g:List UInt8→Option Int} {E:List (List UInt8→Option Int)} {cs:List ab} {l:List (List UInt8)} (h:bP w B A bs I C g n E cs) (L:dN w B' 9 1 v m (l.map str)) (J:l≠[]) (hm:Md (fun k=>v.ownBlock=some k) w w'):bP w' B A bs I C g n E cs:=by
 cases l with
 | nil=>exact absurd rfl J
 | cons x xs=>exact bP.IM h L hm
theorem GQ {w:ah} {B b:Nat} {x:List UInt8} (hb:w.heap[b]? =some (.cells [str x].toArray 9 (0,0))) (A:B≤b):dN w B 9 1 (.slice (some ⟨b,0,none⟩) 1 1) ([x]).length (([x]).map str):=
 ⟨rfl,.inr ⟨b,1,_,rfl,A,hb,Nat.le_refl _,by unfold maxLen; omega,rfl,rfl⟩⟩
theorem om {A gz:List (List UInt8→Option Int)} {g:List UInt8→Option Int} (h:gE A gz g):ff g∧∃ m,bT g m∧m≤500:=by
 have :=h.ok A.length<|by rw [h.len]; omega
 rwa [h.last] at this
theorem Gq (o:Option Addr) (w:ah):bf prog 8 #[.pointer o] w (fun v w'=>(o=none∧v= .pointer none∧Wk w w')∨∃ C A bs,o=some C∧v= .pointer (some ⟨A,0,none⟩)∧w.heap.size≤A∧w.heap.size≤bs∧bP w' w.heap.size A bs (.slice none 0 0) C (fun _=>none) 0 [] []∧Wk w w'):=by
 cases o with
 | none=>exact (Gr w).mono fun v w' ⟨I,E⟩=> .inl ⟨rfl,I,E⟩
 | some C=>
   refine (za C w).mono fun v w' ⟨A,bs,I,E,J,V,L,M,O⟩=> .inr ⟨C,A,bs,U,I,E,J,?_,O⟩;exact ⟨L,M,⟨[],List.nodup_nil,U,fun k=>⟨fun ⟨v,h⟩=>(by rw [oL] at h; cases h),fun h=>by simp at h⟩⟩,ag,fun x h=>(by cases h),⟨E,J⟩,jD _ _ _ _,(fun h=>by simp [cG] at h),trivial⟩
theorem dc.Gs {α β:Type} {R:α→β→Prop} :∀ {l:List α},dc R l ([]:List β)→l= []
 | [],_=>rfl
 | _::_,h=>h.elim
theorem IH {α:Type} {l:List α} {k:Nat} {d:α} (h:k < l.length):l.take (k+1)=l.take k++ [l.getD k d]:=by
 rw [List.take_add_one,bW h,cH,bW h]; rfl
theorem I0 {B E bs n k:Nat} {I:ab} {L:Addr} {C gz:List (List UInt8→Option Int)} {Z:List UInt8→Option Int} {cs:List ab} (w:ah) (V:gE C gz Z) (A:bP w B E bs I L (gz.getD k dG) n (C.take k) cs) (ak:k≤C.length) (aj:C.length≤1048576):
 bf prog 13 #[.pointer (some ⟨E,0,none⟩)] w (fun v w'=>v= .bool (decide (0 < k))∧∃ M O ai,bP w' B E bs M L (gz.getD (k - 1) dG) ai (C.take<|k - 1) O∧Md (fY E bs I) w w'∧(∀ j,M.ownBlock=some j→I.ownBlock=some j)):=by
 cases k with
 | zero=>
   rw [vW] at A;obtain rfl :=dc.Gs A.bk;refine (IZ B E bs I L _ n w A).mono fun v w' ⟨U,J⟩=>⟨U,I,[],n,?_,J.mono (fun _ _ h=>h.elim),fun j h=>h⟩
   rw [vW]; exact A.wk J
 | succ k=>
   rw [IH (d:=dG) ag] at A;have hb:=V.back k ag;obtain ⟨_,m,hm,ad⟩:=V.ok k<|by rw [V.len]; omega
   have ae:=dc.len A.bk;simp only [bK,cm,gY] at ae;refine (Az B E bs I L _ (C.getD k dG) n m (C.take k) cs w A (by rw [hb]; exact hm) ad ag).mono fun v w' ⟨U,M,O,J,aa,ac⟩=>⟨U.trans (by simp),M,O,m,?_,aa,ac⟩
   rw [hb] at J;exact J
theorem yX {gz:List (List UInt8→Option Int)} {k:Nat} (h:k < gz.length):(gz.map cx).getD k []=cx (gz.getD k dG):=by
 rw [cH,List.getElem?_map,cH,bW h]; rfl
set_option maxHeartbeats 2000000 in
theorem CQ (s:List UInt8) (ops:List jI) (a:Option Addr) (cap:Nat) (w:ah) (cu:cz 482 lU w) (cN:s.length≤1048576) (bA:oc w.heap a ops) (bD:(ops.map il).sum≤1048576):
 bf prog 3 (bC [str s,.slice a ops.length cap]) w (fun v w'=>v= .bool true∧Wk w w'):=by
 have dB:=GD ops;refine enter func3 U ntmps3 U<|bd 8 U<|e<|aZ (Jl w cu) U ?_;rintro dX c6 ⟨rfl,b7⟩;refine aQ 3 U<|cf (U)<|aM 4 U<|p mv<|e<|aZ (F5 s c6 cN) U ?_;rintro c4 C ⟨aR,b8⟩;obtain ⟨o,dV,rfl⟩:∃ o u,c4= .tuple #[.pointer o,u]:=by
  cases hX:du s with
  | ok b=>rw [hX] at aR; obtain ⟨cb,h,_⟩:=aR; exact ⟨_,_,h⟩
  | error e=>rw [hX] at aR; exact ⟨_,_,aR⟩
 clear aR;have aV:=b7.trans b8;refine p mv<|ar 2 U<|p aE<|p aE<|ar 4 U<|p mv<|e<|aZ (Gq o C) U fun v21 c7 bz=>p aE<|ar 5 U<|p mv<|p (gL rk U U)<|ar 1 U<|gb (t:=24) U (fun a1=> ?_) fun a1=> ?_;obtain rfl :o=none:=by cases o; rfl; cases a1
 obtain ⟨_,rfl,aX⟩:(none:Option Addr)=none∧v21= .pointer none∧Wk C c7:=bz.resolve_right fun ⟨_,_,_,h,_⟩=>by cases h
 refine ar 8 U<|p mv<|p (gL rk U U)<|ar 1 U<|gb (t:=30) U (fun dq=> ?_) fun h=>absurd ((U).symm.trans h) Bool.noConfusion;exact cS U mv<|cS U (gL jv U U)<|aA 6 U<|aW U<|⟨U,aV.trans aX⟩
 obtain ⟨V,A,bs,rfl,rfl,dS,dT,bb,aX⟩:=bz.resolve_left fun ⟨h,_⟩=>by rw [h] at a1; cases a1
 have dK:=aX.size;refine cS U mv<|cS U (gL jv U U)<|aQ 3 U<|cf (U)<|aM 4 U<|e<|wV (L:= [str []]) kQ U U U U fun b0 d8 di a9 b5=> ?_;have dL:=a9.size;have cX:=GQ (B:=C.heap.size) b5 ag;refine ar 6 U<|p mv<|aQ 5 U<|lp (fun aF bT aU=> ∃ (i:Nat) (g:List UInt8→Option Int) (gz aa:List (List UInt8→Option Int)) (cs:List ab) (I a3:ab) (n:Nat),(i≤ops.length)∧(bP aU C.heap.size A bs I V g n aa cs)∧(gE aa gz g)∧(aa.length≤i)∧(Wk C aU)∧(dN aU C.heap.size 9 1 (a3) ((gz).map cx).length<|((gz).map cx).map str)∧(∀ k,((a3):ab).ownBlock=some k→k≠A∧k≠bs∧¬((I):ab).ownBlock=some k)∧(Sl bT [(5,.pointer (some V)),(7,aJ A),(8,a3),(35,.slice a ops.length cap),(36,dj (ops.length)),(37,dj i)])∧(ops.length - i=aF)) _ ⟨0,(fun _=>none),[fun _=>none],[],[],.slice none 0 0,.slice (some ⟨b0,0,none⟩) 1 1,0,ag,(bb.wk a9.md),gE.start,(by simp),(aX.trans a9.md),(by rw [show [(fun _=>none:List UInt8→Option Int)].map cx= [[]] from congrArg (fun x=> [x]) Au]; exact cX),(fun k J=>by simp only [cG,aY] at J; have Z:=bb.obj.lt; have M:=bb.dm.lt; exact ⟨ag,ag,fun h=>by simp [cG] at h⟩),U,U⟩ ?_;rintro aF bT aU ⟨i,g,gz,aa,cs,I,a3,n,hi,E,am,dv,ax,ae,av,cO,rfl⟩;refine dw cO ?_;obtain ⟨aj,ak,rfl⟩:=iP ae;have dp:=dc.len E.bk;have dt:=am.len;have bo:(gz.map cx).length=gz.length:=List.length_map ..;refine dD 6 U<|cd U (fun cv=> ?_) fun cv=> ?_;refine dY 5 U ?_;obtain ⟨bq,br,b4,bB⟩:=(bA.wk<|aV.trans ax).st i ag;have bI:=GC (ops:=ops) (i:=i) ag;refine aM 1 U<|p (jh Ex U U ag<|(bA.wk<|aV.trans ax).ok ag)<|p (jZ CC U (U)<|b4)<|e<|iA JO fun bZ d7 dh cm a5=>e<|ka DG U U U U a5 (by simp) fun a4 cj a5=> ?_;have a6:aC a4.heap bZ [cW .i64 (ops.getD i dW).1,.slice bq (ops.getD i dW).2.1.length br,str (ops.getD i dW).2.2]:=⟨_,a5⟩
 have aw:Wk aU a4:=Md.trans' cm.md cj fun k J h=>by omega
 have dI:=aw.size;refine aQ 2 U ?_;refine o3 (fun bU aT=> ∃ (g2:List UInt8→Option Int) (aq ac:List (List UInt8→Option Int)) (an:List ab) (O:ab) (ao:Nat),(bP aT C.heap.size A bs O V g2 ao ac an)∧(gE ac aq g2)∧((aq=gz∧g2=g∧ac=aa)∨(aq=gz++ [g2]∧g2≠g∧ac.length=aa.length+1))∧(Wk C aT)∧(dN aT C.heap.size 9 1 (.slice aj (gz.map cx).length ak) ((gz).map cx).length<|((gz).map cx).map str)∧(∀ k,((.slice aj (gz.map cx).length ak):ab).ownBlock=some k→k≠A∧k≠bs∧¬((O):ab).ownBlock=some k)∧(Sl bU [(5,.pointer (some V)),(7,aJ A),(8,.slice aj (gz.map cx).length ak),(35,.slice a ops.length cap),(36,dj (ops.length)),(37,dj i)])) ?_ ?_;refine bd 3 U<|p (aH U<|a6.bj 0)<|aQ 9 U<|cd U (fun cw=> ?_) fun cw=> ?_;refine aM 3 U<|p (aH U<|a6.bj 1)<|e<|aZ (Aq _ bq br a4 (bB.wk aw) ag) U ?_;rintro dZ c9 ⟨b9,bG⟩;obtain ⟨bW,b1,rfl⟩:=iP bG;have aI:=aw.trans b9;refine e<|aZ (wy C.heap.size A bs I V g n aa cs (ops.getD i dW).2.1 bW b1 c9 (E.wk aI) (fk bG).2 ag (fun x a2=>bX (bI.2.2 x a2) bD) ag) U fun v49 da cq=> ?_;obtain ⟨O,g2,ao,ac,an,aq,az,au,aB,bw,cB⟩:=iz.xm cq (E.wk aI) am<|.inl rfl;have ca:Wk C da:=(ax.trans aI).trans' bw (fun k J h=>by
  rcases h with h | h | h;have :=E.lo; omega;have :=E.lo; omega;have :=(dF E.back h).1; omega)
 have c0:=cR (dk ae aI) bw (fun k J h=>by
  obtain ⟨Z,M,al⟩:=av k J;rcases h with h | h | h;exact Z h;exact M h;exact al h)
 have dM:=aI.size;have cT:∀ k,((.slice aj (gz.map cx).length ak):ab).ownBlock=some k→k≠A∧k≠bs∧¬((O):ab).ownBlock=some k:=fun k J=>by
  obtain ⟨Z,M,al⟩:=av k J;refine ⟨Z,M,fun h=> ?_⟩;rcases cB k h with aG | aG;exact al aG;have :=(dF ae J).2; omega
 exact aA 2 U<|tn<|⟨g2,aq,ac,an,O,ao,az,au,aB,ca,c0,cT,U⟩
 refine dY 6 U<|cd U (fun cy=> ?_) fun cy=> ?_;refine aM 3 U<|p (aH U<|a6.bj 1)<|e<|aZ (Aq _ bq br a4 (bB.wk aw) ag) U ?_;rintro d0 db ⟨cc,bH⟩;obtain ⟨bY,b2,rfl⟩:=iP bH;have aK:=aw.trans cc;refine e<|aZ (wS C.heap.size A bs I V g n aa cs (ops.getD i dW).2.1 bY b2 db (E.wk aK) (fk bH).2 ag (fun x a2=>bX (bI.2.2 x a2) bD) ag) U fun d1 dd cr=> ?_;obtain ⟨O,g2,ao,ac,an,aq,az,au,aB,bx,cC⟩:=iz.xm cr (E.wk aK) am<|.inr rfl;have ce:Wk C dd:=(ax.trans aK).trans' bx (fun k J h=>by
  rcases h with h | h | h;have :=E.lo; omega;have :=E.lo; omega;have :=(dF E.back h).1; omega)
 have c1:=cR (dk ae aK) bx (fun k J h=>by
  obtain ⟨Z,M,al⟩:=av k J;rcases h with h | h | h;exact Z h;exact M h;exact al h)
 have dO:=aK.size;have cU:∀ k,((.slice aj (gz.map cx).length ak):ab).ownBlock=some k→k≠A∧k≠bs∧¬((O):ab).ownBlock=some k:=fun k J=>by
  obtain ⟨Z,M,al⟩:=av k J;refine ⟨Z,M,fun h=> ?_⟩;rcases cC k h with aG | aG;exact al aG;have :=(dF ae J).2; omega
 exact aA 2 U<|tn<|⟨g2,aq,ac,an,O,ao,az,au,aB,ce,c1,cU,U⟩
 exact bg 2 U<|fm<|kD 3 U<|p (cY<|i+1)<|aA 2 U<|tn<|⟨_,ag,i+1,g,gz,aa,cs,I,.slice aj (gz.map cx).length ak,n,ag,(E.wk aw),am,ag,(ax.trans aw),(dk ae aw),av,U,U⟩
 rintro bU aT ⟨g2,aq,ac,an,O,ao,az,au,aB,a7,cZ,bM,cP⟩;refine dw cP<|aM 3 U<|e<|aZ (ri C.heap.size A bs O V g2 ao ac an aT az (om au).1.len) U ?_;rintro d2 d9 ⟨xs,aP,aS,bN,aL⟩;rw [nJ aP aS] at bN;subst bN;have aO:=az.wk aL;have aD:=dk cZ aL;have dP:=aL.size;have dJ:=a7.size;refine aQ 4 U ?_;have cH:=yX (gz:=gz) (k:=gz.length - 1) ag;have bF:(gz.map cx).getD ((gz.map cx).length - 1) []=cx g:=by rw [bo,cH,show gz.length - 1=aa.length by omega,am.last]
 refine aM 5 U<|p (q4<|(gz.map cx).length - 1)<|p (jh p9 U U ag<|bh.ok ((fk aD).2)<|qJ ag)<|p (aH U<|eD.get (i:=(gz.map cx).length - 1) (fk aD).2 ag)<|aQ 3 U<|cd U (fun bm=> ?_) fun bm=> ?_;obtain ⟨bn,dz,dy⟩:=aB.resolve_left fun ⟨Z,M,_⟩=>bm<|by rw [M]; exact bF.symm
 subst bn;refine aM 3 U<|e<|oh kQ U U fun dg ea dl aN b6=> ?_;have dQ:=aN.size;refine e<|ap kQ (dk aD aN.md) U ag U (bh.j3 b6) (U) (U) ag ag fun v70 bR cM a8 c2 cD=> ?_;have c2:=a8.size;have cn:bP bR C.heap.size A bs O V g2 ao ac an:=bP.IN (aO.wk aN.md) (dk aD aN.md) (fun e=>by rw [e] at bo; simp at bo; omega) a8;have cg:Wk C bR:=((a7.trans aL).trans aN.md).trans' a8 fun k J h=>by have :=(dF aD h).1; omega
 have dA:=aO.obj.lt;have dC:=aO.dm.lt;have cV:∀ k,((v70):ab).ownBlock=some k→k≠A∧k≠bs∧¬((O):ab).ownBlock=some k:=fun k J=>by
  rcases cD k J with h | h;exact bM k h;exact ⟨ag,ag,fun M=>by have :=(dF aO.back M).2; omega⟩
 exact p aE<|ar 4 U<|p (cY<|i+1)<|aA 2 U<|tn<|⟨_,ag,i+1,g2,gz++ [g2],ac,an,O,v70,ao,ag,cn,au,ag,cg,(by rw [mC,bK,mC]; exact cM),cV,U,U⟩
 obtain ⟨dU,cK,_⟩:=(om au).2;obtain ⟨m1,oB,_⟩:=(om am).2;have cF:g2=g:=IT (om au).1 (om am).1 cK oB<|(Classical.not_not.1 bm).trans bF;obtain ⟨bn,_,cJ⟩:=aB.resolve_right fun h=>h.2.1 cF;exact aM 4 U<|p (cY<|i+1)<|aA 2 U<|tn<|⟨_,ag,i+1,g2,aq,ac,an,O,.slice aj (gz.map cx).length ak,ao,ag,aO,au,(by rw [cJ]; omega),(a7.trans aL),(by rw [bn]; exact aD),bM,U,U⟩
 refine bg 2 U<|fm<|iK 12 U<|lp (fun aF bV ad=> ∃ (j:Nat) (x:Int) (cs:List ab) (I:ab) (n:Nat),(j≤gz.length)∧(x=(j:Int) - 1)∧(bP ad C.heap.size A bs I V (gz.getD (j - 1) dG) n (aa.take<|j - 1) cs)∧(Wk C ad)∧(dN ad C.heap.size 9 1 (.slice aj (gz.map cx).length ak) ((gz).map cx).length<|((gz).map cx).map str)∧(∀ k,((.slice aj (gz.map cx).length ak):ab).ownBlock=some k→k≠A∧k≠bs∧¬((I):ab).ownBlock=some k)∧(Sl bV [(7,aJ A),(8,.slice aj (gz.map cx).length ak),(12,.int .i64 x)])∧(j=aF)) _ ⟨gz.length,((gz.map cx).length:Int) - 1,cs,I,n,ag,ag,(by rw [show gz.length - 1=aa.length by omega,am.last,List.take_length]; exact E),ax,ae,av,U,U⟩ ?_;rintro aF bV ad ⟨j,x,cs,I,n,dx,a2,E,bv,ae,av,cQ,rfl⟩;refine dw cQ<|dD 7 U<|cd U (fun cA=> ?_) fun cA=> ?_;obtain ⟨k,rfl⟩:∃ k:Nat,x=(k:Int):=⟨x.toNat,ag⟩
 obtain rfl :j=k+1:=ag;rw [Nat.add_sub_cancel] at E;have bJ:∀ b,(Value.slice aj (gz.map cx).length ak).ownBlock=some b→¬fY A bs I b:=fun b hb h=>by
  obtain ⟨Z,M,al⟩:=av b hb;rcases h with h | h | h;exact Z h;exact M h;exact al h
 refine dY 5 U ?_;have a0:(fun w'=>Md (fY A bs I) ad w') ad.drew:=(Md.refl _ _).drew;refine bu (fun w'=>Md (fY A bs I) ad w') U wide a0<|cI [0,2,3] U a0<|lI 4 U (jh p9 U U ag<|bh.ok ((fk ae).2)<|qJ ag) a0<|tB 5 U (fun w' ct=>aH U<|eD.get (i:=k) (fk<|cR ae ct bJ).2 ag) a0<|he 1 U ai<|aZ (ri C.heap.size A bs I V (gz.getD k dG) n (aa.take k) cs ad.drew (E.wk (Md.refl _ _).drew) (am.ok k ag).1.len) U ?_;rintro d3 bS ⟨xs,aP,aS,bO,ay⟩;rw [nJ aP aS] at bO;subst bO;have ay:=Md.mU ay;have co:=E.wk ay;have dH:=dk ae ay;have bc:(fun w'=>Md (fY A bs I) ad w') bS:=ay.mono fun _ _ h=>h.elim;refine ⟨bc,?_⟩;refine cI [6,7] U bc<|kF (t:=86) U (fun h=>absurd h fun h=>h (yX ag).symm) fun dr=>cI [8,10,11] U bc<|tA 9 U ai U U U<|aZ (I0 bS am co ag ag) U ?_;rintro d4 bp ⟨rfl,c5,b3,c3,cp,ck,cE⟩;have bl:Md (fY A bs I) ad bp:=(ay.mono fun _ _ h=>h.elim).trans ck;have ch:Wk C bp:=bv.trans' bl (fun k J h=>by
  rcases h with h | h | h;have :=E.lo; omega;have :=E.lo; omega;have :=(dF E.back h).1; omega)
 have bi:(fun w'=>Md (fY A bs I) ad w') bp:=bl;refine ⟨bi,?_⟩;exact kG 12 U (fun _ _=>Gn u4 U U) bi<|cI [13] U bi<|hn ai<|iK 1 U<|cd U (fun h=>absurd h fun h=>h<|by simp) fun dn=>bg 8 U<|tn<|⟨_,ag,k,(k:Int) - 1,b3,c5,c3,ag,U,cp,ch,(cR ae bl bJ),(fun k J=>by obtain ⟨Z,M,al⟩:=av k J; exact ⟨Z,M,fun h=>al<|cE k h⟩),U,U⟩
 refine bg 2 U<|fm<|iK 3 U ?_;obtain rfl :j=0:=ag;have ba:bP ad C.heap.size A bs I V dG n [] cs:=by have h:=E; rw [am.zero] at h; exact h
 have cL:=Dv ba.fG;refine aM 2 U<|e<|aZ (FT C.heap.size A bs I V dG n [] cs ad ba) U ?_;rintro d5 de ⟨rfl,bt⟩;refine ar 2 U<|gs (t:=96) U (fun ds=> ?_) fun h=>absurd (by rw [cL]; rfl) h;refine ar 1 U<|eg U U U<|aZ (ri C.heap.size A bs I V dG n [] cs de (ba.wk bt) fun x o h=>by cases h) U ?_;rintro d6 eb ⟨xs,aP,aS,bQ,ci⟩;rw [nJ aP aS,show cx dG= [] from Au] at bQ;subst bQ;exact aA 6 U<|aW U<|⟨U,((aV.trans bv).trans bt).trans ci⟩
end Go.Hb.wo
end
