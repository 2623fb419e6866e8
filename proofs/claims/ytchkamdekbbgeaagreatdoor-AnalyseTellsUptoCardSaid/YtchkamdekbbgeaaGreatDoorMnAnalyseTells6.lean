/-
  Walks and plain laws that the law rests on, laid together. No conditions but those that each theorem names.
-/
import Derived.Test.YtchkamdekbbgeaaGreatDoorMnAnalyseTells5
set_option linter.unusedVariables false
set_option maxRecDepth 20000
set_option maxHeartbeats 1000000
open Array renaming getElem?_eq_none→o8,getElem?_eq_some_iff→cY,getElem?_modify→HG,getElem?_toList→tC
open Bool renaming and_eq_true→gd,and_false→xj,false_eq_true→HK,noConfusion→dA
open Classical renaming byContradiction→tI
open Go.Calls renaming mono→ju
open Go.Instr renaming checkKey→mN,findAsking→qq,findKey→qs,findNow→qt
open Go.Op renaming equalIn→oz
open Go.Proofs.SlLaysF0 renaming n6→Wq
open Go.Proofs.Tryz renaming prog→au,underlying49→Bj
open Go.Proofs renaming ltOf→tN
open Go.Result renaming andThen_ok→l7
open Go.Sem renaming run_bind→l8,run_pure→oA
open Go.Sort renaming ahead→tO,grow→H9
open Go.Value renaming bool→bO,int→ff,oneCell'→et,slice→bD
open Go.World renaming ownsRow→bm,ownsRow_nil→dM
open Int renaming toNat_natCast→jx
open List.Perm renaming refl→Ik
open List renaming all_eq_true→jT,any_eq_true→xy,append_assoc→ib,append_nil→eM,drop_left→Io,eq_nil_of_length_eq_zero→fR,filter_cons→pA,flatMap_append→tU,flatMap_singleton→tV,getD_eq_getElem?_getD→cM,getElem?_eq_getElem→bZ,getElem?_eq_some_iff→eu,getElem?_map→eR,getElem?_take_of_lt→Iz,getElem?_zip_eq_some→jh,length_append→bK,length_cons→bU,length_filter_le→mT,length_map→eX,length_nil→gz,length_range→r7,length_singleton→ic,length_take→dB,map_append→gA,map_nil→IC,mem_append_right→ua,mem_cons→dR,mem_cons_of_mem→nN,mem_cons_self→mV,mem_filter→pB,mem_filterMap→IE,mem_flatMap→oB,mem_map→gK,mem_of_getElem?→gB,mem_range→mW,mem_singleton→iX,of_mem_zip→xI,pairwise_cons→kZ,pairwise_flatMap→BG,pairwise_lt_range→xJ,pairwise_map→xK,perm_ext_iff_of_nodup→IH,range→fD,range_succ→II,take_append_drop→IK,take_left→IL,take_of_length_le→eN,toArray→aX
open Nat renaming add_le_add→IS,le_refl→cw,le_trans→dZ,lt_or_ge→ig,lt_succ_iff_lt_or_eq→nQ,mul_add→ug,mul_comm→sd,mul_le_mul_right→oD,zero_add→fK,zero_le→mi
open Nat.le renaming dest→IX
open Option renaming bind_assoc→I0,bind_eq_some_iff→pD,bind_some→oG,isSome_iff_exists→nS,map_eq_some_iff→mj
open Prod renaming fst→fS
open Go.Proofs.Tryz
open Go.Hb.dx Go.Proofs Go.Hb.dV Go.Hb.eH Go.Hb.gi Go.Hb.eI Go.Hb.fU Go.Hb.gL Go.Hb.gT

namespace Go.Hb.iP
theorem Fv (l:List Nat):(l.map fun i:Nat=>(i:Int)).map (ff .i64)=l.map fV:=by rw [List.map_map]; rfl
theorem rH {F:aB} {xs:List bh} (h:eJ F xs) (n:Int):(flagsOf xs n).length≤64∧jX (flagsOf xs n):=by
 by_cases hn:0≤n∧n < xs.length
 · obtain ⟨k,rfl⟩:∃ k:Nat,n=(k:Int):=⟨n.toNat,ab⟩
   have c:xs[k]? =some xs[k]:=bZ ab
   rw [(uz c).2.1]
   exact ⟨(h.yL _<|gB c).2.1,h.Oc _<|gB c⟩
 · rw [(uA hn).2]; exact ⟨mi _,sW⟩
theorem wu {F:aB} {xs:List bh} (h:eJ F xs) (n:Int):(bY F n).length≤64∧jX (bY F n):=by
 by_cases hn:0≤n∧n < F.rules.length
 · obtain ⟨k,rfl⟩:∃ k:Nat,n=(k:Int):=⟨n.toNat,ab⟩
   have c:F.rules[k]? =some F.rules[k]:=bZ ab
   rw [(Gp c).2.1]
   exact ⟨(h.lD c).1,(h.lD c).2.1⟩
 · rw [(An hn).2]; exact ⟨mi _,sW⟩
theorem MG {F:aB} {k f:Nat} (h:(dE F.bz f).isSome=false):fG F k f= []:=by
 unfold fG
 cases h2:dE F.bz f with
 | none=>rfl
 | some c=>rw [h2] at h; cases h
theorem MJ {F:aB} {k f:Nat} {c:dI} (h:(dE F.bz f).isSome=true) (A:(dE F.bz f).getD qV=c):dE F.bz f=some c:=by
 cases h2:dE F.bz f with
 | none=>rw [h2] at h; cases h
 | some d=>rw [h2] at A; exact congrArg some A
theorem MH {F:aB} {k f:Nat} {c:dI} (h:dE F.bz f=some c) (hk:c.kind≠k):fG F k f= []:=by unfold fG; rw [h]; exact if_neg hk
theorem MK {F:aB} {k f:Nat} {c:dI} (h:dE F.bz f=some c) (hk:c.kind=k):fG F k f=(fD c.count).map (c.first+ ·):=by unfold fG; rw [h]; exact if_pos hk
theorem ME {F:aB} (A:nW F) {f:Nat} {c:dI} (h:dE F.bz f=some c):c.first+c.count≤F.rules.length:=(A.sB c (DZ h).1).1
theorem Pg {fs:List Nat} {f:Nat→List Nat} {i:Nat} (h:i < fs.length):(fs.take<|i+1).flatMap f=(fs.take i).flatMap f++f (fs.getD i 0):=by
 rw [kT fs i 0 h,tU,tV]
theorem FK {F:aB} (c:nW F) {fs:List Nat} (h:fs.Pairwise (· < ·)) (k:Nat):(fs.flatMap<|fG F k).length=(bC F fs k).length:=by
 obtain ⟨h1,h2⟩:=FJ c (k:=k) h
 exact ((IH h1<|(zR F fs k).imp fun h=>by omega).2 h2).length_eq
theorem RY {F:aB} (c:nW F) {fs:List Nat} (h:fs.Pairwise (· < ·)) (k:Nat):(fs.flatMap<|fG F k).length≤F.rules.length:=by
 rw [FK c h]; exact zO F fs k
def gq (F:aB) (xs:List bh) (e k:Int):Bool:=decide (0≤k∧k < 5) && rl F xs e k.toNat
theorem G1 {w:World} {B tb:Nat} {U:eS} {F:aB} {xs:List bh} (h:eA w B tb U F xs) {k:Nat} (hk:k < 5):Hb.aM w.heap tb (5 +k*1)=some (aT<|F.sp.getD k 0):=by
 refine (bj h.cells).trans ?_
 match k,hk with
 | 0,_=>rfl
 | 1,_=>rfl
 | 2,_=>rfl
 | 3,_=>rfl
 | 4,_=>rfl
theorem EL {x:Nat} {l:List Nat} (h:0∉l):decide (x∈l)=decide (x≠0∧x∈l):=decide_eq_decide.2 ⟨fun h2=>⟨fun h3=>h (h3 ▸ h2),h2⟩,And.right⟩
theorem q4 (B tb:Nat) (U:eS) (F:aB) (xs:List bh) (n:Int) (w:World) (ay:eA w B tb U F xs) (aj:eJ F xs):
 ba au 24 (aX [aV tb,.int .i64 n]) w (fun v w'=>(∃ a,v= .tuple #[.agg [str (gQ xs n),a].toArray,.bool (decide (0≤n∧n < xs.length))]∧bm w' w.heap.size 95 1 a (flagsOf xs n).length ((flagsOf xs n).map aT))∧Wk w w'):=by
 obtain ⟨a9,ce,a4⟩:=U4 ay
 have bo:=aj.xl
 refine enter func24 aa ntmps24 aa<|ak fun aI=>e<|al nH fun bc aF bi C J=> ?_
 have bs:=C.size
 have a1:=ay.wk C.md
 have a6:=Wk.aM C.md a4
 refine aw<|aI<|az fun aL=>ak fun ag=>p mv<|p (lf wH aa aa)<|p mv<|gb (t:=9) aa (fun h=>absurd (h.symm.trans<|aa) dA) fun bk=>aK aa mv<|aK aa (lt aa aa)<|p (bH aa)<|p mv<|gs (t:=13) aa (fun a3=> ?_) fun a3=> ?_
 refine aJ aa<|aJ aa<|aJ aa<|aJ aa<|aJ aa<|aJ aa<|aJ aa<|p (bN aa)<|nl<|ag<|ct aa<|ak fun E=>p (c7 (ps:= []) (L:= [.string ⟨⟨[]⟩⟩,.slice none 0 0]) mL aa<|aa)<|e<|cG iR aa aa aa aa (J) (by simp) fun a8 V I=>p aC<|nl<|E<|rt<|tr<|eU aa (dN (cs:= [str [],.slice none 0 0]) aa km aa fun j Z=>I.bp j) ek ?_
 have G:=uA (xs:=xs) (n:=n) ab
 exact ⟨⟨.slice none 0 0,by rw [G.1,decide_eq_false (show ¬(0≤n∧n < (xs.length:Int)) by omega)]; rfl,by rw [G.2]; exact dM _ _ _ _⟩,C.md.trans' V fun q A h=>by omega⟩
 refine aK aa mv<|aK aa mv<|aK aa (nc aa)<|aK aa (fa y1 aa)<|aK aa (ld si aa<|a6)<|aK aa (bM wy aa aa)<|aK aa (ge aa aa)<|p (bH aa)<|nl<|ag<|cd aa (fun a2=> ?_) fun a2=> ?_
 refine ak fun E=>p (c7 (ps:= []) (L:= [.string ⟨⟨[]⟩⟩,.slice none 0 0]) mL aa<|aa)<|e<|cG iR aa aa aa aa (J) (by simp) fun a8 V I=>aw<|E<|rt<|tr<|eU aa (dN (cs:= [str [],.slice none 0 0]) aa km aa fun j Z=>I.bp j) ek ?_
 have G:=uA (xs:=xs) (n:=n) ab
 exact ⟨⟨.slice none 0 0,by rw [G.1,decide_eq_false (show ¬(0≤n∧n < (xs.length:Int)) by omega)]; rfl,by rw [G.2]; exact dM _ _ _ _⟩,C.md.trans' V fun q A h=>by omega⟩
 obtain ⟨k,rfl⟩:∃ k:Nat,n=(k:Int):=⟨n.toNat,ab⟩
 obtain ⟨x,ad⟩:∃ x,xs[k]? =some x:=⟨_,bZ ab⟩
 obtain ⟨bb,bd,a,c,bl,a5,an,aE,aA⟩:=U3 a1 ad
 have bn:=(aj.yL x<|gB ad).2.1
 obtain ⟨aP,aR,bf,bg⟩:=uz ad
 refine aQ<|aL<|ak fun E=>p mv<|p (nc aa)<|p (fa y1 aa)<|p (ld si aa<|a5)<|p mv<|p (a7 yN aa aa ab<|aG.ok (an)<|yK aE)<|p (cK km aa (aa)<|gY (f:=pW) (m:=2) (fun _=>rfl) an aE)<|e<|al nH fun ah bw bj ax aZ=> ?_
 have bu:=ax.size
 refine e<|cG iR aa aa aa aa (aZ) (by simp) fun ae aq aS=> ?_
 have ao:Wk aF ae:=ax.md.trans' aq fun q A h=>by omega
 have bq:=aq.size
 have am:bE ae.heap ah [str x.1,.slice a x.2.length c]:=aS
 refine nl<|E<|ak fun aN=>p (fa p6 aa)<|p (ld lL aa<|am.bp 1)<|e<|cl qR (qU a x.2.length c (x.2.map aT) ae (aA.wk ao).dy.2 (by simp) (fun h=>Tg.ry aA (by simp) h) (qM _) ab) aa fun v32 bv a0=> ?_
 obtain ⟨ac,O⟩:=a0
 obtain ⟨a32,ai,rfl⟩:=cQ ac
 have br:=O.size
 refine p (fa p6 aa)<|e<|st qW aa aa (aa) (Wk.B O am) (by simp) fun aH Y aU=> ?_
 have ap:Wk aF aH:=(ao.trans O).trans' Y fun q A h=>by omega
 have bt:=Y.size
 have aD:=cz ac Y fun q A h=>by have :=(dd ac A).1; omega
 have aW:bE aH.heap ah [str x.1,.slice a32 x.2.length ai]:=aU
 exact nl<|aN<|ak fun aO=>p (cK km aa (aa) fun j Z=>aW.bp j)<|e<|cG iR aa aa aa aa (Wk.B ap J) (by simp) fun bx av aY=>p aC<|nl<|aO<|rt<|eU aa (dN (cs:= [str x.1,.slice a32 x.2.length ai]) aa km aa fun j Z=>aY.bp j) ek<|⟨⟨_,by rw [aP,decide_eq_true (show 0≤(k:Int)∧(k:Int) < (xs.length:Int) by omega)]; rfl,by rw [aR]; exact cz (fk aD ab) av fun q A h=>by have :=(dd aD A).1; omega⟩,(C.md.trans ap).trans' av fun q A h=>by omega⟩
theorem vP (B tb:Nat) (U:eS) (F:aB) (xs:List bh) (n:Int) (w:World) (aE:eA w B tb U F xs) (an:eJ F xs):
 ba au 87 (aX [aV tb,.int .i64 n]) w (fun v w'=>(∃ a,v= .tuple #[.agg (dG (qg F n,a)).toArray,.bool (decide (0≤n∧n < F.rules.length))]∧bm w' w.heap.size 95 1 a (bY F n).length ((bY F n).map aT))∧Wk w w'):=by
 obtain ⟨bk,ce,bc⟩:=U5 aE
 have bt:=an.len
 refine enter func87 aa ntmps87 aa<|ak fun aO=>e<|al ou fun aW I bo C O=> ?_
 have bw:=C.size
 have aF:=aE.wk C.md
 have bg:=Wk.aM C.md bc
 have a3:bE I.heap aW (dG (dp,.slice none 0 0)):=O
 refine aw<|aO<|az fun aP=>ak fun ah=>p mv<|p (lf wH aa aa)<|p mv<|gb (t:=9) aa (fun h=>absurd (h.symm.trans<|aa) dA) fun br=>aK aa mv<|aK aa (lt aa aa)<|p (bH aa)<|p mv<|gs (t:=13) aa (fun bb=> ?_) fun bb=> ?_
 refine aJ aa<|aJ aa<|aJ aa<|aJ aa<|aJ aa<|aJ aa<|aJ aa<|aJ aa<|p (bN aa)<|nl<|ah<|ct aa<|ak fun E=>p (c7 (ps:= []) (L:= [.int .i64 0,.int .u16 0,.bool false,.string ⟨⟨[]⟩⟩,.string ⟨⟨[]⟩⟩,.string ⟨⟨[]⟩⟩,.slice none 0 0]) AE aa<|aa)<|e<|cG mA aa aa aa aa (O) (by simp) fun bi Y J=>aw<|E<|rt<|tr<|eU aa (dN (cs:=dG (dp,.slice none 0 0)) aa j0 aa fun j ac=>J.bp j) ek ?_
 have G:=An (F:=F) (n:=n) ab
 exact ⟨⟨.slice none 0 0,by rw [G.1,decide_eq_false (show ¬(0≤n∧n < (F.rules.length:Int)) by omega)]; rfl,by rw [G.2]; exact dM _ _ _ _⟩,C.md.trans' Y fun q A h=>by omega⟩
 refine aK aa mv<|aK aa mv<|aK aa (nc aa)<|aK aa (fa sN aa)<|aK aa (fa mC aa)<|aK aa (ld k5 aa<|bg)<|aK aa (bM o4 aa aa)<|aK aa (ge aa aa)<|p (bH aa)<|nl<|ah<|cd aa (fun a9=> ?_) fun a9=> ?_
 refine ak fun E=>p (c7 (ps:= []) (L:= [.int .i64 0,.int .u16 0,.bool false,.string ⟨⟨[]⟩⟩,.string ⟨⟨[]⟩⟩,.string ⟨⟨[]⟩⟩,.slice none 0 0]) AE aa<|aa)<|e<|cG mA aa aa aa aa (O) (by simp) fun bi Y J=>aw<|E<|rt<|tr<|eU aa (dN (cs:=dG (dp,.slice none 0 0)) aa j0 aa fun j ac=>J.bp j) ek ?_
 have G:=An (F:=F) (n:=n) ab
 exact ⟨⟨.slice none 0 0,by rw [G.1,decide_eq_false (show ¬(0≤n∧n < (F.rules.length:Int)) by omega)]; rfl,by rw [G.2]; exact dM _ _ _ _⟩,C.md.trans' Y fun q A h=>by omega⟩
 obtain ⟨k,rfl⟩:∃ k:Nat,n=(k:Int):=⟨n.toNat,ab⟩
 obtain ⟨r,ae⟩:∃ r,F.rules[k]? =some r:=⟨_,bZ ab⟩
 obtain ⟨aU,aY,a,c,bd,ap,aL,aH⟩:=JV aF.ax ae
 have bf:Hb.aM I.heap tb 14=some (.slice aU F.rules.length aY):=by rw [← bd]; exact (bj aF.cells).trans rfl
 have bs:=(an.lD ae).1
 obtain ⟨aZ,a0,bl,bn⟩:=Gp ae
 refine aQ<|aP<|ak fun E=>p mv<|p (nc aa)<|p (fa sN aa)<|p (fa mC aa)<|p (ld k5 aa<|bf)<|p mv<|p (a7 lg aa aa ab<|aG.ok (ap)<|lZ aL)<|p (cK j0 aa (aa)<|gY (f:=dG) (m:=7) (fun _=>rfl) ap aL)<|e<|al ou fun aj bC bq aD a6=> ?_
 have bz:=aD.size
 refine e<|cG mA aa aa aa aa (a6) (by simp) fun ag ay a1=> ?_
 have aq:Wk I ag:=aD.md.trans' ay fun q A h=>by omega
 have bu:=ay.size
 have ao:bE ag.heap aj (dG (r,.slice a r.next.length c)):=a1
 refine nl<|E<|ak fun aR=>p (fa oS aa)<|p (ld lL aa<|ao.bp 6)<|e<|cl qR (qU a r.next.length c (r.next.map aT) ag (aH.wk aq).dy.2 (by simp) (fun h=>Tg.ry aH (by simp) h) (qM _) ab) aa fun bA bB a8=> ?_
 obtain ⟨ad,V⟩:=a8
 obtain ⟨ai,am,rfl⟩:=cQ ad
 have bv:=V.size
 refine p (fa oS aa)<|e<|st qW aa aa (aa) (Wk.B V ao) (by show 6 < 7; omega) fun aN Z a2=> ?_
 have av:Wk I aN:=(aq.trans V).trans' Z fun q A h=>by omega
 have bx:=Z.size
 have aI:=cz ad Z fun q A h=>by have :=(dd ad A).1; omega
 have a4:bE aN.heap aj (dG (r,.slice ai r.next.length am)):=a2
 exact nl<|aR<|ak fun aS=>p (cK j0 aa (aa) fun j ac=>a4.bp j)<|e<|cG mA aa aa aa aa (Wk.B av a3) (by show 7≤7; omega) fun bD aA a5=>p aC<|nl<|aS<|rt<|eU aa (dN (cs:=dG (r,.slice ai r.next.length am)) aa j0 aa fun j ac=>a5.bp j) ek<|⟨⟨_,by rw [aZ,decide_eq_true (show 0≤(k:Int)∧(k:Int) < (F.rules.length:Int) by omega)]; rfl,by rw [a0]; exact cz (fk aI ab) aA fun q A h=>by have :=(dd aI A).1; omega⟩,(C.md.trans av).trans' aA fun q A h=>by omega⟩
theorem Qv (a:Option Addr) (c:Nat) (l:List Nat) (x:Nat) (w:World) (G:aG w.heap a (l.map aT)) (ay:l.length≤1048576):
 ba au 142 (aX [.slice a l.length c,aT x]) w (fun v w'=>(∃ k:Int,v= .int .i64 k∧(0≤k↔x∈l)∧ -1≤k∧k≤1048576)∧Wk w w'):=by
 refine enter func142 aa ntmps142 aa<|ak fun Y=>aw<|Y<|az fun Z=>ak fun ac=>ao (.slice a l.length c)<|p (bM G6 aa aa)<|p mv<|nl<|ac<|aE<|lp (fun E A V=> ∃ (i:Nat),(i≤l.length)∧(∀ j,j < i→l.getD j 0≠x)∧(V=w)∧(A 0= .slice a l.length c)∧(A 1=aT x)∧(A 7=aj (l.length))∧(A 8=aj i)∧(l.length - i=E)) _ ⟨0,ab,(fun j J=>by omega),aa,aa,aa,aa,aa,aa⟩ ?_
 rintro E A V ⟨i,hi,O,am,ap,aq,av,ax,rfl⟩
 refine fx 0 ap<|fx 1 aq<|fx 7 av<|fx 8 ax ?_
 subst am
 refine ak fun ae=>p (lt aa aa)<|nl<|ae<|az fun ag=>cd aa (fun an=> ?_) fun an=> ?_
 refine aQ<|ag<|az fun C=>aE<|ak fun ah=>ao (aj i)<|p (bV (aj i) aa)<|nl<|ah<|ak fun ai=>ao (aT x)<|ao (.slice a l.length c)<|ao (aj i)<|p (a7 DJ aa aa ab<|aG.ok (G)<|cX ab)<|p (ld bW aa<|aG.iD G (show (l.map aT)[i]? =some (aT<|l.getD i 0) by rw [eR,cM,bZ (by omega :i < l.length)]; rfl)) ?_
 refine p (cg aa aa)<|nl<|ai<|cd aa (fun I=> ?_) fun I=> ?_
 exact ak fun al=>ao (aj i)<|p (bV (aj i) aa)<|nl<|al<|rt<|br<|tr<|tr<|br<|tr<|a6 aa<|⟨⟨(i:Nat),aa,⟨fun _=>by obtain rfl :x=l.getD i 0:=ab; exact fg ab,fun _=>by omega⟩,ab,ab⟩,Md.refl _ _⟩
 exact aQ<|bn<|C<|rg aa<|p (ad aa aa<|cH ab)<|p mv<|nl<|tn<|⟨_,ab,i+1,ab,(fun j J=>by rcases ig j i with h | h <;> first | exact O j h | (rw [show j=i by omega]; exact fun h2=>I<|by rw [h2])),aa,aa,aa,aa,aa,aa⟩
 exact ext<|bc<|bc<|be<|Z<|ak fun C=>p aC<|nl<|C<|rt<|a6 aa<|⟨⟨-1,aa,⟨fun h=>absurd h ab,fun h=>by obtain ⟨j,J,e⟩:=og 0 h; exact absurd e<|O j ab⟩,ab,ab⟩,Md.refl _ _⟩
theorem M4 (a:Option Addr) (c:Nat) (l:List Nat) (x:Nat) (w:World) (E:aG w.heap a (l.map aT)) (J:l.length≤1048576):
 ba au 85 (aX [.slice a l.length c,aT x]) w (fun v w'=>v= .bool (decide (x∈l))∧Wk w w'):=by
 refine enter func85 aa ntmps85 aa<|ak fun A=>aw<|A<|ak fun C=>ao (.slice a l.length c)<|ao (aT x)<|e<|cl Kx (Qv a c l x w E J) aa fun Y Z G=> ?_
 obtain ⟨⟨O,rfl,I,V⟩,hE7⟩:=G
 exact p (ge aa aa)<|aw<|C<|rt<|a6 aa<|⟨by show bO (decide (O≥0))=_; exact congrArg bO (decide_eq_decide.2 I),hE7⟩
theorem EK (a:Option Addr) (c:Nat) (l:List Nat) (x:Nat) (w:World) (E:aG w.heap a (l.map aT)) (J:l.length≤1048576):
 ba au 43 (aX [.slice a l.length c,aT x]) w (fun v w'=>v= .bool (decide (x∈l))∧Wk w w'):=by
 refine enter func43 aa ntmps43 aa<|ak fun A=>aw<|A<|ak fun C=>ao (.slice a l.length c)<|ao (aT x)<|e<|cl LP (M4 a c l x w E J) aa fun O V I=> ?_
 obtain ⟨rfl,G⟩:=I
 exact aw<|C<|rt<|a6 aa<|⟨aa,G⟩
theorem zS (B tb:Nat) (U:eS) (F:aB) (xs:List bh) (fs:List Nat) (a:Option Addr) (c kd:Nat) (w:World) (aS:eA w B tb U F xs) (Z:eJ F xs) (aL:aG w.heap a (fs.map aT)) (ca:fs.length≤64) (aA:fs.Pairwise (· < ·)):
 ba au 86 (aX [aV tb,.slice a fs.length c,aj kd]) w (fun v w'=>bm w' w.heap.size 3 1 v (bC F fs kd).length ((bC F fs kd).map fV)∧Wk w w'):=by
 have cf:=Z.len
 refine enter func86 aa ntmps86 aa<|ak fun a2=>aw<|a2<|ak fun bg=>p aC<|nl<|bg<|az fun bi=>ak fun bk=>ao (.slice a fs.length c)<|p (bM nA aa aa)<|p mv<|nl<|bk<|aE<|lp (fun Y G J=> ∃ (i:Nat) (v:Value),(i≤fs.length)∧(bm J w.heap.size 3 1 v ((fs.take i).flatMap<|fG F kd).length<|((fs.take i).flatMap<|fG F kd).map fV)∧(((fs.take i).flatMap<|fG F kd).length≤i*70000)∧(Wk w J)∧(G 0=aV tb)∧(G 2=aj kd)∧(G 7=v)∧(G 13= .slice a fs.length c)∧(G 14=aj (fs.length))∧(G 15=aj i)∧(fs.length - i=Y)) _ ⟨0,.slice none 0 0,ab,(dM _ _ _ _),(mi _),(Md.refl _ _),aa,aa,aa,aa,aa,aa,aa⟩ ?_
 rintro Y G J ⟨i,v,hi,ag,aZ,C,bF,bP,bQ,bJ,bL,bO,rfl⟩
 refine fx 0 bF<|fx 2 bP<|fx 7 bQ<|fx 13 bJ<|fx 14 bL<|fx 15 bO<|ak fun bl=>p (lt aa aa)<|nl<|bl<|az fun bo=>cd aa (fun bx=> ?_) fun bx=> ?_
 refine aQ<|bo<|az fun O=>aE<|ak fun al=>p (a7 bI aa aa ab<|aG.ok (aL.wk C)<|cX ab)<|p (ld bW aa<|aG.iD (aL.wk C) (show (fs.map aT)[i]? =some (aT<|fs.getD i 0) by rw [eR,cM,bZ (by omega :i < fs.length)]; rfl)) ?_
 refine aw<|al<|ak fun bp=>ao (aV tb)<|p (nc aa)<|p (fa vl aa)<|p (ld eT aa<|(bj (aS.wk C).cells).trans aa)<|p mv<|e<|cl yb (yQ B U.fb U.mc F U.V (fs.getD i 0) J (aS.wk C).fl ab) aa fun v25 cn aR=> ?_
 obtain ⟨cl,aW⟩:∃ cl,(dE F.bz<|fs.getD i 0).getD qV=cl:=⟨_,rfl⟩
 rw [aW] at aR
 have I:=Pg (f:=fG F kd) (show i < fs.length by omega)
 obtain ⟨rfl,aM⟩:=aR
 have ch:=aM.size
 refine p mv<|p (xt aa aa)<|p (xt aa aa)<|e<|iq rS fun am cm b6 aP bq=> ?_
 have cg:=aP.size
 refine e<|gw pU aa aa aa aa bq (by simp) fun a1 aO bs=> ?_
 have ae:Wk J a1:=(aM.trans aP.md).trans' aO fun q ce h=>by omega
 have ck:=aO.size
 have aq:a1.heap[am]? =some (.cells (my cl).toArray 192 (0,0)):=bs
 have aF:=a8 ag ae
 refine aw<|bp<|az fun a3=>ak fun aI=>p mv<|p (no aa)<|p mv<|gb (t:=30) aa (fun aD=> ?_) fun aD=> ?_
 have ac:fG F kd (fs.getD i 0)= []:=MG<|by simpa using aD
 exact aJ aa<|aJ aa<|aJ aa<|aJ aa<|p (bN aa)<|nl<|aI<|ct aa<|ext<|bc<|be<|O<|rg aa<|p (ad aa aa<|cH ab)<|p mv<|nl<|tn<|⟨_,ab,i+1,v,ab,(by rw [I,ac,eM]; exact aF),(by rewrite [I,ac,eM]; exact dZ aZ<|oD _<|Nat.le_succ i),(C.trans ae),aa,aa,aa,aa,aa,aa,aa⟩
 have ax:=MJ (k:=kd) (by simpa using aD) aW
 refine aK aa (fa sU aa)<|aK aa (ld bR aa<|(bj aq).trans aa)<|aK aa (aH (aj kd) aa)<|aK aa (gu aa aa)<|p (bH aa)<|nl<|aI<|cd aa (fun aU=> ?_) fun aU=> ?_
 have ac:fG F kd (fs.getD i 0)= []:=MH ax fun h=>aU<|by rw [h]
 exact ext<|bc<|be<|O<|rg aa<|p (ad aa aa<|cH ab)<|p mv<|nl<|tn<|⟨_,ab,i+1,v,ab,(by rw [I,ac,eM]; exact aF),(by rewrite [I,ac,eM]; exact dZ aZ<|oD _<|Nat.le_succ i),(C.trans ae),aa,aa,aa,aa,aa,aa,aa⟩
 have bB:cl.kind=kd:=ab
 have aY:=MK ax bB
 have b8:=ME Z.cls ax
 refine aQ<|a3<|ak fun a4=>p (fa vq aa)<|p (ld bR aa<|(bj aq).trans aa)<|p mv<|nl<|a4<|aE<|lp (fun Y A ai=> ∃ (j:Nat) (v2:Value),(j≤cl.count)∧(bm ai w.heap.size 3 1 v2 ((fs.take i).flatMap (fG F kd)++(fD j).map (cl.first+ ·)).length<|((fs.take i).flatMap (fG F kd)++(fD j).map (cl.first+ ·)).map fV)∧(ai.heap[am]? =some (.cells (my cl).toArray 192 (0,0)))∧(Wk w ai)∧(A 0=aV tb)∧(A 2=aj kd)∧(A 7=v2)∧(A 10=aV am)∧(A 13= .slice a fs.length c)∧(A 14=aj (fs.length))∧(A 15=aj i)∧(A 37=aj (cl.count))∧(A 38=aj j)∧(cl.count - j=Y)) _ ⟨0,v,ab,(by rw [List.range_zero,IC,eM]; exact aF),aq,(C.trans ae),aa,aa,aa,aa,aa,aa,aa,aa,aa,aa⟩ ?_
 rintro Y A ai ⟨j,v2,cb,ah,av,an,bS,b0,b3,bT,bU,bX,bY,b1,b2,rfl⟩
 refine fx 0 bS<|fx 2 b0<|fx 7 b3<|fx 10 bT<|fx 13 bU<|fx 14 bX<|fx 15 bY<|fx 37 b1<|fx 38 b2<|ak fun a5=>p (lt aa aa)<|nl<|a5<|az fun a9=>cd aa (fun bA=> ?_) fun bA=> ?_
 refine aQ<|a9<|az fun bb=>aE<|ak fun bd=>ao (aj j)<|p (bV (aj j) aa)<|nl<|bd<|rg aa<|ao (v2)<|p (fa Eo aa)<|p (ld bR aa<|(bj av).trans aa)<|ao (aj j)<|p (bG ((cl.first+j:Nat):Int) aa aa<|bf ab ab)<|e<|kG mK aa aa fun b5 co b7 E br=> ?_
 have ci:=E.size
 have cc:((fs.take i).flatMap (fG F kd)++(fD j).map (cl.first+ ·)).length=((fs.take i).flatMap<|fG F kd).length+j:=by rw [bK,eX,r7]
 have bE:(fs.take i).flatMap (fG F kd)++(fD<|j+1).map (cl.first+ ·)=((fs.take i).flatMap (fG F kd)++(fD j).map (cl.first+ ·))++ [cl.first+j]:=by rw [II,gA,← ib]; rfl
 refine e<|ap mK (a8 ah E.md) aa (by have :=an.size; omega) aa (aG.fO br) (aa) (aa) ab ab fun b4 cp bD aN cj b9=> ?_
 have bt:=Wk.own (an.trans E.md) (a8 ah E.md) aN<|cw _
 have bw:=aN.aE (E.md.aE av) fun h=>dS (a8 ah E.md) (E.md.aE av) ay h
 exact p aC<|nl<|bn<|bb<|rg aa<|p (ad aa aa<|cH ab)<|p mv<|nl<|tn<|⟨_,ab,j+1,b4,ab,(by rw [bE,gA,bK]; exact bD),bw,bt,aa,aa,aa,aa,aa,aa,aa,aa,aa,aa⟩
 exact ext<|bc<|bc<|be<|bn<|O<|rg aa<|p (ad aa aa<|cH ab)<|p mv<|nl<|tn<|⟨_,ab,i+1,v2,ab,(by rw [I,aY,show cl.count=j by omega]; exact ah),(by rewrite [I,aY,bK,eX,r7]; omega),an,aa,aa,aa,aa,aa,aa,aa⟩
 refine ext<|bc<|bc<|be<|bi<|az fun O=> ?_
 rw [eN (show fs.length≤i by omega)] at ag
 refine rg aa<|ao (v)<|e<|cl Ky (Uh w.heap.size _ v ((fs.flatMap<|fG F kd).map fun i:Nat=>(i:Int)) J (by rw [Fv]; exact ag)<|by rw [eX]; have :=RY Z.cls aA kd; omega) aa fun v51 cq bv=> ?_
 obtain ⟨rfl,a0,bu⟩:=bv
 rw [Ui Z.cls aA,Fv,FK Z.cls aA] at a0
 exact nl<|O<|ak fun al=>ao (v)<|p (bV (v) aa)<|nl<|al<|rt<|a6 aa<|⟨a0,Wk.own C ag bu<|cw _⟩
theorem UQ (B tb:Nat) (U:eS) (F:aB) (xs:List bh) (n:Int) (w:World) (O:eA w B tb U F xs) (c:eJ F xs):
 ba au 45 (aX [aV tb,.int .i64 n]) w (fun v w'=>bm w' w.heap.size 3 1 v (bC F (flagsOf xs n) 2).length ((bC F (flagsOf xs n) 2).map fV)∧Wk w w'):=by
 refine enter func45 aa ntmps45 aa<|ak fun Y=>aw<|Y<|ak fun Z=>ao (aV tb)<|ao (.int .i64 n)<|e<|cl pT (q4 B tb U F xs n w O c) aa fun v10 ap ai=> ?_
 obtain ⟨⟨aq,rfl,V⟩,hE10⟩:=ai
 obtain ⟨E,G,rfl⟩:=cQ V
 have az:=hE10.size
 refine p mv<|p (xt aa aa)<|p (xt aa aa)<|e<|al nH fun ad aE av J ag=> ?_
 have aA:=J.size
 refine e<|cG iR aa aa aa aa (ag) (by simp) fun C I ae=> ?_
 have A:Wk ap C:=J.md.trans' I fun q ax h=>by omega
 have ay:=I.size
 have am:bE C.heap ad ([str (gQ xs n),.slice E (flagsOf xs n).length G]):=ae
 refine aw<|Z<|ak fun ac=>ao (aV tb)<|p (fa p6 aa)<|p (ld lL aa<|am.bp 1)<|e<|cl ys (zS B tb U F xs (flagsOf xs n) E G 2 C (O.wk<|hE10.trans A) c ((aU V).2.wk A) (rH c n).1 (rH c n).2.1) aa fun aC aD aj=> ?_
 obtain ⟨an,ah⟩:=aj
 exact aw<|ac<|rt<|a6 aa<|⟨fk an ab,(hE10.trans A).trans ah⟩
theorem S6 (B tb:Nat) (U:eS) (F:aB) (xs:List bh) (n:Int) (w:World) (O:eA w B tb U F xs) (c:eJ F xs):
 ba au 47 (aX [aV tb,.int .i64 n]) w (fun v w'=>bm w' w.heap.size 3 1 v (bC F (flagsOf xs n) 1).length ((bC F (flagsOf xs n) 1).map fV)∧Wk w w'):=by
 refine enter func47 aa ntmps47 aa<|ak fun Y=>aw<|Y<|ak fun Z=>ao (aV tb)<|ao (.int .i64 n)<|e<|cl pT (q4 B tb U F xs n w O c) aa fun v10 ap ai=> ?_
 obtain ⟨⟨aq,rfl,V⟩,hE10⟩:=ai
 obtain ⟨E,G,rfl⟩:=cQ V
 have az:=hE10.size
 refine p mv<|p (xt aa aa)<|p (xt aa aa)<|e<|al nH fun ad aE av J ag=> ?_
 have aA:=J.size
 refine e<|cG iR aa aa aa aa (ag) (by simp) fun C I ae=> ?_
 have A:Wk ap C:=J.md.trans' I fun q ax h=>by omega
 have ay:=I.size
 have am:bE C.heap ad ([str (gQ xs n),.slice E (flagsOf xs n).length G]):=ae
 refine aw<|Z<|ak fun ac=>ao (aV tb)<|p (fa p6 aa)<|p (ld lL aa<|am.bp 1)<|e<|cl ys (zS B tb U F xs (flagsOf xs n) E G 1 C (O.wk<|hE10.trans A) c ((aU V).2.wk A) (rH c n).1 (rH c n).2.1) aa fun aC aD aj=> ?_
 obtain ⟨an,ah⟩:=aj
 exact aw<|ac<|rt<|a6 aa<|⟨fk an ab,(hE10.trans A).trans ah⟩
theorem Gw (B tb:Nat) (U:eS) (F:aB) (xs:List bh) (n:Int) (w:World) (O:eA w B tb U F xs) (c:eJ F xs):
 ba au 46 (aX [aV tb,.int .i64 n]) w (fun v w'=>bm w' w.heap.size 3 1 v (bC F (bY F n) 2).length ((bC F (bY F n) 2).map fV)∧Wk w w'):=by
 refine enter func46 aa ntmps46 aa<|ak fun Y=>aw<|Y<|ak fun Z=>ao (aV tb)<|ao (.int .i64 n)<|e<|cl CU (vP B tb U F xs n w O c) aa fun v10 ap ai=> ?_
 obtain ⟨⟨aq,rfl,V⟩,hE10⟩:=ai
 obtain ⟨E,G,rfl⟩:=cQ V
 have az:=hE10.size
 refine p mv<|p (xt aa aa)<|p (xt aa aa)<|e<|al ou fun ad aE av J ag=> ?_
 have aA:=J.size
 refine e<|cG mA aa aa aa aa (ag) (by simp) fun C I ae=> ?_
 have A:Wk ap C:=J.md.trans' I fun q ax h=>by omega
 have ay:=I.size
 have am:bE C.heap ad (dG (qg F n,.slice E (bY F n).length G)):=ae
 refine aw<|Z<|ak fun ac=>ao (aV tb)<|p (fa oS aa)<|p (ld lL aa<|am.bp 6)<|e<|cl ys (zS B tb U F xs (bY F n) E G 2 C (O.wk<|hE10.trans A) c ((aU V).2.wk A) (wu c n).1 (wu c n).2.1) aa fun aC aD aj=> ?_
 obtain ⟨an,ah⟩:=aj
 exact aw<|ac<|rt<|a6 aa<|⟨fk an ab,(hE10.trans A).trans ah⟩
theorem DE (B tb:Nat) (U:eS) (F:aB) (xs:List bh) (n:Int) (w:World) (ae:eA w B tb U F xs) (E:eJ F xs):
 ba au 90 (aX [aV tb,.int .i64 n]) w (fun v w'=>v= .bool (pV F n)∧Wk w w'):=by
 refine enter func90 aa ntmps90 aa<|ak fun ai=>aw<|ai<|ak fun aj=>ao (aV tb)<|ao (.int .i64 n)<|e<|cl CU (vP B tb U F xs n w ae E) aa fun v10 aD av=> ?_
 obtain ⟨⟨aF,rfl,ah⟩,hE10⟩:=av
 obtain ⟨V,Y,rfl⟩:=cQ ah
 have aK:=hE10.size
 refine p mv<|p (xt aa aa)<|p (xt aa aa)<|e<|al ou fun am aN aG ad ap=> ?_
 have aL:=ad.size
 refine e<|cG mA aa aa aa aa (ap) (by simp) fun A ac an=> ?_
 have Z:Wk aD A:=ad.md.trans' ac fun q aI h=>by omega
 have aJ:=ac.size
 have aA:bE A.heap am (dG (qg F n,.slice V (bY F n).length Y)):=an
 have G:=hE10.trans Z
 have ay:=ae.wk G
 refine aw<|aj<|az fun O=> ?_
 have c:(fun w'=>Wk A w') A.drew:=(Md.refl _ _).drew
 refine cD (fun w'=>Wk A w') aa wide c<|aR 0 aa (fun _ _=>mv) c<|aR 1 aa (fun _ _=>mv) c<|j9 (t:=14) aa (fun J=> ?_) fun J=> ?_
 refine bq 2 aa (fun _ _=>fa oS aa) c<|bq 3 aa (fun w' I=>ld lL aa<|Wk.aM I<|aA.bp 6) c<|bq 4 aa (fun _ _=>aH (aV tb) aa) c<|bq 5 aa (fun _ _=>nc aa) c<|bq 6 aa (fun _ _=>fa sN aa) c<|bq 7 aa (fun _ _=>fa vj aa) c<|bq 8 aa (fun _ _=>lu su aa aa ab) c<|bq 9 aa (fun w' I=>ld bW aa<|Wk.aM I<|G1 ay (k:=0) ab) c<|lr 10 aa ag aa aa aa<|cl CM (EK V Y (bY F n) (F.sp.getD 0 0) A.drew (((aU ah).2.wk Z).wk c)<|by have :=(wu E n).1; omega) aa fun v23 aE ax=> ?_
 obtain ⟨rfl,aq⟩:=ax
 have C:(fun w'=>Wk A w') aE:=c.trans aq
 refine ⟨C,?_⟩
 exact bq 11 aa (fun _ _=>no aa) C<|aR 12 aa (fun _ _=>bN aa) C<|aR 13 aa (fun _ _=>aC) C<|hn ag<|O<|rt<|a6 aa<|⟨by unfold pV; rw [decide_eq_true J,EL (wu E n).2.2]; rfl,G.trans C⟩
 exact bl 2 aa c<|bl 3 aa c<|bl 4 aa c<|bl 5 aa c<|bl 6 aa c<|bl 7 aa c<|bl 8 aa c<|bl 9 aa c<|bl 10 aa c<|bl 11 aa c<|aR 12 aa (fun _ _=>bH aa) c<|aR 13 aa (fun _ _=>aC) c<|hn ag<|O<|rt<|a6 aa<|⟨by unfold pV; rw [decide_eq_false J]; rfl,G.trans c⟩
theorem vA (B tb:Nat) (U:eS) (F:aB) (xs:List bh) (n k:Int) (w:World) (ad:eA w B tb U F xs) (I:eJ F xs):
 ba au 23 (aX [aV tb,.int .i64 n,.int .i64 k]) w (fun v w'=>v= .bool (gq F xs n k)∧Wk w w'):=by
 refine enter func23 aa ntmps23 aa<|ak fun ai=>aw<|ai<|ak fun aj=>p mv<|p mv<|e<|cl pT (q4 B tb U F xs n w ad I) aa fun v12 aE aq=> ?_
 obtain ⟨⟨a12,rfl,ah⟩,hE12⟩:=aq
 obtain ⟨O,V,rfl⟩:=cQ ah
 have aJ:=hE12.size
 refine p mv<|p (xt aa aa)<|p (xt aa aa)<|e<|al nH fun am aN aG ac ao=> ?_
 have aK:=ac.size
 refine e<|cG iR aa aa aa aa (ao) (by simp) fun A Z an=> ?_
 have Y:Wk aE A:=ac.md.trans' Z fun q aH h=>by omega
 have aI:=Z.size
 have ay:bE A.heap am [str (gQ xs n),.slice O (flagsOf xs n).length V]:=an
 have C:=hE12.trans Y
 have ax:=ad.wk C
 refine aw<|aj<|az fun E=> ?_
 have c:(fun w'=>Wk A w') A.drew:=(Md.refl _ _).drew
 refine cD (fun w'=>Wk A w') aa wide c<|aR 0 aa (fun _ _=>mv) c<|aR 1 aa (fun _ _=>mv) c<|j9 (t:=16) aa (fun ae=> ?_) fun ae=> ?_
 refine bq 2 aa (fun _ _=>mv) c<|bq 3 aa (fun _ _=>ge aa aa) c<|aR 4 aa (fun _ _=>bN aa) c<|aR 5 aa (fun _ _=>mv) c<|j9 (t:=20) aa (fun aA=> ?_) fun aA=> ?_
 refine bq 6 aa (fun _ _=>mv) c<|bq 7 aa (fun _ _=>lt aa aa) c<|aR 8 aa (fun _ _=>bN aa) c<|aR 9 aa (fun _ _=>mv) c<|j9 (t:=24) aa (fun aD=> ?_) fun aD=> ?_
 obtain ⟨k,rfl⟩:∃ m:Nat,k=(m:Int):=⟨k.toNat,ab⟩
 refine bq 10 aa (fun _ _=>fa p6 aa) c<|bq 11 aa (fun w' J=>ld lL aa<|Wk.aM J<|ay.bp 1) c<|bq 12 aa (fun _ _=>mv) c<|bq 13 aa (fun _ _=>mv) c<|bq 14 aa (fun _ _=>nc aa) c<|bq 15 aa (fun _ _=>fa sN aa) c<|bq 16 aa (fun _ _=>fa vj aa) c<|bq 17 aa (fun _ _=>lu su aa aa ab) c<|bq 18 aa (fun w' J=>ld bW aa<|Wk.aM J<|G1 ax ab) c<|lr 19 aa ag aa aa aa<|cl CM (EK O V (flagsOf xs n) (F.sp.getD k 0) A.drew (((aU ah).2.wk Y).wk c)<|by have :=(rH I n).1; omega) aa fun aL aF av=> ?_
 obtain ⟨rfl,ap⟩:=av
 have G:(fun w'=>Wk A w') aF:=c.trans ap
 refine ⟨G,?_⟩
 exact aR 20 aa (fun _ _=>bN aa) G<|aR 21 aa (fun _ _=>aC) G<|hn ag<|E<|rt<|a6 aa<|⟨by unfold gq rl; rw [decide_eq_true (show 0≤((k:Nat):Int)∧((k:Nat):Int) < 5 by omega),jx,EL (rH I n).2.2]; rfl,C.trans G⟩
 exact bl 10 aa c<|bl 11 aa c<|bl 12 aa c<|bl 13 aa c<|bl 14 aa c<|bl 15 aa c<|bl 16 aa c<|bl 17 aa c<|bl 18 aa c<|bl 19 aa c<|aR 20 aa (fun _ _=>bH aa) c<|aR 21 aa (fun _ _=>aC) c<|hn ag<|E<|rt<|a6 aa<|⟨by unfold gq; rw [decide_eq_false (show ¬(0≤k∧k < 5) by omega)]; rfl,C.trans c⟩
 exact bl 6 aa c<|bl 7 aa c<|aR 8 aa (fun _ _=>bH aa) c<|aR 9 aa (fun _ _=>mv) c<|bl 10 aa c<|bl 11 aa c<|bl 12 aa c<|bl 13 aa c<|bl 14 aa c<|bl 15 aa c<|bl 16 aa c<|bl 17 aa c<|bl 18 aa c<|bl 19 aa c<|aR 20 aa (fun _ _=>bH aa) c<|aR 21 aa (fun _ _=>aC) c<|hn ag<|E<|rt<|a6 aa<|⟨by unfold gq; rw [decide_eq_false (show ¬(0≤k∧k < 5) by omega)]; rfl,C.trans c⟩
 exact bl 2 aa c<|bl 3 aa c<|aR 4 aa (fun _ _=>bH aa) c<|aR 5 aa (fun _ _=>mv) c<|bl 6 aa c<|bl 7 aa c<|aR 8 aa (fun _ _=>bH aa) c<|aR 9 aa (fun _ _=>mv) c<|bl 10 aa c<|bl 11 aa c<|bl 12 aa c<|bl 13 aa c<|bl 14 aa c<|bl 15 aa c<|bl 16 aa c<|bl 17 aa c<|bl 18 aa c<|bl 19 aa c<|aR 20 aa (fun _ _=>bH aa) c<|aR 21 aa (fun _ _=>aC) c<|hn ag<|E<|rt<|a6 aa<|⟨by unfold gq rl; rw [(uA ae).2,decide_eq_false (show ¬(F.sp.getD k.toNat 0≠0∧F.sp.getD k.toNat 0∈[]) from fun h=>by cases h.2),xj]; rfl,C.trans c⟩
end Go.Hb.iP
section
namespace Go.Hb
open Go.Hb.iP
theorem zd {l:List Nat} {i:Nat} (h:i < l.length):(l.map fV)[i]? =some (fV<|l.getD i 0):=by rw [eR,cM,bZ h]; rfl
end Go.Hb
end
section
namespace Go.Hb
open Go.Hb.oI
theorem UD {ps:List Tx} {w:Tx} {i:Nat} (hi:i < ps.length) (h:eY (ps.getD i []) (w.getD i 0)=false):nz ps w=false :=by
 unfold nz
 rw [Bool.and_eq_false_iff]
 refine .inr ?_
 rw [List.all_eq_false]
 exact ⟨i,by simpa using hi,by rw [h]; exact dA⟩
theorem UF {ps:List Tx} {w:Tx} (c:ps.length≤w.length) (h:∀ i,i < ps.length→eY (ps.getD i []) (w.getD i 0)=true):nz ps w=true :=by
 unfold nz
 rw [gd,decide_eq_true c,jT]
 exact ⟨aa,fun i hi=>h i<|by simpa using hi⟩
theorem UE {ps:List Tx} {w:Tx} (h:w.length < ps.length):nz ps w=false :=by
 unfold nz; rw [decide_eq_false ab]; rfl
theorem PS (s pr:List UInt8) (w:World) (hs:s.length≤1099511627776) (hp:pr.length≤1099511627776):
 ba au 167 (aX [str s,str pr]) w (fun v w'=>v= .bool (decide (s.take pr.length=pr))∧Wk w w'):=by
 refine enter func167 aa ntmps167 aa<|ak fun c=>aw<|c<|ak fun A=>ao (str s)<|ao (str pr)<|e<|cl yj (zf s pr _ hs hp) aa fun G I E=> ?_
 obtain ⟨rfl,C⟩:=E
 exact aw<|A<|rt<|a6 aa<|⟨aa,C⟩
theorem PT (s pr:List UInt8) (w:World) (hs:s.length≤1099511627776) (hp:pr.length≤1099511627776):
 ba au 165 (aX [str s,str pr]) w (fun v w'=>v= .bool (decide (pr.length≤s.length∧s.drop (s.length - pr.length)=pr))∧Wk w w'):=by
 refine enter func165 aa ntmps165 aa<|ak fun c=>aw<|c<|ak fun A=>ao (str s)<|ao (str pr)<|e<|cl uK (vv s pr _ hs hp) aa fun G I E=> ?_
 obtain ⟨rfl,C⟩:=E
 exact aw<|A<|rt<|a6 aa<|⟨aa,C⟩
theorem SG (ps:List Tx) (a:Option Addr) (c:Nat) (i:Nat) (b:UInt8) (w:World) (E:aG w.heap a (j5 ps)) (hi:i < ps.length) (ag:ps.length≤4096):
 ba au 221 (aX [.agg [.slice a ps.length c].toArray,aj i,.int .u8 b.toNat]) w (fun v w'=>v= .bool (eY (ps.getD i []) b)∧Wk w w'):=by
 refine enter func221 aa ntmps221 aa<|ak fun I=>e<|iQ aa fun O G ac A V=> ?_
 have C:bE G.heap O [.slice a ps.length c]:=V
 refine aw<|I<|ak fun J=>ao (aj i)<|p (ge aa aa)<|p mv<|gs (t:=9) aa (fun ae=> ?_) fun h=>absurd ab h
 refine aK aa (aH (aj i) aa)<|aK aa (fa lh aa)<|aK aa (ld mm aa<|C.bp 0)<|aK aa (bM o7 aa aa)<|aK aa (lt aa aa)<|p (bN aa)<|p mv<|gs (t:=16) aa (fun ad=> ?_) fun h=>absurd ab h
 refine aK aa (fa lh aa)<|aK aa (ld mm aa<|C.bp 0)<|aK aa (aH (aj i) aa)<|aK aa (a7 DK aa aa ab<|aG.ok (E.wk A.md)<|C9 ab)<|aK aa (cK jF aa (aa)<|C8 (E.wk A.md) hi)<|aK aa (aH (.int .u8 b.toNat) aa)<|eg aa aa aa<|cl ym (EM (eY<|ps.getD i []) b G) aa fun v23 ah Z=> ?_
 obtain ⟨rfl,Y⟩:=Z
 exact p (bN aa)<|aw<|J<|rt<|a6 aa<|⟨aa,A.md.trans Y⟩
theorem Gb (ps:List Tx) (a:Option Addr) (c:Nat) (s:Tx) (w:World) (aF:aG w.heap a (j5 ps)) (aL:ps.length≤4096):
 ba au 168 (aX [.agg [.slice a ps.length c].toArray,str s]) w (fun v w'=>v= .bool (nz ps s)∧Wk w w'):=by
 refine enter func168 aa ntmps168 aa<|ak fun am=>e<|iQ aa fun ac al aT I aD=> ?_
 have V:bE al.heap ac [.slice a ps.length c]:=aD
 refine aw<|am<|az fun aq=>ak fun av=>ao (str s)<|p (dv u9 aa aa)<|p (fa lh aa)<|p (ld mm aa<|V.bp 0)<|p (bM o7 aa aa)<|p (lt aa aa)<|nl<|av<|cd aa (fun aJ=> ?_) fun aJ=> ?_
 exact ak fun J=>aw<|J<|rt<|tr<|a6 aa<|⟨by rw [UE ab]; rfl,I.md⟩
 refine aQ<|aq<|az fun J=>ak fun ax=>p (fa lh aa)<|p (ld mm aa<|V.bp 0)<|p (bM o7 aa aa)<|p mv<|nl<|ax<|aE<|lp (fun ae G C=> ∃ (i:Nat),(i≤ps.length)∧(∀ k,k < i→eY (ps.getD k []) (s.getD k 0)=true)∧(Wk al C)∧(G 1=str s)∧(G 2=aV ac)∧(G 14=aj (ps.length))∧(G 15=aj i)∧(ps.length - i=ae)) _ ⟨0,ab,(fun k hk=>absurd hk<|Nat.not_lt_zero _),(Md.refl _ _),aa,aa,aa,aa,aa⟩ ?_
 rintro ae G C ⟨i,hi,ai,E,aM,aP,aN,aO,rfl⟩
 refine fx 1 aM<|fx 2 aP<|fx 14 aN<|fx 15 aO<|ak fun ay=>p (lt aa aa)<|nl<|ay<|az fun aA=>cd aa (fun aK=> ?_) fun aK=> ?_
 refine aQ<|aA<|az fun O=>aE<|ak fun aB=>ao (aj i)<|p (bV (aj i) aa)<|nl<|aB<|az fun an=> ?_
 have A:(fun w'=>Wk C w') C.drew:=(Md.refl _ _).drew
 refine cD (fun w'=>Wk C w') aa wide A<|aR 0 aa (fun w' aI=>cK lK aa (aa) fun j aU=>(Wk.B aI<|Wk.B E V).bp j) A<|bT 1 aa (aj i) A<|bT 2 aa (str s) A<|bT 3 aa (aj i) A<|aR 4 aa (fun _ _=>jL u9 aa aa ab) A<|he 5 aa ag<|cl KQ (SG ps a c i (s.getD i 0) C.drew (aF.wk<|I.md.trans<|E.trans A) ab aL) aa fun v23 aS aH=> ?_
 obtain ⟨rfl,Y⟩:=aH
 have ah:(fun w'=>Wk C w') aS:=A.trans Y
 refine ⟨ah,?_⟩
 refine aR 6 aa (fun _ _=>no aa) ah<|hn ag<|an<|cb aa (fun Z=> ?_) fun Z=> ?_
 exact ak fun ap=>aw<|ap<|rt<|br<|tr<|tr<|br<|tr<|a6 aa<|⟨by rw [UD (i:=i) ab (by simpa using Z)]; rfl,I.md.trans<|E.trans<|A.trans Y⟩
 exact aQ<|bn<|O<|rg aa<|p (ad aa aa<|cH ab)<|p mv<|nl<|tn<|⟨_,ab,i+1,ab,(fun k hk=>by rcases nQ.1 hk with h | rfl; exact ai k h; simpa using Z),(E.trans<|A.trans Y),aa,aa,aa,aa,aa⟩
 exact ext<|bc<|bc<|be<|J<|ak fun O=>p aC<|nl<|O<|rt<|a6 aa<|⟨by rw [UF ab (fun k hk=>ai k ab)]; rfl,I.md.trans E⟩
section
variable {r:cC} {s:Tx}
theorem O4 (h:(dP r.cond).2≠0):gl r s=false :=by unfold gl; rw [decide_eq_false (fun h2=>h h2.1)]; rfl
theorem O5 (h:s.length≤r.strip.length):gl r s=false :=by unfold gl; rw [decide_eq_false (fun h2=>by omega)]; rfl
variable (h:(dP r.cond).2=0) (h1:r.strip.length < s.length)
include h h1
theorem D6 (hk:r.kind=2):gl r s=(decide (s.drop (s.length - r.strip.length)=r.strip) && sH (dP r.cond).1 s):=by unfold gl; rw [decide_eq_true ⟨h,h1⟩,if_pos hk]; rfl
theorem D5 (hk:r.kind=1):gl r s=(decide (s.take r.strip.length=r.strip) && nz (dP r.cond).1 s):=by unfold gl; rw [decide_eq_true ⟨h,h1⟩,if_neg ab,if_pos hk]; rfl
omit h h1 in
theorem O3 (hk:r.kind≠1) (c:r.kind≠2):gl r s=false :=by unfold gl; rw [if_neg c,if_neg hk,xj]
end
theorem SO (ps:List Tx) (a:Option Addr) (c:Nat) (s:Tx) (w:World) (ac:aG w.heap a (j5 ps)) (ai:ps.length≤4096) (an:s.length≤1073741824):
 ba au 166 (aX [.agg [.slice a ps.length c].toArray,str s]) w (fun v w'=>v= .bool (sH ps s)∧Wk w w'):=by
 refine enter func166 aa ntmps166 aa<|ak fun V=>e<|iQ aa fun Y C al J Z=> ?_
 have I:bE C.heap Y [.slice a ps.length c]:=Z
 refine aw<|V<|az fun O=> ?_
 have A:(fun w'=>Wk C w') C.drew:=(Md.refl _ _).drew
 refine cD (fun w'=>Wk C w') aa wide A<|bT 0 aa (str s) A<|aR 1 aa (fun _ _=>dv u9 aa aa) A<|aR 2 aa (fun _ _=>fa lh aa) A<|aR 3 aa (fun w' E=>ld mm aa<|Wk.aM E<|I.bp 0) A<|aR 4 aa (fun _ _=>bM o7 aa aa) A<|aR 5 aa (fun _ _=>ge aa aa) A<|aR 6 aa (fun _ _=>mv) A<|j9 (t:=11) aa (fun ah=> ?_) fun ah=> ?_
 refine bq 7 aa (fun w' E=>cK lK aa (aa) fun j am=>(Wk.B E I).bp j) A<|bq 8 aa (fun _ _=>aH (str s) aa) A<|bq 9 aa (fun _ _=>aH (str s) aa) A<|bq 10 aa (fun _ _=>dv u9 aa aa) A<|bq 11 aa (fun _ _=>fa lh aa) A<|bq 12 aa (fun w' E=>ld mm aa<|Wk.aM E<|I.bp 0) A<|bq 13 aa (fun _ _=>bM o7 aa aa) A<|bq 14 aa (fun _ _=>c6 ((s.length - ps.length:Nat):Int) aa aa<|bf ab ab) A<|bq 15 aa (fun _ _=>oo u9 aa aa ab) A<|lr 16 aa ag aa aa aa<|cl Cp (Gb ps a c (s.drop<|s.length - ps.length) C.drew (ac.wk<|J.md.trans A) ai) aa fun v21 aj ae=> ?_
 obtain ⟨rfl,ad⟩:=ae
 have G:(fun w'=>Wk C w') aj:=A.trans ad
 refine ⟨G,?_⟩
 exact aR 17 aa (fun _ _=>bN aa) G<|aR 18 aa (fun _ _=>aC) G<|hn ag<|O<|rt<|a6 aa<|⟨by unfold sH; rw [decide_eq_true (show ps.length≤s.length by omega)]; rfl,J.md.trans G⟩
 exact bl 7 aa A<|bl 8 aa A<|bl 9 aa A<|bl 10 aa A<|bl 11 aa A<|bl 12 aa A<|bl 13 aa A<|bl 14 aa A<|bl 15 aa A<|bl 16 aa A<|aR 17 aa (fun _ _=>bH aa) A<|aR 18 aa (fun _ _=>aC) A<|hn ag<|O<|rt<|a6 aa<|⟨by unfold sH; rw [decide_eq_false (show ¬ps.length≤s.length by omega)]; rfl,J.md.trans A⟩
theorem D7 (r:cC) (u:Value) (s:Tx) (w:World) (bg:r.strip.length≤1048576) (bb:r.add.length≤1048576) (aZ:r.cond.length≤1048576) (a1:s.length≤1073741824):
 ba au 104 (aX [.agg (dG (r,u)).toArray,str s]) w (fun v w'=>v= .bool (gl r s)∧Wk w w'):=by
 refine enter func104 aa ntmps104 aa<|ak fun aq=>e<|iQ aa fun aB ap a5 aj aF=> ?_
 have bf:((r,u):cC×Value).1.strip.length=r.strip.length:=rfl
 have bd:((r,u):cC×Value).1.kind=r.kind:=rfl
 have bc:((r,u):cC×Value).1.add.length=r.add.length:=rfl
 have ag:bE ap.heap aB (dG (r,u)):=aF
 refine aw<|aq<|ak fun av=>p (fa Ej aa)<|p (ld cB aa<|ag.bp 5)<|e<|cl Co (Dh r.cond ap aZ) aa fun v10 a2 aN=> ?_
 obtain ⟨⟨ac,rfl,an⟩,hE10⟩:=aN
 obtain ⟨a,c,rfl⟩:=cQ an
 have ai:=(aU an).2
 have a8:=Dg r.cond
 have bi:=aj.size
 have bh:=hE10.size
 refine p mv<|p (xt aa aa)<|p (xt aa aa)<|e<|al wY fun aC bo a7 am aG=> ?_
 have bj:=am.size
 refine e<|cG oO aa aa aa aa (aG) (by simp) fun Y aM aD=> ?_
 have J:Wk a2 Y:=am.md.trans' aM fun q a9 h=>by omega
 have ah:bE Y.heap aC [.slice a (dP r.cond).1.length c]:=aD
 have I:=Wk.B (hE10.trans J) ag
 have A:=aj.md.trans<|hE10.trans J
 refine aw<|av<|az fun ax=>ak fun ae=>p mv<|p (gu aa aa)<|p mv<|gs (t:=15) aa (fun aT=> ?_) fun aT=> ?_
 refine aJ aa<|aJ aa<|aJ aa<|aJ aa<|aJ aa<|aJ aa<|p (bN aa)<|nl<|ae<|ct aa<|ak fun C=>aw<|C<|rt ?_
 exact tr<|a6 aa<|⟨by rw [O4 ab]; rfl,A⟩
 refine aK aa (aH (str s) aa)<|aK aa (dv u9 aa aa)<|aK aa (fa oR aa)<|aK aa (ld cB aa<|I.bp 3)<|aK aa (dv u9 aa aa)<|aK aa (le aa aa)<|p (bH aa)<|nl<|ae<|cd aa (fun a0=> ?_) fun a0=> ?_
 exact ak fun C=>aw<|C<|rt<|tr<|a6 aa<|⟨by rw [O5 ab]; rfl,A⟩
 refine aQ<|ax<|az fun C=>ak fun ay=>p (fa sO aa)<|p (ld bR aa<|I.bp 0)<|nl<|ay<|aE<|ak fun aA=>p (cg aa aa)<|aw<|aA ?_
 refine cd aa (fun aY=> ?_) fun aY=> ?_
 refine ak fun E=>ao (str s)<|p (fa oR aa)<|p (ld cB aa<|I.bp 3)<|e<|cl KD (PT s r.strip Y ab ab) aa fun v30 a3 aO=> ?_
 obtain ⟨rfl,O⟩:=aO
 refine p mv<|gb (t:=31) aa (fun ad=> ?_) fun ad=> ?_
 refine aK aa (cK lK aa (aa) fun j aV=>(Wk.B O ah).bp j)<|aK aa (aH (str s) aa)<|eg aa aa aa<|cl KE (SO (dP r.cond).1 a c s a3 (ai.wk<|J.trans O) ab a1) aa fun bk bl aP=> ?_
 obtain ⟨rfl,aI⟩:=aP
 exact p (bN aa)<|aw<|E<|rt<|br<|tr<|a6 aa<|⟨by rw [D6 ab ab ab,decide_eq_true (of_decide_eq_true ad).2]; rfl,A.trans<|O.trans aI⟩
 exact aJ aa<|aJ aa<|aJ aa<|p (bH aa)<|aw<|E<|rt<|br<|tr<|a6 aa<|⟨by rw [D6 ab ab ab,decide_eq_false (fun h=>of_decide_eq_false ad ⟨ab,h⟩)]; rfl,A.trans O⟩
 refine ak fun E=>p (cg aa aa)<|aw<|E<|cd aa (fun aW=> ?_) fun aW=> ?_
 refine ak fun G=>ao (str s)<|p (fa oR aa)<|p (ld cB aa<|I.bp 3)<|e<|cl KF (PS s r.strip Y ab ab) aa fun v41 a4 aR=> ?_
 obtain ⟨rfl,V⟩:=aR
 refine p mv<|gb (t:=42) aa (fun Z=> ?_) fun Z=> ?_
 refine aK aa (cK lK aa (aa) fun j aV=>(Wk.B V ah).bp j)<|aK aa (aH (str s) aa)<|eg aa aa aa<|cl Cp (Gb (dP r.cond).1 a c s a4 (ai.wk<|J.trans V) ab) aa fun v45 bm aS=> ?_
 obtain ⟨rfl,aL⟩:=aS
 exact p (bN aa)<|aw<|G<|rt<|br<|tr<|a6 aa<|⟨by rw [D5 ab ab ab,Z]; rfl,A.trans<|V.trans aL⟩
 exact aJ aa<|aJ aa<|aJ aa<|p (bH aa)<|aw<|G<|rt<|br<|tr<|a6 aa<|⟨by rw [D5 ab ab ab,Z]; rfl,A.trans V⟩
 exact aQ<|bn<|C<|ak fun G=>aw<|G<|rt<|a6 aa<|⟨by rw [O3 ab ab]; rfl,A⟩
def jR (s p:Tx):Tx:=if p.length≤s.length∧s.drop (s.length - p.length)=p then s.take (s.length - p.length) else s
theorem B5 {r:cC} {s:Tx} (h:gl r s=false):fW r s=none:=if_neg<|by rw [h]; exact dA
theorem vd {r:cC} {s:Tx} (h:gl r s=true):r.strip.length < s.length∧(r.kind=2→s.drop (s.length - r.strip.length)=r.strip)∧(r.kind≠2→s.take r.strip.length=r.strip):=by
 unfold gl at h
 rw [gd,decide_eq_true_eq] at h
 refine ⟨h.1.2,fun hk=> ?_,fun hk=> ?_⟩
 · have h2:=h.2; rw [if_pos hk,gd] at h2; exact of_decide_eq_true h2.1
 · have h2:=h.2; rw [if_neg hk] at h2
   split at h2
   · rw [gd] at h2; exact of_decide_eq_true h2.1
   · cases h2
theorem JP {r:cC} {s:Tx} (h:gl r s=true) (hk:r.kind=2):fW r s=some (jR s r.strip++r.add):=by
 have h1:=vd h
 unfold fW jR; rw [if_pos h,if_pos hk,if_pos ⟨ab,h1.2.1 hk⟩]
theorem JN {r:cC} {s:Tx} (h:gl r s=true) (hk:r.kind≠2):fW r s=some (r.add++eG s r.strip):=by
 have h1:=vd h
 unfold fW eG; rw [if_pos h,if_neg hk,if_pos (h1.2.2 hk)]
theorem JQ {r:cC} {s:Tx} (h:gl r s=true) (hk:r.kind=2):fW r s=some (s.take (s.length - r.strip.length)++r.add):=by
 unfold fW; rw [if_pos h,if_pos hk]
theorem JO {r:cC} {s:Tx} (h:gl r s=true) (hk:r.kind≠2):fW r s=some (r.add++s.drop r.strip.length):=by
 unfold fW; rw [if_pos h,if_neg hk]
def vJ (x:Option Tx):Value:= .tuple #[str (x.getD []),.bool x.isSome]
theorem Vf (s pr:List UInt8) (w:World) (hs:s.length≤1099511627776) (hp:pr.length≤1099511627776):
 ba au 209 (aX [str s,str pr]) w (fun v w'=>v=str (jR s pr)∧Wk w w'):=by
 refine enter func209 aa ntmps209 aa<|ak fun G=>aw<|G<|az fun I=>ak fun J=>ao (str s)<|ao (str pr)<|e<|cl uK (vv s pr _ hs hp) aa fun V Y O=> ?_
 obtain ⟨rfl,E⟩:=O
 refine nl<|J<|cb aa (fun A=> ?_) fun A=> ?_
 have C:=of_decide_eq_true A
 exact ak fun c=>ao (str s)<|ao (str s)<|p (dv u9 aa aa)<|ao (str pr)<|p (dv u9 aa aa)<|p (c6 ((s.length - pr.length:Nat):Int) aa aa<|bf ab ab)<|p (rC u9 aa aa ab)<|aw<|c<|rt<|tr<|a6 aa<|⟨by show str (s.take (((s.length - pr.length:Nat):Int)).toNat)=_; unfold jR; rw [if_pos C]; rfl,E⟩
 have C:=of_decide_eq_false A
 exact aQ<|I<|ak fun c=>ao (str s)<|p (bV (str s) aa)<|nl<|c<|rt<|a6 aa<|⟨by show str s=_; unfold jR; rw [if_neg C],E⟩
theorem Vg (s pr:List UInt8) (w:World) (hs:s.length≤1099511627776) (hp:pr.length≤1099511627776):
 ba au 145 (aX [str s,str pr]) w (fun v w'=>v=str (jR s pr)∧Wk w w'):=by
 refine enter func145 aa ntmps145 aa<|ak fun c=>aw<|c<|ak fun A=>ao (str s)<|ao (str pr)<|e<|cl Cz (Vf s pr _ hs hp) aa fun G I E=> ?_
 obtain ⟨rfl,C⟩:=E
 exact aw<|A<|rt<|a6 aa<|⟨aa,C⟩
theorem JR (r:cC) (u:Value) (s:Tx) (w:World) (aF:r.strip.length≤1048576) (aD:r.add.length≤1048576) (aE:r.cond.length≤1048576) (aG:s.length≤1073741824):
 ba au 89 (aX [.agg (dG (r,u)).toArray,str s]) w (fun v w'=>v=vJ (fW r s)∧Wk w w'):=by
 refine enter func89 aa ntmps89 aa<|ak fun ai=>e<|iQ aa fun an ah aJ ax ap=> ?_
 have aP:((r,u):cC×Value).1.strip.length=r.strip.length:=rfl
 have aO:((r,u):cC×Value).1.kind=r.kind:=rfl
 have aN:((r,u):cC×Value).1.add.length=r.add.length:=rfl
 have ad:bE ah.heap an (dG (r,u)):=ap
 refine p aC<|aw<|ai<|az fun aj=>ak fun al=>p (cK j0 aa (aa) fun j aL=>ad.bp j)<|ao (str s)<|e<|cl Cg (D7 r u s ah aF aD aE aG) aa fun aT c aB=> ?_
 obtain ⟨rfl,ae⟩:=aB
 have J:=Wk.B ae ad
 have Z:=ax.md.trans ae
 refine p (no aa)<|nl<|al<|cb aa (fun ac=> ?_) fun ac=> ?_
 have O:gl r s=false :=by simpa using ac
 exact ak fun V=>p aC<|aw<|V<|rt<|tr<|f2 aa aa aa<|⟨by rw [B5 O]; rfl,Z⟩
 have O:gl r s=true :=by simpa using ac
 have aK:=(vd O).1
 refine aQ<|aj<|az fun V=>ak fun am=>p (fa sO aa)<|p (ld bR aa<|J.bp 0)<|p (cg aa aa)<|nl<|am<|cd aa (fun hk=> ?_) fun hk=> ?_
 refine az fun Y=> ?_
 have C:(fun w'=>Wk c w') c.drew:=(Md.refl _ _).drew
 refine cD (fun w'=>Wk c w') aa wide C<|bT 0 aa (str s) C<|aR 1 aa (fun _ _=>fa oR aa) C<|aR 2 aa (fun w' A=>ld cB aa<|Wk.aM A<|J.bp 3) C<|aR 4 aa (fun _ _=>fa sQ aa) C<|aR 5 aa (fun w' A=>ld cB aa<|Wk.aM A<|J.bp 4) C<|he 3 aa ag<|cl Cm (Vg s r.strip c.drew ab ab) aa fun aS aH ay=> ?_
 obtain ⟨rfl,aq⟩:=ay
 have G:(fun w'=>Wk c w') aH:=C.trans aq
 refine ⟨G,?_⟩
 exact aR 6 aa (fun _ _=>cc aa aa (by have :(jR s r.strip).length≤s.length:=(by unfold jR; split <;> simp <;> omega); omega)) G<|aR 7 aa (fun _ _=>aC) G<|aR 8 aa (fun _ _=>aC) G<|hn ag<|Y<|rt<|tr<|f2 aa aa aa<|⟨by rw [JP O ab]; rfl,Z.trans G⟩
 refine aQ<|V<|az fun Y=> ?_
 have E:(fun w'=>Wk c w') c.drew:=(Md.refl _ _).drew
 refine cD (fun w'=>Wk c w') aa wide E<|aR 0 aa (fun _ _=>fa sQ aa) E<|aR 1 aa (fun w' A=>ld cB aa<|Wk.aM A<|J.bp 4) E<|bT 2 aa (str s) E<|aR 3 aa (fun _ _=>fa oR aa) E<|aR 4 aa (fun w' A=>ld cB aa<|Wk.aM A<|J.bp 3) E<|he 5 aa ag<|cl Cn (G2 s r.strip c.drew ab ab) aa fun v25 aI aA=> ?_
 obtain ⟨rfl,av⟩:=aA
 have I:(fun w'=>Wk c w') aI:=E.trans av
 refine ⟨I,?_⟩
 exact aR 6 aa (fun _ _=>cc aa aa (by have :(eG s r.strip).length≤s.length:=(by unfold eG; split <;> simp); omega)) I<|aR 7 aa (fun _ _=>aC) I<|aR 8 aa (fun _ _=>aC) I<|hn ag<|Y<|rt<|f2 aa aa aa<|⟨by rw [JN O ab]; rfl,Z.trans I⟩
end Go.Hb
end
section
namespace Go.Hb
open Go.Hb.iP
def dz (d:bF):List Value:= [str d.ga,.int .i64 (d.ca:Nat),.int .i64 d.fst,.int .i64 d.snd,.int .i64 d.pre]
def e5 (l:List bF):List Value:=l.flatMap dz
theorem pP {h:Array Obj} {b e:Nat} {L:List Value} (c:h[b]? =some (.cells L.toArray e (0,0))):bE h b L:=⟨e,c⟩
def Rn (F:aB) (n:Int):Prop :=n= -1∨(0≤n∧n < F.rules.length)
section
variable {F:aB} {xs:List bh} {e:Nat} {f s p:Int}
theorem PN (c:f= -1) (hp:p= -1):fi F xs e f s p= !rl F xs e 0:=by unfold fi; rw [if_pos c,decide_eq_false (fun h=>h hp)]; rfl
theorem PO (c:f= -1) (hp:p≠ -1):fi F xs e f s p=true :=by unfold fi; rw [if_pos c,decide_eq_true hp]; rfl
theorem EI (c:f≠ -1) (h:pV F (if s= -1 then f else s)=false):fi F xs e f s p=false :=by unfold fi; rw [if_neg c,if_pos h]
theorem EH (c:f≠ -1) (h:pV F (if s= -1 then f else s)=true) (hp:p= -1):fi F xs e f s p=true :=by unfold fi; rw [if_neg c,if_neg (by rw [h]; exact dA),decide_eq_true hp]; rfl
theorem rh (c:f≠ -1) (h:pV F (if s= -1 then f else s)=true) (hp:p≠ -1):fi F xs e f s p=(ng F f && ng F s && ng F p):=by unfold fi; rw [if_neg c,if_neg (by rw [h]; exact dA),decide_eq_false hp]; rfl
theorem M9:ng F (-1)=true :=by unfold ng; rw [decide_eq_true rfl]; rfl
theorem sD {k:Nat} {r:cC} (c:F.rules[k]? =some r):ng F k=r.fX:=by
 unfold ng
 rw [decide_eq_false ab,jx,cM,c]; rfl
end
theorem RB (F:aB) (xs:List bh) (e:Int):gq F xs e 0=rl F xs e 0:=rfl
structure Jb where
 ar:Option Addr
 cr:Nat
 rn:List Value
 ap:Option Addr
 cp:Nat
section
variable {w w':World} {fp fp':Nat→Prop} {S0 mb tb l:Nat} {K:Jb} {F:aB} {e:Int} {word:Tx} {ps:List Nat}
end
theorem PQ (B tb:Nat) (U:eS) (F:aB) (xs:List bh) (ar:Option Addr) (cr:Nat) (rn:List Value) (word:Tx) (en:Nat) (f s pp:Int) (w:World) (a4:eA w B tb U F xs) (aL:eJ F xs) (aZ:aG w.heap ar (fP<|F.rules.zip rn)) (aq:rn.length=F.rules.length) (al:Rn F f) (hs:Rn F s) (hp:Rn F pp):
 ba au 49 (aX [aV tb,.slice ar F.rules.length cr,.agg (dz ⟨word,en,f,s,pp⟩).toArray]) w (fun v w'=>v= .bool (fi F xs en f s pp)∧Wk w w'):=by
 refine enter func49 aa ntmps49 aa<|ak fun aU=>e<|iQ aa fun aW aA c aH aY=> ?_
 have bi:=aH.size
 have ad:=a4.wk aH.md
 have c:bE aA.heap aW [str word,aj en,.int .i64 f,.int .i64 s,.int .i64 pp]:=aY
 have C:Wk w aA:=aH.md
 have O:=aZ.wk aH.md
 refine aw<|aU<|az fun aO=>aE<|ak fun aP=>p (fa lk aa)<|p (ld bR aa<|c.bp 2)<|p (lt aa aa)<|p mv<|gs (t:=11) aa (fun aM=> ?_) fun aM=> ?_
 refine aK aa (fa oa aa)<|aK aa (ld bR aa<|c.bp 4)<|aK aa (lt aa aa)<|p (bN aa)<|aw<|aP<|cd aa (fun bf=> ?_) fun bf=> ?_
 refine ak fun am=>p mv<|p (fa lj aa)<|p (ld bR aa<|c.bp 1)<|e<|cl uL (vA B tb U F xs (en:Nat) 0 aA ad aL) aa fun bj bl a1=> ?_
 obtain ⟨rfl,a0⟩:=a1
 refine p (no aa)<|aw<|am<|rt<|br<|tr<|a6 aa ?_
 have A:fi F xs en f s pp= !gq F xs en 0:=by rw [PN (by unfold Rn at al; omega) (by unfold Rn at hp; omega),RB]
 exact ⟨Eq.trans (b:=bO<|!gq F xs en 0) aa (congrArg bO A.symm),C.trans a0⟩
 refine ak fun am=>p (fa lk aa)<|p (ld bR aa<|c.bp 2)<|p (lt aa aa)<|aw<|am<|cd aa (fun a5=> ?_) fun h=>absurd aM h
 refine ak fun an=>aw<|an<|rt<|br<|tr<|a6 aa ?_
 have A:fi F xs en f s pp=true :=by exact PO (by unfold Rn at al; omega) ab
 exact ⟨Eq.trans (b:=bO<|true) aa (congrArg bO A.symm),C⟩
 refine aJ aa<|aJ aa<|aJ aa<|p (bH aa)<|aw<|aP<|cf aa<|ak fun am=>p (fa lk aa)<|p (ld bR aa<|c.bp 2)<|p (lt aa aa)<|aw<|am<|cd aa (fun h=>absurd h aM) fun a5=> ?_
 refine az fun an=>ak fun aS=>p (fa ll aa)<|p (ld bR aa<|c.bp 3)<|p (lt aa aa)<|p mv<|gs (t:=29) aa (fun aN=> ?_) fun aN=> ?_
 refine aK aa mv<|aK aa (fa lk aa)<|aK aa (ld bR aa<|c.bp 2)<|eg aa aa aa<|cl CV (DE B tb U F xs f aA ad aL) aa fun v33 bm a2=> ?_
 obtain ⟨rfl,aD⟩:=a2
 have ad:=ad.wk aD
 have c:=Wk.B aD c
 have C:=C.trans aD
 have O:=O.wk aD
 refine aK aa (no aa)<|p (bN aa)<|aw<|aS<|cb aa (fun E=> ?_) fun E=> ?_
 refine aQ<|an<|ct (congrArg bO E)<|ak fun ac=>aw<|ac<|rt<|br<|tr<|a6 aa ?_
 have A:fi F xs en f s pp=false :=by exact EI ab<|by rw [if_pos (show s= -1 by unfold Rn at hs; omega)]; simpa using E
 exact ⟨Eq.trans (b:=bO<|false) aa (congrArg bO A.symm),C⟩
 refine rg aa<|p (fa ll aa)<|p (ld bR aa<|c.bp 3)<|p (ge aa aa)<|p mv<|gs (t:=39) aa (fun h=>absurd h ab) fun a9=>aJ aa<|aJ aa<|aJ aa<|aJ aa<|aJ aa<|p (bH aa)<|p aC<|nl<|an<|cf aa<|ak fun ac=>p (fa oa aa)<|p (ld bR aa<|c.bp 4)<|p (lt aa aa)<|p aC ?_
 refine nl<|ac<|cd aa (fun aR=> ?_) fun aR=> ?_
 refine ak fun J=>aw<|J<|rt<|br<|tr<|a6 aa ?_
 have A:fi F xs en f s pp=true :=by exact EH ab (by rw [if_pos (show s= -1 by unfold Rn at hs; omega)]; simpa using E)<|by unfold Rn at hp; omega
 exact ⟨Eq.trans (b:=bO<|true) aa (congrArg bO A.symm),C⟩
 obtain ⟨I,rfl⟩:∃ m:Nat,pp=(m:Int):=⟨(pp).toNat,by unfold Rn at hp; omega⟩
 obtain ⟨ah,Y⟩:∃ r,F.rules[I]? =some r:=⟨_,bZ<|by unfold Rn at hp; omega⟩
 have ax:(F.rules.zip rn)[I]? =some (ah,rn[I]'(by rw [aq]; exact (eu.1 Y).1)):=jh.2 ⟨Y,bZ _⟩
 have ap:=sD Y
 have bd:=(eu.1 Y).1
 obtain ⟨G,rfl⟩:∃ m:Nat,f=(m:Int):=⟨(f).toNat,by unfold Rn at al; omega⟩
 obtain ⟨rf,V⟩:∃ r,F.rules[G]? =some r:=⟨_,bZ<|by unfold Rn at al; omega⟩
 have av:(F.rules.zip rn)[G]? =some (rf,rn[G]'(by rw [aq]; exact (eu.1 V).1)):=jh.2 ⟨V,bZ _⟩
 have ao:=sD V
 have bc:=(eu.1 V).1
 have ai:=O
 refine aQ<|bn<|aO<|ak fun J=>p mv<|p (fa oa aa)<|p (ld bR aa<|c.bp 4)<|p (a7 lg aa aa ab<|aG.ok (O)<|lZ ax)<|p (fa sP aa)<|p (ld oJ aa<|gY (f:=dG) (m:=7) (fun _=>rfl) ai ax 2 ay)<|p mv<|gb (t:=56) aa (fun ag=> ?_) fun ag=> ?_
 refine aK aa mv<|aK aa (fa lk aa)<|aK aa (ld bR aa<|c.bp 2)<|aK aa (a7 lg aa aa ab<|aG.ok (O)<|lZ av)<|aK aa (fa sP aa)<|aK aa (ld oJ aa<|gY (f:=dG) (m:=7) (fun _=>rfl) ai av 2 ay)<|p (bN aa)<|p mv<|gb (t:=64) aa (fun ae=> ?_) fun ae=> ?_
 refine aK aa (fa ll aa)<|aK aa (ld bR aa<|c.bp 3)<|aK aa (lt aa aa)<|aK aa mv<|gs (t:=68) aa (fun bb=> ?_) fun h=>absurd aN h
 refine aJ aa<|aJ aa<|aJ aa<|aJ aa<|aJ aa<|aJ aa<|aK aa (bN aa)<|p (bN aa)<|aw<|J<|rt<|a6 aa ?_
 have A:fi F xs en ((G:Nat):Int) s ((I:Nat):Int)=true :=by rw [rh ab (by rw [if_pos (show s= -1 by unfold Rn at hs; omega)]; simpa using E) ab,ao,ap,show s= -1 by (unfold Rn at hs; omega),M9,(show rf.fX=true from ae),(show ah.fX=true from ag)]; rfl
 exact ⟨Eq.trans (b:=bO<|true) aa (congrArg bO A.symm),C⟩
 refine aJ aa<|aJ aa<|aJ aa<|aJ aa<|fA aa<|fA aa<|fA aa<|fA aa<|fA aa<|fA aa<|aJ aa<|p (bH aa)<|aw<|J<|rt<|a6 aa ?_
 have A:fi F xs en ((G:Nat):Int) s ((I:Nat):Int)=false :=by rw [rh ab (by rw [if_pos (show s= -1 by unfold Rn at hs; omega)]; simpa using E) ab,ao,(show rf.fX=false from ae)]; rfl
 exact ⟨Eq.trans (b:=bO<|false) aa (congrArg bO A.symm),C⟩
 refine aJ aa<|aJ aa<|aJ aa<|aJ aa<|aJ aa<|aJ aa<|p (bH aa)<|p mv<|aJ aa<|aJ aa<|aJ aa<|aJ aa<|fA aa<|fA aa<|fA aa<|fA aa<|fA aa<|fA aa<|aJ aa<|p (bH aa)<|aw<|J<|rt<|a6 aa ?_
 have A:fi F xs en ((G:Nat):Int) s ((I:Nat):Int)=false :=by rw [rh ab (by rw [if_pos (show s= -1 by unfold Rn at hs; omega)]; simpa using E) ab,ap,(show ah.fX=false from ag),xj]
 exact ⟨Eq.trans (b:=bO<|false) aa (congrArg bO A.symm),C⟩
 refine aJ aa<|aJ aa<|aJ aa<|aJ aa<|aJ aa<|p (bH aa)<|p aC<|nl<|aS<|cf aa<|rg aa<|p (fa ll aa)<|p (ld bR aa<|c.bp 3)<|p (ge aa aa)<|p mv<|gs (t:=39) aa (fun a9=> ?_) fun h=>absurd ab h
 refine aK aa mv<|aK aa (fa ll aa)<|aK aa (ld bR aa<|c.bp 3)<|eg aa aa aa<|cl CV (DE B tb U F xs s aA ad aL) aa fun bk bo a3=> ?_
 obtain ⟨rfl,aF⟩:=a3
 have ad:=ad.wk aF
 have c:=Wk.B aF c
 have C:=C.trans aF
 have O:=O.wk aF
 refine aK aa (no aa)<|p (bN aa)<|aw<|an<|cb aa (fun E=> ?_) fun E=> ?_
 refine ak fun ac=>aw<|ac<|rt<|br<|tr<|a6 aa ?_
 have A:fi F xs en f s pp=false :=by exact EI ab<|by rw [if_neg (show ¬s= -1 by omega)]; simpa using E
 exact ⟨Eq.trans (b:=bO<|false) aa (congrArg bO A.symm),C⟩
 refine ak fun ac=>p (fa oa aa)<|p (ld bR aa<|c.bp 4)<|p (lt aa aa)<|aw<|ac<|cd aa (fun aR=> ?_) fun aR=> ?_
 refine ak fun J=>aw<|J<|rt<|br<|tr<|a6 aa ?_
 have A:fi F xs en f s pp=true :=by exact EH ab (by rw [if_neg (show ¬s= -1 by omega)]; simpa using E)<|by unfold Rn at hp; omega
 exact ⟨Eq.trans (b:=bO<|true) aa (congrArg bO A.symm),C⟩
 obtain ⟨I,rfl⟩:∃ m:Nat,pp=(m:Int):=⟨(pp).toNat,by unfold Rn at hp; omega⟩
 obtain ⟨ah,Y⟩:∃ r,F.rules[I]? =some r:=⟨_,bZ<|by unfold Rn at hp; omega⟩
 have ax:(F.rules.zip rn)[I]? =some (ah,rn[I]'(by rw [aq]; exact (eu.1 Y).1)):=jh.2 ⟨Y,bZ _⟩
 have ap:=sD Y
 have bd:=(eu.1 Y).1
 obtain ⟨G,rfl⟩:∃ m:Nat,f=(m:Int):=⟨(f).toNat,by unfold Rn at al; omega⟩
 obtain ⟨rf,V⟩:∃ r,F.rules[G]? =some r:=⟨_,bZ<|by unfold Rn at al; omega⟩
 have av:(F.rules.zip rn)[G]? =some (rf,rn[G]'(by rw [aq]; exact (eu.1 V).1)):=jh.2 ⟨V,bZ _⟩
 have ao:=sD V
 have bc:=(eu.1 V).1
 obtain ⟨Z,rfl⟩:∃ m:Nat,s=(m:Int):=⟨(s).toNat,by unfold Rn at hs; omega⟩
 obtain ⟨rs,aI⟩:∃ r,F.rules[Z]? =some r:=⟨_,bZ<|by unfold Rn at hs; omega⟩
 have aT:(F.rules.zip rn)[Z]? =some (rs,rn[Z]'(by rw [aq]; exact (eu.1 aI).1)):=jh.2 ⟨aI,bZ _⟩
 have a8:=sD aI
 have bg:=(eu.1 aI).1
 have ai:=O
 refine aQ<|bn<|aO<|ak fun J=>p mv<|p (fa oa aa)<|p (ld bR aa<|c.bp 4)<|p (a7 lg aa aa ab<|aG.ok (O)<|lZ ax)<|p (fa sP aa)<|p (ld oJ aa<|gY (f:=dG) (m:=7) (fun _=>rfl) ai ax 2 ay)<|p mv<|gb (t:=56) aa (fun ag=> ?_) fun ag=> ?_
 refine aK aa mv<|aK aa (fa lk aa)<|aK aa (ld bR aa<|c.bp 2)<|aK aa (a7 lg aa aa ab<|aG.ok (O)<|lZ av)<|aK aa (fa sP aa)<|aK aa (ld oJ aa<|gY (f:=dG) (m:=7) (fun _=>rfl) ai av 2 ay)<|p (bN aa)<|p mv<|gb (t:=64) aa (fun ae=> ?_) fun ae=> ?_
 refine aK aa (fa ll aa)<|aK aa (ld bR aa<|c.bp 3)<|aK aa (lt aa aa)<|aK aa mv<|gs (t:=68) aa (fun h=>absurd h aN) fun bb=>aK aa mv<|aK aa (fa ll aa)<|aK aa (ld bR aa<|c.bp 3)<|aK aa (a7 lg aa aa ab<|aG.ok (O)<|lZ aT)<|aK aa (fa sP aa)<|aK aa (ld oJ aa<|gY (f:=dG) (m:=7) (fun _=>rfl) ai aT 2 ay)<|aK aa (bH aa)<|p (bN aa)<|aw<|J<|rt<|a6 aa ?_
 have A:fi F xs en ((G:Nat):Int) ((Z:Nat):Int) ((I:Nat):Int)=rs.fX:=by rw [rh ab (by rw [if_neg (show ¬((Z:Nat):Int)= -1 by omega)]; simpa using E) ab,ao,a8,ap,(show rf.fX=true from ae),(show ah.fX=true from ag),Bool.true_and,Bool.and_true]
 exact ⟨Eq.trans (b:=bO<|rs.fX) aa (congrArg bO A.symm),C⟩
 refine aJ aa<|aJ aa<|aJ aa<|aJ aa<|fA aa<|fA aa<|fA aa<|fA aa<|fA aa<|fA aa<|aJ aa<|p (bH aa)<|aw<|J<|rt<|a6 aa ?_
 have A:fi F xs en ((G:Nat):Int) ((Z:Nat):Int) ((I:Nat):Int)=false :=by rw [rh ab (by rw [if_neg (show ¬((Z:Nat):Int)= -1 by omega)]; simpa using E) ab,ao,(show rf.fX=false from ae)]; rfl
 exact ⟨Eq.trans (b:=bO<|false) aa (congrArg bO A.symm),C⟩
 refine aJ aa<|aJ aa<|aJ aa<|aJ aa<|aJ aa<|aJ aa<|p (bH aa)<|p mv<|aJ aa<|aJ aa<|aJ aa<|aJ aa<|fA aa<|fA aa<|fA aa<|fA aa<|fA aa<|fA aa<|aJ aa<|p (bH aa)<|aw<|J<|rt<|a6 aa ?_
 have A:fi F xs en ((G:Nat):Int) ((Z:Nat):Int) ((I:Nat):Int)=false :=by rw [rh ab (by rw [if_neg (show ¬((Z:Nat):Int)= -1 by omega)]; simpa using E) ab,ap,(show ah.fX=false from ag),xj]
 exact ⟨Eq.trans (b:=bO<|false) aa (congrArg bO A.symm),C⟩
end Go.Hb
end
section
namespace Go.Hb
open Go.Hb.iP
theorem lX {F:aB} {xs:List bh} (h:eJ F xs) {k:Nat} {r:cC} (c:F.rules[k]? =some r):r.strip.length≤1048576∧r.add.length≤1048576∧r.cond.length≤1048576∧r.add.length≤32:=by
 have :=(h.lD c).2.2; unfold um at this; omega
end Go.Hb
end
section
namespace Go.Hb
open Go.Hb.iP
noncomputable def k8 (F:aB) (xs:List bh) (k:Nat):List bF:=(fD k).flatMap<|kJ F xs
def xO (W:World) (b:Nat) (c:Option Addr):Prop :=W.heap[b]? =some (.cells [.pointer c].toArray 24 (0,0))
end Go.Hb
end
section
namespace Go.Hb.uj
open Go.Hb.iP
def Bd (acc:List bF):Prop :=acc.length≤Cc acc∧Cc acc≤acc.length*1000∧acc.length≤2000000
section
variable {q:Option Tx} {most limit:Int} {a L M:List bF} {d:bF}
end
section
variable {w w' w'':World} {fp fp' fp'':Nat→Prop} {S0 xb:Nat} {gp:Bool} {q:Option Tx} {most limit:Int} {acc:List bF}
end
end Go.Hb.uj
end
section
namespace Go.Hb
open Go.Hb.iP Go.Hb.uj
theorem DI (c s1:Tx) (a0 C G d0 A E c1 d1:Int) (w:World):(binOp .eql 49 (.agg [str c,.int .i64 a0,.int .i64 C,.int .i64 G,.int .i64 d0].toArray)<|.agg [str s1,.int .i64 A,.int .i64 E,.int .i64 c1,.int .i64 d1].toArray).run au w= .ok (.bool<|decide (c=s1∧a0=A∧C=E∧G=c1∧d0=d1)) w:=by
 have J:=underlying9
 have O:=underlying3
 have I:au.underlying 49=some (.struct<|au.fieldsOf 49):=ag
 have hp:au.stoodInHeld 49=false :=ag
 rw [run_eql_struct,show (10000:Nat)=9999 +1 from rfl,run_equalIn_agg w 9999 49 _ _ I hp]
 simp only [Program.fieldsOf,Bj]
 have hs:(str c=str s1)=(c=s1):=by unfold str; simp
 unfold str at*
 go_simp
 by_cases h1:c=s1 <;> by_cases h2:a0=A <;> by_cases h3:C=E <;> by_cases h4:G=c1 <;> by_cases h5:d0=d1 <;> simp [h1,h2,h3,h4,h5]
section
variable {N:Fm} {σ:Nat→Value} {w:World} {dst:Option Nat} {ty:TypeId} {pos :String} {af:Array Edge} {g:Option (Nat×Bool)} {x y:Operand}
theorem OA {V:TypeId} {G s1:Tx} {a0 A E d0 c C c1 d1:Int} (J:ev N σ x= .agg [str G,.int .i64 a0,.int .i64 A,.int .i64 E,.int .i64 d0].toArray) (O:ev N σ y= .agg [str s1,.int .i64 c,.int .i64 C,.int .i64 c1,.int .i64 d1].toArray):
 (execOp (ev N σ) ⟨dst,.binOp .eql 49 x y V,ty,pos,af,g⟩).run au w= .ok (.value<|.bool<|decide (G=s1∧a0=c∧A=C∧E=c1∧d0=d1)) w:=by
 have hm:au.eqGuardType au.depth 49=false :=ag
 have I:=run_eqGuard_agg w .eql 49 x y [str G,.int .i64 a0,.int .i64 A,.int .i64 E,.int .i64 d0].toArray [str s1,.int .i64 c,.int .i64 C,.int .i64 c1,.int .i64 d1].toArray hm
 have he:=DI G s1 a0 A E d0 c C c1 d1 w
 simp only [execOp,J,O,l8,I,he,l7,oA]
end
theorem sG {l:List bF} (h:0 < l.length):e5 l≠[]:=yX (f:=dz) (m:=5) (fun _=>rfl) ay h
theorem rB {w:World} {B e:Nat} {a:Option Addr} {L:List bF} {c:Nat} (h:bm w B e 5 (.slice a L.length c) L.length (e5 L)):aG w.heap a (e5 L):=(aU h).2
end Go.Hb
end
section
namespace Go.Hb
open Go.Hb.iP
noncomputable def vC (F:aB) (xs:List bh) (n f s p:Int):Option Tx:=if 0≤n∧n < xs.length then fz F xs n.toNat f s p else none
theorem RP {F:aB} {xs:List bh} {n f s p:Int} (h:¬(0≤n∧n < xs.length)):vC F xs n f s p=none:=if_neg h
theorem s7 {F:aB} {xs:List bh} {k:Nat} {f s p:Int} (h:k < xs.length):vC F xs k f s p=fz F xs k f s p:=by unfold vC; rw [if_pos ab,jx]
def lA (F:aB) (xs:List bh) (k:Nat) (f:Int):Nat→List Nat
 | 0=>bC F (flagsOf xs k) 2
 | 1=>bC F (bY F f) 2
 | _=>bC F (flagsOf xs k) 1
def om (f s p:Int):Nat→Int
 | 0=>f
 | 1=>s
 | _=>p
noncomputable def jr (F:aB) (xs:List bh) (k:Nat) (f s p:Int):Nat→Option Tx
 | 0=>some (xs.getD k ([],[])).1
 | i+1=>(jr F xs k f s p i).bind<|fq F (lA F xs k f i)<|om f s p i
section
variable {F:aB} {xs:List bh} {k:Nat} {f s p:Int}
theorem zN (h:f= -1∧s≠ -1):fz F xs k f s p=none:=if_pos h
theorem s9 (h:¬(f= -1∧s≠ -1)):fz F xs k f s p=(jr F xs k f s p 3).bind fun u=>if fi F xs k f s p=true then some u else none:=by
 unfold fz
 rw [if_neg h]
 show _=(((some (xs.getD k ([],[])).1).bind<|fq F (bC F (flagsOf xs k) 2) f).bind (fq F (bC F (bY F f) 2) s) |>.bind (fq F (bC F (flagsOf xs k) 1) p)).bind _
 rw [oG,I0,I0]
theorem FF {i:Nat} (h:jr F xs k f s p i=none):∀ j,jr F xs k f s p (i+j)=none
 | 0=>h
 | j+1=>by
   show (jr F xs k f s p<|i+j).bind _=none
   rw [FF h j]; rfl
theorem AJ {L:List Nat} {n:Int} {u v:Tx} (c:∀ i∈L,i < F.rules.length) (A: -1≤n) (h:fq F L n u=some v):Rn F n:=by
 unfold fq at h
 unfold Rn
 by_cases h1:n= -1
 · exact .inl h1
 · rw [if_neg h1] at h
   by_cases h2:n.toNat∈L
   · have :=c _ h2; omega
   · rw [if_neg h2] at h; cases h
theorem UH {L:List Nat} {n:Nat} {u:Tx} (h:n∈L):fq F L n u=fW (F.rules.getD n dp) u:=by unfold fq; rw [if_neg ab,jx,if_pos h]
theorem UJ {L:List Nat} {n:Nat} {u:Tx} (h:n∉L):fq F L n u=none:=by unfold fq; rw [if_neg ab,jx,if_neg h]
theorem s8 (i:Nat):∀ j∈lA F xs k f i,j < F.rules.length:=by
 intro j c
 unfold lA at c
 split at c <;> exact (oh.1 c).1
theorem RQ (i:Nat):(lA F xs k f i).length≤F.rules.length:=by
 unfold lA
 split <;> exact zO _ _ _
theorem FG {u:Tx} (c: -1≤f) (hs: -1≤s) (hp: -1≤p) (h:jr F xs k f s p 3=some u):Rn F f∧Rn F s∧Rn F p:=by
 obtain ⟨C,h2,h3⟩:=pD.1 (show (jr F xs k f s p 2).bind _=some u from h)
 obtain ⟨A,h1,h2⟩:=pD.1 (show (jr F xs k f s p 1).bind _=some C from h2)
 obtain ⟨E,_,h1⟩:=pD.1 (show (jr F xs k f s p 0).bind _=some A from h1)
 exact ⟨AJ (s8 0) c h1,AJ (s8 1) hs h2,AJ (s8 2) hp h3⟩
end
theorem UI {F:aB} {xs:List bh} (A:eJ F xs) {L:List Nat} {n:Int} {u v:Tx} (C:∀ i∈L,i < F.rules.length) (h:fq F L n u=some v):v.length≤u.length+32:=by
 unfold fq at h
 by_cases h1:n= -1
 · rw [if_pos h1] at h; cases h; omega
 · rw [if_neg h1] at h
   by_cases h2:n.toNat∈L
   · rw [if_pos h2] at h
     obtain ⟨r,c⟩:∃ r,F.rules[n.toNat]? =some r:=⟨_,bZ<|C _ h2⟩
     rw [cM,c] at h
     exact (JL (lX A c).2.2.2 h).2
   · rw [if_neg h2] at h; cases h
def Ga (p:Value×Value):List Value:= [p.1,p.2]
theorem Qt (a:Option Addr) (c:Nat) (l:List Nat) (x:Nat) (w:World) (G:aG w.heap a (l.map fV)) (ay:l.length≤1048576):
 ba au 144 (aX [.slice a l.length c,aj x]) w (fun v w'=>(∃ k:Int,v= .int .i64 k∧(0≤k↔x∈l)∧ -1≤k∧k≤1048576)∧Wk w w'):=by
 refine enter func144 aa ntmps144 aa<|ak fun Y=>aw<|Y<|az fun Z=>ak fun ac=>ao (.slice a l.length c)<|p (bM rK aa aa)<|p mv<|nl<|ac<|aE<|lp (fun E A V=> ∃ (i:Nat),(i≤l.length)∧(∀ j,j < i→l.getD j 0≠x)∧(V=w)∧(A 0= .slice a l.length c)∧(A 1=aj x)∧(A 7=aj (l.length))∧(A 8=aj i)∧(l.length - i=E)) _ ⟨0,ab,(fun j J=>by omega),aa,aa,aa,aa,aa,aa⟩ ?_
 rintro E A V ⟨i,hi,O,am,ap,aq,av,ax,rfl⟩
 refine fx 0 ap<|fx 1 aq<|fx 7 av<|fx 8 ax ?_
 subst am
 refine ak fun ae=>p (lt aa aa)<|nl<|ae<|az fun ag=>cd aa (fun an=> ?_) fun an=> ?_
 refine aQ<|ag<|az fun C=>aE<|ak fun ah=>ao (aj i)<|p (bV (aj i) aa)<|nl<|ah<|ak fun ai=>ao (aj x)<|ao (.slice a l.length c)<|ao (aj i)<|p (a7 q6 aa aa ab<|aG.ok (G)<|cX ab)<|p (ld bR aa<|aG.iD G (show (l.map fV)[i]? =some (aj<|l.getD i 0) by rw [eR,cM,bZ (by omega :i < l.length)]; rfl)) ?_
 refine p (cg aa aa)<|nl<|ai<|cd aa (fun I=> ?_) fun I=> ?_
 exact ak fun al=>ao (aj i)<|p (bV (aj i) aa)<|nl<|al<|rt<|br<|tr<|tr<|br<|tr<|a6 aa<|⟨⟨(i:Nat),aa,⟨fun _=>by obtain rfl :x=l.getD i 0:=ab; exact fg ab,fun _=>by omega⟩,ab,ab⟩,Md.refl _ _⟩
 exact aQ<|bn<|C<|rg aa<|p (ad aa aa<|cH ab)<|p mv<|nl<|tn<|⟨_,ab,i+1,ab,(fun j J=>by rcases ig j i with h | h <;> first | exact O j h | (rw [show j=i by omega]; exact fun h2=>I<|by rw [h2])),aa,aa,aa,aa,aa,aa⟩
 exact ext<|bc<|bc<|be<|Z<|ak fun C=>p aC<|nl<|C<|rt<|a6 aa<|⟨⟨-1,aa,⟨fun h=>absurd h ab,fun h=>by obtain ⟨j,J,e⟩:=og 0 h; exact absurd e<|O j ab⟩,ab,ab⟩,Md.refl _ _⟩
theorem M2 (a:Option Addr) (c:Nat) (l:List Nat) (x:Nat) (w:World) (E:aG w.heap a (l.map fV)) (J:l.length≤1048576):
 ba au 88 (aX [.slice a l.length c,aj x]) w (fun v w'=>v= .bool (decide (x∈l))∧Wk w w'):=by
 refine enter func88 aa ntmps88 aa<|ak fun A=>aw<|A<|ak fun C=>ao (.slice a l.length c)<|ao (aj x)<|e<|cl Kz (Qt a c l x w E J) aa fun Y Z G=> ?_
 obtain ⟨⟨O,rfl,I,V⟩,hE7⟩:=G
 exact p (ge aa aa)<|aw<|C<|rt<|a6 aa<|⟨by show bO (decide (O≥0))=_; exact congrArg bO (decide_eq_decide.2 I),hE7⟩
theorem UK (F:aB) (xs:List bh) (I:eJ F xs) (ar:Option Addr) (cr:Nat) (rn:List Value) (a:Option Addr) (c:Nat) (L:List Nat) (n:Int) (u:Tx) (w:World) (O:aG w.heap ar (fP<|F.rules.zip rn)) (aq:rn.length=F.rules.length) (ah:aG w.heap a (L.map fV)) (am:∀ i∈L,i < F.rules.length) (al:L.length≤1048576) (ax: -1≤n) (ay:u.length≤1048576):
 ba au 48 (aX [.slice ar F.rules.length cr,.slice a L.length c,.int .i64 n,str u]) w (fun v w'=>v=vJ (fq F L n u)∧Wk w w'):=by
 refine enter func48 aa ntmps48 aa<|ak fun Z=>p aC<|aw<|Z<|az fun ac=>az fun ad=>rg aa<|p mv<|p (cg aa aa)<|nl<|ad<|cd aa (fun h1=> ?_) fun h1=> ?_
 obtain rfl :n= -1:=h1
 exact ak fun E=>p mv<|p aC<|aw<|E<|rt<|tr<|f2 aa aa aa<|⟨by rw [tv]; rfl,Md.refl _ _⟩
 obtain ⟨m,rfl⟩:∃ m:Nat,n=(m:Int):=⟨n.toNat,ab⟩
 refine aQ<|ac<|az fun E=>ak fun ae=>p mv<|p mv<|e<|cl LQ (M2 a c L m w ah al) aa fun aA av ai=> ?_
 obtain ⟨rfl,C⟩:=ai
 refine p (no aa)<|nl<|ae<|cb aa (fun J=> ?_) fun J=> ?_
 have an:m∉L:=by simpa using J
 exact ak fun G=>p aC<|aw<|G<|rt<|tr<|f2 aa aa aa<|⟨by rw [UJ an]; rfl,C⟩
 have V:m∈L:=by simpa using J
 obtain ⟨r,A⟩:∃ r,F.rules[m]? =some r:=⟨_,bZ<|am m V⟩
 have ap:=(eu.1 A).1
 have Y:(F.rules.zip rn)[m]? =some (r,rn[m]'(by rw [aq]; exact ap)):=jh.2 ⟨A,bZ _⟩
 have ao:F.rules.getD m dp=r:=by rw [cM,A]; rfl
 refine aQ<|E<|ak fun G=>p mv<|p mv<|p (a7 lg aa aa ab<|aG.ok (O.wk C)<|lZ Y)<|p (cK j0 aa (aa)<|gY (f:=dG) (m:=7) (fun _=>rfl) (O.wk C) Y)<|p mv<|e<|cl LR (JR r _ u av (lX I A).1 (lX I A).2.1 (lX I A).2.2.1 ab) aa fun v22 aD aj=> ?_
 obtain ⟨rfl,ag⟩:=aj
 exact p (xt aa aa)<|p (xt aa aa)<|p aC<|aw<|G<|rt<|f2 aa aa aa<|⟨by rw [UH V,ao]; rfl,C.trans ag⟩
theorem Rz (B tb:Nat) (U:eS) (F:aB) (xs:List bh) (bl:Tx) (n f s c:Int) (w:World) (bO:eA w B tb U F xs) (G:eJ F xs) (cR: -1≤f) (c6: -1≤s) (cZ: -1≤c):
 ba au 25 (aX [aV tb,.agg [str bl,.int .i64 n,.int .i64 f,.int .i64 s,.int .i64 c].toArray]) w (fun v w'=>v=vJ (vC F xs n f s c)∧Wk w w'):=by
 refine enter func25 aa ntmps25 aa<|ak fun b5=>e<|iQ aa fun aS b2 a4 aZ cn=> ?_
 have du:=aZ.size
 have cJ:=bO.wk aZ.md
 have a4:bE b2.heap aS [str bl,.int .i64 n,.int .i64 f,.int .i64 s,.int .i64 c]:=cn
 refine p aC<|aw<|b5<|ak fun b8=>p mv<|p (fa lj aa)<|p (ld bR aa<|a4.bp 1)<|e<|cl pT (q4 B tb U F xs n b2 cJ G) aa fun dx dh cz=> ?_
 obtain ⟨⟨dj,rfl,cX⟩,hE16⟩:=cz
 obtain ⟨ch,cj,rfl⟩:=cQ cX
 have dt:=hE16.size
 refine p mv<|p (xt aa aa)<|p (xt aa aa)<|e<|al nH fun bs dC bS bK co=> ?_
 have dw:=bK.size
 refine e<|cG iR aa aa aa aa (co) (by simp) fun bo bI cm=> ?_
 have cw:Wk dh bo:=bK.md.trans' bI fun q c0 h=>by omega
 have dr:=bI.size
 have bS:bE bo.heap bs [str (gQ xs n),.slice ch (flagsOf xs n).length cj]:=cm
 have bA:=hE16.trans cw
 have ah:=aZ.md.trans bA
 have aI:=bO.wk ah
 have a5:=Wk.B bA a4
 refine aw<|b8 ?_
 refine eV (fun aN bm=>(bm=bo)∧(0≤n∧n < xs.length)∧(¬(f= -1∧s≠ -1))∧(aN 0=aV tb)∧(aN 3=aV aS)∧(aN 6=aV bs)) ?_ ?_
 refine ak fun aq=>p mv<|p (no aa)<|p mv<|gb (t:=21) aa (fun ax=> ?_) fun ax=> ?_
 have cY:¬(0≤n∧n < xs.length):=fun h=>by rw [decide_eq_true h] at ax; cases ax
 exact aJ aa<|aJ aa<|aJ aa<|aJ aa<|fA aa<|fA aa<|fA aa<|aJ aa<|p (bN aa)<|nl<|aq<|ct aa<|ak fun av=>p aC<|p aC<|nl<|av<|rt<|tr<|f2 aa aa aa<|⟨by rw [RP cY]; rfl,ah⟩
 have bb:0≤n∧n < xs.length:=tI fun h=>by rw [decide_eq_false h] at ax; cases ax
 refine aK aa (fa lk aa)<|aK aa (ld bR aa<|a5.bp 2)<|aK aa (cg aa aa)<|aK aa mv<|gs (t:=25) aa (fun a7=> ?_) fun a7=> ?_
 refine aK aa (fa ll aa)<|aK aa (ld bR aa<|a5.bp 3)<|aK aa (gu aa aa)<|aK aa (bN aa)<|p (bH aa)<|nl<|aq<|cd aa (fun bg=> ?_) fun bg=> ?_
 refine ak fun av=>p aC<|aw<|av<|rt<|tr<|f2 aa aa aa ?_
 obtain ⟨k,rfl⟩:∃ m:Nat,n=(m:Int):=⟨n.toNat,ab⟩
 exact ⟨by rw [s7 ab,zN ⟨a7,bg⟩]; rfl,ah⟩
 exact aQ<|tn<|⟨aa,bb,(fun h=>bg h.2),aa,aa,aa⟩
 exact aJ aa<|aJ aa<|aJ aa<|aK aa (bH aa)<|p (bH aa)<|nl<|aq<|cf aa<|aQ<|tn<|⟨aa,bb,(fun h=>a7 h.1),aa,aa,aa⟩
 rintro aN bm ⟨df,bb,a8,c3,c4,c5⟩
 refine fx 0 c3<|fx 3 c4<|fx 6 c5 ?_
 subst df
 refine ak fun aq=>ao (aV tb)<|p (nc aa)<|p (fa vl aa)<|p (ld eT aa<|(bj aI.cells).trans aa)<|e<|cl uN (uu B U.fb U.mc F U.V bm aI.fl (by have :=G.len; omega) G.nx) aa fun v35 J cA=> ?_
 obtain ⟨⟨⟨v9,v10,v11,v12,sa,rn⟩,rfl,hax⟩,hE35⟩:=cA
 obtain ⟨ar,cr,bk⟩:=cQ hax.ej
 have bk:v12=_:=bk
 subst bk
 have dv:=hE35.size
 have b0:rn.length=F.rules.length:=by have :=hax.nx.1; rwa [eX] at this
 have bz:aG J.heap ar (fP<|F.rules.zip rn):=(aU hax.ej).2
 have ac:=Wk.B hE35 a5
 have cO:=Wk.B hE35 bS
 have bP:=(aI.wk hE35).wk (Md.refl _ _).drew
 refine p (DO DP aa aa)<|aw<|aq<|ak fun av=>p (fa sV aa)<|p (ld cB aa<|cO.bp 0)<|aw<|av<|az fun b9=>az fun ca=> ?_
 have E:(fun w'=>Wk J w') J.drew:=(Md.refl _ _).drew
 refine cD (fun w'=>Wk J w') aa wide E<|bT 0 aa (aV tb) E<|aR 1 aa (fun _ _=>fa lj aa) E<|aR 2 aa (fun w' I=>ld bR aa<|Wk.aM I<|ac.bp 1) E<|aR 4 aa (fun _ _=>fa lk aa) E<|aR 5 aa (fun w' I=>ld bR aa<|Wk.aM I<|ac.bp 2) E<|bT 7 aa (aV tb) E<|aR 8 aa (fun _ _=>fa lk aa) E<|aR 9 aa (fun w' I=>ld bR aa<|Wk.aM I<|ac.bp 2) E<|aR 11 aa (fun _ _=>fa ll aa) E<|aR 12 aa (fun w' I=>ld bR aa<|Wk.aM I<|ac.bp 3) E<|bT 14 aa (aV tb) E<|aR 15 aa (fun _ _=>fa lj aa) E<|aR 16 aa (fun w' I=>ld bR aa<|Wk.aM I<|ac.bp 1) E<|aR 18 aa (fun _ _=>fa oa aa) E<|aR 19 aa (fun w' I=>ld bR aa<|Wk.aM I<|ac.bp 4) E<|aR 23 aa (fun _ _=>mv) E<|he 3 aa ag<|cl Lv (UQ B tb U F xs n J.drew bP G) aa fun dy b3 cC=> ?_
 obtain ⟨bU,aT⟩:=cC
 obtain ⟨ad,ai,rfl⟩:=cQ bU
 have bQ:=bP.wk aT
 have a2:(fun w'=>Wk J w') b3:=E.trans aT
 refine ⟨a2,?_⟩
 refine aR 6 aa (fun _ _=>c7 (ps:= [(0,.slice ad (bC F (flagsOf xs n) 2).length ai),(1,.int .i64 f)]) (L:= [.slice ad (bC F (flagsOf xs n) 2).length ai,.int .i64 f]) AD aa<|aa) a2<|he 10 aa ag<|cl CN (Gw B tb U F xs f b3 bQ G) aa fun v49 b4 cE=> ?_
 obtain ⟨bW,aW⟩:=cE
 obtain ⟨a49,am,rfl⟩:=cQ bW
 have cL:=bQ.wk aW
 have a0:(fun w'=>Wk J w') b4:=a2.trans aW
 refine ⟨a0,?_⟩
 refine aR 13 aa (fun _ _=>c7 (ps:= [(0,.slice a49 (bC F (bY F f) 2).length am),(1,.int .i64 s)]) (L:= [.slice a49 (bC F (bY F f) 2).length am,.int .i64 s]) AD aa<|aa) a0<|he 17 aa ag<|cl Lw (S6 B tb U F xs n b4 cL G) aa fun dz di cF=> ?_
 obtain ⟨bX,aY⟩:=cF
 obtain ⟨ae,an,rfl⟩:=cQ bX
 have a1:(fun w'=>Wk J w') di:=a0.trans aY
 refine ⟨a1,?_⟩
 refine aR 20 aa (fun _ _=>c7 (ps:= [(0,.slice ae (bC F (flagsOf xs n) 1).length an),(1,.int .i64 c)]) (L:= [.slice ae (bC F (flagsOf xs n) 1).length an,.int .i64 c]) AD aa<|aa) a1<|he 21 aa ag<|Kh [[.slice ad (bC F (flagsOf xs n) 2).length ai,.int .i64 f],[.slice a49 (bC F (bY F f) 2).length am,.int .i64 s],[.slice ae (bC F (flagsOf xs n) 1).length an,.int .i64 c]] Uf aa aa aa aa fun bt aD dk aH cp=> ?_
 obtain ⟨k,rfl⟩:∃ m:Nat,n=(m:Int):=⟨n.toNat,ab⟩
 obtain ⟨A,bv,bw,bx⟩:∃ A:Nat→Option Addr,A 0=ad∧A 1=a49∧A 2=ae:=⟨fun i=>match i with | 0=>ad | 1=>a49 | _=>ae,rfl,rfl,rfl⟩
 obtain ⟨C,cs,cu,cv⟩:∃ C:Nat→Nat,C 0=ai∧C 1=am∧C 2=an:=⟨fun i=>match i with | 0=>ai | 1=>am | _=>an,rfl,rfl,rfl⟩
 have bF:=aW.trans<|aY.trans aH.md
 have Y:Wk J aD:=((Md.refl (fun _=>False) J).drew.trans aT).trans bF
 have cU:∀ i,i < 3→([(.slice ad (bC F (flagsOf xs k) 2).length ai,.int .i64 f),(.slice a49 (bC F (bY F f) 2).length am,.int .i64 s),(.slice ae (bC F (flagsOf xs k) 1).length an,.int .i64 c)]:List (Value×Value))[i]? =some (.slice (A i) (lA F xs k f i).length (C i),.int .i64 (om f s c i)):=by
  intro i hi
  rcases (show i=0∨i=1∨i=2 by omega) with rfl | rfl | rfl
  rw [bv,cs]; rfl
  rw [bw,cu]; rfl
  rw [bx,cv]; rfl
 have cP:∀ i,i < 3→aG aD.heap (A i) ((lA F xs k f i).map fV):=by
  intro i hi
  rcases (show i=0∨i=1∨i=2 by omega) with rfl | rfl | rfl
  rw [bv]; exact (aU bU).2.wk bF
  rw [bw]; exact (aU bW).2.wk<|aY.trans aH.md
  rw [bx]; exact (aU bX).2.wk aH.md
 have c1:∀ i,i < 3→∀ {W:World},Wk aD W→∀ j,j < 2→Hb.aM W.heap bt (0 +i*2 +j)=(Ga (.slice (A i) (lA F xs k f i).length (C i),.int .i64 (om f s c i)))[j]? :=fun i hi W cN=>gY (f:=Ga) (m:=2) (fun _=>rfl) ((aG.fO ⟨_,cp⟩).wk cN)<|cU i hi
 have dg:gQ xs (k:Int)=(xs.getD k ([],[])).1:=by
  obtain ⟨x,aA⟩:∃ x,xs[k]? =some x:=⟨_,bZ ab⟩
  rw [(uz aA).1,cM,aA]; rfl
 have dq:(gQ xs (k:Int)).length≤1000:=by
  obtain ⟨x,aA⟩:∃ x,xs[k]? =some x:=⟨_,bZ ab⟩
  rw [(uz aA).1]; have :=(G.yL x<|gB aA).1; omega
 have bL:(fun w'=>Wk J w') aD:=a1.trans aH.md
 refine ⟨bL,?_⟩
 refine aR 22 aa (fun _ _=>bM Vm aa aa) bL<|hn ag<|ca<|aE<|lp (fun bu O aL=> ∃ (i:Nat) (u:Tx),(i≤3)∧(jr F xs k f s c i=some u)∧(u.length≤1000 +i*32)∧(Wk aD aL)∧(O 0=aV tb)∧(O 3=aV aS)∧(O 8= .slice ar F.rules.length cr)∧(O 9=str u)∧(O 60= .slice (some ⟨bt,0,none⟩) 3 3)∧(O 61= .int .i64 3)∧(O 62=aj i)∧(3 - i=bu)) _ ⟨0,gQ xs (k:Int),ab,(by rw [dg]; rfl),ab,(Md.refl _ _),aa,aa,aa,(by first | rfl | exact congrArg str b1),aa,aa,aa,aa⟩ ?_
 rintro bu O aL ⟨i,u,hi,ay,dn,Z,c8,c9,dd,de,da,db,dc,rfl⟩
 refine fx 0 c8<|fx 3 c9<|fx 8 dd<|fx 9 de<|fx 60 da<|fx 61 db<|fx 62 dc<|ak fun cc=>p (lt aa aa)<|nl<|cc<|az fun ce=>cd aa (fun cS=> ?_) fun cS=> ?_
 refine aQ<|ce<|az fun aP=>aE<|az fun aO=> ?_
 have cT:i < 3:=ab
 refine rg aa<|p (ia OJ aa aa ab)<|p (cK Jr aa (aa)<|c1 i ab Z)<|e<|al V8 fun ci dB a3 bJ ck=> ?_
 have ds:=bJ.size
 refine e<|cG Np aa aa aa aa (ck) (by simp) fun bq cy cq=> ?_
 have cx:Wk aL bq:=bJ.md.trans' cy fun q c0 h=>by omega
 have a3:bE bq.heap ci [.slice (A i) (lA F xs k f i).length (C i),.int .i64 (om f s c i)]:=cq
 have aF:=Z.trans cx
 refine nl<|aO<|ak fun ap=>ao (.slice ar F.rules.length cr)<|p (fa Pq aa)<|p (ld xY aa<|a3.bp 0)<|p (fa Pr aa)<|p (ld bR aa<|a3.bp 1)<|ao (str u)<|e<|cl Lx (UK F xs G ar cr rn (A i) (C i) (lA F xs k f i) (om f s c i) u bq (bz.wk<|Y.trans aF) b0 ((cP i cT).wk aF) (s8 i) (by have :=RQ (F:=F) (xs:=xs) (k:=k) (f:=f) i; have :=G.len; omega) (by unfold om; split <;> assumption) ab) aa fun dA dD cH=> ?_
 obtain ⟨rfl,bB⟩:=cH
 refine p mv<|p (xt aa aa)<|p (xt aa aa)<|p aC<|aw<|ap<|az fun b6=>rg aa<|p mv<|p (no aa)<|nl<|b6<|cb aa (fun a6=> ?_) fun a6=> ?_
 have cW:fq F (lA F xs k f i) (om f s c i) u=none:=by simpa using a6
 refine ak fun b7=>p aC<|aw<|b7<|rt<|br<|tr<|tr<|br<|tr<|f2 aa aa aa ?_
 have cV:jr F xs k f s c 3=none:=by rw [show 3=(i+1)+(2 - i) by omega]; exact FF (by show (jr F xs k f s c i).bind _=none; rw [ay]; exact cW) _
 exact ⟨by rw [s7 ab,s9 a8,cV]; rfl,ah.trans<|hE35.trans<|Y.trans<|aF.trans bB⟩
 obtain ⟨v,bi⟩:∃ v,fq F (lA F xs k f i) (om f s c i) u=some v:=nS.1<|by simpa using a6
 have dp:=UI G (s8 i) bi
 have c2:jr F xs k f s c (i+1)=some v:=by show (jr F xs k f s c i).bind _=_; rw [ay]; exact bi
 have b1:(fq F (lA F xs k f i) (om f s c i) u).getD []=v:=by rw [bi]; rfl
 exact aQ<|bn<|aP<|rg aa<|p (bG ((i+1:Nat):Int) aa aa<|bf ab ab)<|p mv<|nl<|tn<|⟨_,ab,i+1,v,ab,c2,ab,(aF.trans bB),aa,aa,aa,(by first | rfl | exact congrArg str b1),aa,aa,aa,aa⟩
 refine ext<|bc<|bc<|be<|b9<|az fun aP=>az fun aO=> ?_
 obtain rfl :i=3:=ab
 have bd:=FG cR c6 cZ ay
 refine rg aa<|ao (aV tb)<|ao (.slice ar F.rules.length cr)<|p (cK k6 aa (aa) fun j dl=>(Wk.B (Y.trans Z) ac).bp j)<|e<|cl Ly (PQ B tb U F xs ar cr rn bl k f s c aL (aI.wk<|hE35.trans<|Y.trans Z) G (bz.wk<|Y.trans Z) b0 bd.1 bd.2.1 bd.2.2) aa fun v82 dE cI=> ?_
 obtain ⟨rfl,bD⟩:=cI
 refine p (no aa)<|nl<|aO<|cb aa (fun a9=> ?_) fun a9=> ?_
 exact ak fun ap=>p aC<|aw<|ap<|rt<|tr<|f2 aa aa aa<|⟨by rw [s7 ab,s9 a8,ay,oG,if_neg (by simpa using a9)]; rfl,ah.trans<|hE35.trans<|Y.trans<|Z.trans bD⟩
 exact aQ<|aP<|ak fun ap=>ao (str u)<|p (bV (str u) aa)<|p aC<|nl<|ap<|rt<|f2 aa aa aa<|⟨by rw [s7 ab,s9 a8,ay,oG,if_pos (by simpa using a9)]; rfl,ah.trans<|hE35.trans<|Y.trans<|Z.trans bD⟩
end Go.Hb
end
section
namespace Go.Hb
open Go.Hb.iP
theorem Gr {r:cC} {v:Value} (h:v.oneCell'=true):(dG (r,v)).all et=true :=by
 unfold dG
 simp only [List.all_cons,List.all_nil,h]
 rfl
def qO (a b:bF):Bool:=if a.fst≠b.fst then decide (a.fst < b.fst) else if a.snd≠b.snd then decide (a.snd < b.snd) else decide (a.pre < b.pre)
theorem Ak (R:Nat):(lC R).Pairwise (· < ·):=by
 unfold lC
 rw [kZ]
 exact ⟨fun x c=>by obtain ⟨i,_,rfl⟩:=gK.1 c; omega,xK.2<|xJ.imp fun h=>by omega⟩
theorem Aj {R:Nat} {x:Int} (h:x∈lC R): -1≤x:=by
 rcases dR.1 h with h | h
 · omega
 · obtain ⟨i,_,rfl⟩:=gK.1 h; omega
theorem rq {F:aB} {xs:List bh} {e:Nat} {f s:Int} {d:bF} (h:d∈pX F xs e f s):d.ca=e∧d.fst=f∧d.snd=s∧d.pre∈lC F.rules.length∧fz F xs e d.fst d.snd d.pre=some d.ga:=by
 obtain ⟨p,hp,h⟩:=IE.1 h
 obtain ⟨u,hu,rfl⟩:=mj.1 h
 exact ⟨aa,aa,aa,hp,hu⟩
theorem zI {F:aB} {xs:List bh} {e:Nat} {f:Int} {d:bF} (h:d∈sK F xs e f):d∈pX F xs e f d.snd∧d.snd∈lC F.rules.length:=by
 obtain ⟨s,hs,h⟩:=oB.1 h
 have :=(rq h).2.2.1
 subst this
 exact ⟨h,hs⟩
theorem s6 {F:aB} {xs:List bh} {e:Nat} {d:bF} (h:d∈kJ F xs e):d.ca=e∧ -1≤d.fst∧ -1≤d.snd∧ -1≤d.pre∧fz F xs e d.fst d.snd d.pre=some d.ga:=by
 rw [yE] at h
 obtain ⟨f,A,h⟩:=oB.1 h
 obtain ⟨h1,h2⟩:=zI h
 obtain ⟨a,b,c,d,e⟩:=rq h1
 exact ⟨a,by rw [b]; exact Aj A,Aj h2,Aj d,e⟩
theorem NS (F:aB) (xs:List bh) (e:Nat):(kJ F xs e).Pairwise fun a b=>qO a b=true :=by
 rw [yE,BG]
 refine ⟨fun f _=> ?_,(Ak _).imp fun {a b} c x A y C=> ?_⟩
 · unfold sK
   rw [BG]
   refine ⟨fun s _=> ?_,(Ak _).imp fun {a b} c x A y C=> ?_⟩
   · unfold pX
     rw [List.pairwise_filterMap]
     refine (Ak _).imp fun {a b} c x A y C=> ?_
     obtain ⟨u,_,rfl⟩:=mj.1 A
     obtain ⟨v,_,rfl⟩:=mj.1 C
     unfold qO
     rw [if_neg (fun h=>h rfl),if_neg (fun h=>h rfl)]
     exact decide_eq_true c
   · obtain ⟨_,a2,a3,_⟩:=rq A
     obtain ⟨_,E,G,_⟩:=rq C
     unfold qO
     rw [if_neg (fun h=>h<|by rw [a2,E]),if_pos (by rw [a3,G]; omega),a3,G]
     exact decide_eq_true c
 · have a2:=(rq (zI A).1).2.1
   have E:=(rq (zI C).1).2.1
   unfold qO
   rw [if_pos (by rw [a2,E]; omega),a2,E]
   exact decide_eq_true c
end Go.Hb
end
section
namespace Go.Hb
open Go.Hb.iP Go.Hb.oI
noncomputable def mu (r:cC) (u:Tx):Option Tx:=if gl r u=true then some u else none
noncomputable def eL (r:cC) (w:Tx):Option Tx:=
 if r.kind=2 then (if r.add.length≤w.length∧w.drop (w.length - r.add.length)=r.add then mu r (w.take (w.length - r.add.length)++r.strip) else none)
 else if r.kind=1 then (if w.take r.add.length=r.add then mu r (r.strip++w.drop r.add.length) else none)
 else none
section
variable {r:cC} {s u w:Tx}
theorem Vu (hk:r.kind=2):eL r s=if decide (r.add.length≤s.length∧s.drop (s.length - r.add.length)=r.add)=true then mu r (jR s r.add++r.strip) else none:=by
 unfold eL jR
 rw [if_pos hk]
 by_cases h:r.add.length≤s.length∧s.drop (s.length - r.add.length)=r.add
 · rw [if_pos h,if_pos h,decide_eq_true h,if_pos rfl]
 · rw [if_neg h,decide_eq_false h]; rfl
theorem Vt (hk:r.kind=1):eL r s=if decide (s.take r.add.length=r.add)=true then mu r (r.strip++eG s r.add) else none:=by
 unfold eL eG
 rw [if_neg ab,if_pos hk]
 by_cases h:s.take r.add.length=r.add
 · rw [if_pos h,if_pos h,decide_eq_true h,if_pos rfl]
 · rw [if_neg h,decide_eq_false h]; rfl
theorem Vs (h1:r.kind≠1) (h2:r.kind≠2):eL r s=none:=by unfold eL; rw [if_neg h2,if_neg h1]
theorem C2 {v:Tx} (h:mu r u=some v):v=u:=by unfold mu at h; split at h <;> cases h; rfl
theorem Hg {v:Tx} (h:eL r s=some v):v.length≤s.length+r.strip.length:=by
 unfold eL at h
 split at h
 · split at h
   · rw [C2 h,bK,dB]; omega
   · cases h
 · split at h
   · split at h
     · rw [C2 h,bK,List.length_drop]; omega
     · cases h
   · cases h
theorem AW (hk:r.kind=1∨r.kind=2) (h:fW r u=some w):eL r w=some u:=by
 have c:gl r u=true :=by
  cases c:gl r u with
  | true =>rfl
  | false =>rw [B5 c] at h; cases h
 obtain ⟨E,h2,h1⟩:=vd c
 by_cases A:r.kind=2
 · rw [JQ c A] at h
   cases h
   have h3:=h2 A
   unfold eL
   have el:(u.take (u.length - r.strip.length)++r.add).length - r.add.length=(u.take<|u.length - r.strip.length).length:=by rw [bK]; omega
   rw [if_pos A,el,Io,IL,if_pos ⟨by rw [bK]; omega,rfl⟩]
   have C:u.take (u.length - r.strip.length)++r.strip=u:=by
    conv =>lhs; rhs; rw [← h3]
    exact IK _ _
   rw [C]; unfold mu; rw [if_pos c]
 · rw [JO c A] at h
   cases h
   have h3:=h1 A
   unfold eL
   rw [if_neg A,if_pos (hk.resolve_right A),IL,if_pos rfl,Io]
   have C:r.strip++u.drop r.strip.length=u:=by
    conv =>lhs; lhs; rw [← h3]
    exact IK _ _
   rw [C]; unfold mu; rw [if_pos c]
end
section
variable (F:aB) (xs:List bh) (w:Tx)
def lS (stem:Tx) (f s p:Int) (d:bF):Prop := ∃ n x,xs[n]? =some x∧x.1=stem∧d=⟨w,n,f,s,p⟩∧fz F xs n f s p=some w
def dY (n z:Nat):List Nat:=(fD n).filter fun i=>decide (z∈bC F (bY F (i:Int)) 2)
def mr (word:Tx) (p:Int) (k:Nat) (d:bF):Prop :=lS F xs w word (-1) (-1) p d∨
 ∃ i r,i < k∧F.rules[i]? =some r∧r.kind=2∧∃ st,eL r word=some st∧(lS F xs w st i (-1) p d∨∃ f∈dY F F.rules.length i,∃ rt,eL (F.rules.getD f dp) st=some rt∧lS F xs w rt f i p d)
def mJ (k:Nat) (d:bF):Prop :=mr F xs w w (-1) F.rules.length d∨∃ i r,i < k∧F.rules[i]? =some r∧r.kind=1∧∃ rest,eL r w=some rest∧mr F xs w rest i F.rules.length d
variable {F xs w}
theorem NR {e:Nat} {f s p:Int} {u:Tx} (c:Rn F f) (hs:Rn F s) (hp:Rn F p) (h:fz F xs e f s p=some u):(⟨u,e,f,s,p⟩:bF)∈kJ F xs e:=by
 have rm:∀ {n:Int},Rn F n→n∈lC F.rules.length:=fun {n} hn=>by
  rcases hn with h | h
  · exact dR.2<|.inl h
  · exact dR.2<|.inr<|gK.2 ⟨n.toNat,mW.2 ab,ab⟩
 rw [yE]
 refine oB.2 ⟨f,rm c,oB.2 ⟨s,rm hs,IE.2 ⟨p,rm hp,?_⟩⟩⟩
 rw [h]; rfl
theorem RR {e:Nat} {f s p:Int} {u:Tx} (A: -1≤f) (hs: -1≤s) (hp: -1≤p) (h:fz F xs e f s p=some u):Rn F f∧Rn F s∧Rn F p:=by
 have c:¬(f= -1∧s≠ -1):=fun c=>by rw [zN c] at h; cases h
 rw [s9 c] at h
 obtain ⟨v,C,_⟩:=pD.1 h
 exact FG A hs hp C
theorem FC {n:Nat} {d:bF} :d∈k8 F xs n↔∃ e,e < n∧d∈kJ F xs e:=by
 unfold k8
 rw [oB]
 exact ⟨fun ⟨e,h,h1⟩=>⟨e,mW.1 h,h1⟩,fun ⟨e,h,h1⟩=>⟨e,mW.2 h,h1⟩⟩
theorem zC {stem:Tx} {f s p:Int} {d:bF} (c: -1≤f) (hs: -1≤s) (hp: -1≤p) (h:lS F xs w stem f s p d):d∈k8 F xs xs.length∧d.ga=w:=by
 obtain ⟨n,x,A,_,rfl,hm⟩:=h
 obtain ⟨h1,h2,h3⟩:=RR c hs hp hm
 exact ⟨FC.2 ⟨n,(eu.1 A).1,NR h1 h2 h3 hm⟩,aa⟩
theorem CY {word:Tx} {p:Int} {k:Nat} {d:bF} (hp: -1≤p) (h:mr F xs w word p k d):d∈k8 F xs xs.length∧d.ga=w:=by
 rcases h with h | ⟨i,r,_,_,_,st,_,h | ⟨f,_,rt,_,h⟩⟩
 · exact zC ab ab hp h
 · exact zC ab ab hp h
 · exact zC ab ab hp h
theorem wo {L:List Nat} {n:Int} {u v:Tx} (hn: -1≤n) (h:fq F L n u=some v):(n= -1∧v=u)∨∃ m:Nat,n=(m:Int)∧m∈L∧fW (F.rules.getD m dp) u=some v:=by
 unfold fq at h
 by_cases h1:n= -1
 · rw [if_pos h1] at h; cases h; exact .inl ⟨h1,rfl⟩
 · rw [if_neg h1] at h
   by_cases h2:n.toNat∈L
   · rw [if_pos h2] at h; exact .inr ⟨n.toNat,ab,h2,h⟩
   · rw [if_neg h2] at h; cases h
theorem Ap {m:Nat} (h:m < F.rules.length):F.rules[m]? =some (F.rules.getD m dp):=by
 rw [cM,bZ h]; rfl
theorem L0 {n:Nat} {x:bh} {f s p:Int} {C:Tx} (A:xs[n]? =some x) (V: -1≤f) (hs: -1≤s) (I:¬(f= -1∧s≠ -1)) (h2:jr F xs n f s p 2=some C) (hm:fz F xs n f s p=some w):
 mr F xs w C p F.rules.length ⟨w,n,f,s,p⟩:=by
 obtain ⟨E,h1,h2⟩:=pD.1 (show (jr F xs n f s p 1).bind _=some C from h2)
 obtain ⟨ab,G,h1⟩:=pD.1 (show (jr F xs n f s p 0).bind _=some E from h1)
 cases G
 have Z:(xs.getD n ([],[])).1=x.1:=by rw [cM,A]; rfl
 rw [Z] at h1
 have kd:∀ {fs:List Nat} {m:Nat},m∈bC F fs 2→m < F.rules.length∧(F.rules.getD m dp).kind=2:=fun h=>⟨(oh.1 h).1,(oh.1 h).2.1⟩
 rcases wo V h1 with ⟨rfl,rfl⟩ | ⟨i,rfl,hi,J⟩
 · obtain rfl :s= -1:=tI fun h=>I ⟨rfl,h⟩
   rcases wo hs h2 with ⟨_,rfl⟩ | ⟨m,h,_⟩
   · exact .inl ⟨n,x,A,aa,aa,hm⟩
   · omega
 · have hi:i∈bC F (flagsOf xs n) 2:=hi
   have hu:=AW (.inr (kd hi).2) J
   rcases wo hs h2 with ⟨rfl,rfl⟩ | ⟨z,rfl,c,O⟩
   · exact .inr ⟨i,_,(kd hi).1,Ap (kd hi).1,(kd hi).2,x.1,hu,.inl ⟨n,x,A,aa,aa,hm⟩⟩
   · have c:z∈bC F (bY F (i:Int)) 2:=c
     have Y:=AW (.inr (kd c).2) O
     exact .inr ⟨z,_,(kd c).1,Ap (kd c).1,(kd c).2,E,Y,.inr ⟨i,pB.2 ⟨mW.2 (kd hi).1,decide_eq_true c⟩,x.1,hu,n,x,A,aa,aa,hm⟩⟩
theorem Gv (d:bF):mJ F xs w F.rules.length d↔d∈k8 F xs xs.length∧d.ga=w:=by
 constructor
 · rintro (h | ⟨i,r,_,_,_,rest,_,h⟩)
   · exact CY ab h
   · exact CY ab h
 · rintro ⟨hd,hw⟩
   obtain ⟨e,he,hd⟩:=FC.1 hd
   obtain ⟨E,G,hs,hp,hm⟩:=s6 hd
   obtain ⟨Y,en,f,s,p⟩:=d
   simp only at E G hs hp hm hw
   subst E
   subst hw
   obtain ⟨x,V⟩:∃ x,xs[en]? =some x:=⟨_,bZ he⟩
   have c:¬(f= -1∧s≠ -1):=fun c=>by rw [zN c] at hm; cases hm
   have I:=hm
   rw [s9 c] at I
   obtain ⟨v,O,A⟩:=pD.1 I
   split at A
   case isFalse=>cases A
   cases A
   obtain ⟨Z,h2,h3⟩:=pD.1 (show (jr F xs en f s p 2).bind _=some Y from O)
   have C:=L0 V G hs c h2 hm
   rcases wo hp h3 with ⟨rfl,rfl⟩ | ⟨i,rfl,hi,J⟩
   · exact .inl C
   · have hi:i∈bC F (flagsOf xs en) 1:=hi
     exact .inr ⟨i,_,(oh.1 hi).1,Ap (oh.1 hi).1,(oh.1 hi).2.1,Z,AW (.inl (oh.1 hi).2.1) J,C⟩
end
theorem Nk (s pr:List UInt8) (w:World) (hs:s.length≤1099511627776) (hp:pr.length≤1099511627776):
 ba au 162 (aX [str s,str pr]) w (fun v w'=>v= .tuple #[str (jR s pr),.bool (decide (pr.length≤s.length∧s.drop (s.length - pr.length)=pr))]∧Wk w w'):=by
 refine enter func162 aa ntmps162 aa<|ak fun G=>p aC<|aw<|G<|az fun I=>az fun J=>rg aa<|ao (str s)<|ao (str pr)<|e<|cl uK (vv s pr _ hs hp) aa fun V Y O=> ?_
 obtain ⟨rfl,E⟩:=O
 refine p (no aa)<|nl<|J<|cb aa (fun c=> ?_) fun c=> ?_
 have A:¬(pr.length≤s.length∧s.drop (s.length - pr.length)=pr):=fun h=>by rw [decide_eq_true h] at c; cases c
 exact ak fun C=>ao (str s)<|p (bV (str s) aa)<|aw<|C<|rt<|tr<|f2 aa aa aa<|⟨by unfold jR; rw [if_neg A,decide_eq_false A]; rfl,E⟩
 have A:pr.length≤s.length∧s.drop (s.length - pr.length)=pr:=tI fun h=>by rw [decide_eq_false h] at c; cases c
 exact aQ<|I<|ak fun C=>ao (str s)<|ao (str s)<|p (dv u9 aa aa)<|ao (str pr)<|p (dv u9 aa aa)<|p (c6 ((s.length - pr.length:Nat):Int) aa aa<|bf ab ab)<|p (rC u9 aa aa ab)<|p aC<|aw<|C<|rt<|f2 aa aa aa<|⟨by unfold jR; rw [if_pos A,decide_eq_true A]; rfl,E⟩
theorem Nl (s pr:List UInt8) (w:World) (hs:s.length≤1099511627776) (hp:pr.length≤1099511627776):
 ba au 102 (aX [str s,str pr]) w (fun v w'=>v= .tuple #[str (jR s pr),.bool (decide (pr.length≤s.length∧s.drop (s.length - pr.length)=pr))]∧Wk w w'):=by
 refine enter func102 aa ntmps102 aa<|ak fun c=>p aC<|aw<|c<|ak fun A=>ao (str s)<|ao (str pr)<|e<|cl KB (Nk s pr _ hs hp) aa fun G I E=> ?_
 obtain ⟨rfl,C⟩:=E
 exact p (xt aa aa)<|p (xt aa aa)<|p aC<|aw<|A<|rt<|f2 aa aa aa<|⟨aa,C⟩
theorem AX (r:cC) (u:Value) (s:Tx) (w:World) (aU:r.strip.length≤32) (aG:r.add.length≤1048576) (aI:r.cond.length≤1048576) (aW:s.length≤16777216):
 ba au 59 (aX [.agg (dG (r,u)).toArray,str s]) w (fun v w'=>v=vJ (eL r s)∧Wk w w'):=by
 refine enter func59 aa ntmps59 aa<|ak fun am=>e<|iQ aa fun Y ae aO ac av=> ?_
 have aT:((r,u):cC×Value).1.strip.length=r.strip.length:=rfl
 have aS:((r,u):cC×Value).1.kind=r.kind:=rfl
 have aR:((r,u):cC×Value).1.add.length=r.add.length:=rfl
 have C:bE ae.heap Y (dG (r,u)):=av
 have a0:(jR s r.add).length≤s.length:=by unfold jR; split <;> simp <;> omega
 have aZ:(eG s r.add).length≤s.length:=by unfold eG; split <;> simp
 refine p aC<|aw<|am<|ak fun an=>p aC<|nl<|an<|ak fun ap=>aw<|ap ?_
 refine eV (fun O J=> ∃ (sm:Tx) (ok:Bool),(eL r s=if ok=true then mu r sm else none)∧(sm.length≤s.length+r.strip.length)∧(Wk w J)∧(bE J.heap Y<|dG (r,u))∧(O 2=aV Y)∧(O 6=str sm)∧(O 7= .bool ok)) ?_ ?_
 refine ak fun V=>p (fa sO aa)<|p (ld bR aa<|C.bp 0)<|nl<|V<|aE<|az fun G=>rg aa<|p (cg aa aa)<|aw<|G<|cd aa (fun aF=> ?_) fun aF=> ?_
 refine ak fun c=>p mv<|p (fa sQ aa)<|p (ld cB aa<|C.bp 4)<|e<|cl Km (Nl s r.add ae ab ab) aa fun a1 a3 ax=> ?_
 obtain ⟨rfl,ag⟩:=ax
 have aj:=Wk.B ag C
 exact p mv<|p (xt aa aa)<|p (xt aa aa)<|p aC<|aw<|c<|rg aa<|p mv<|p (fa oR aa)<|p (ld cB aa<|aj.bp 3)<|p (cc aa aa ab)<|p aC<|nl<|bn<|tn<|⟨jR s r.add++r.strip,_,(Vu ab),(by rw [bK]; omega),(ac.md.trans ag),aj,aa,aa,aa⟩
 refine ak fun c=>p (cg aa aa)<|aw<|c<|cd aa (fun aD=> ?_) fun aD=> ?_
 refine ak fun aq=>p mv<|p (fa sQ aa)<|p (ld cB aa<|C.bp 4)<|e<|cl Cf (Di s r.add ae ab ab) aa fun a2 a4 ay=> ?_
 obtain ⟨rfl,ah⟩:=ay
 have al:=Wk.B ah C
 exact p mv<|p (xt aa aa)<|p (xt aa aa)<|p aC<|aw<|aq<|rg aa<|p (fa oR aa)<|p (ld cB aa<|al.bp 3)<|p mv<|p (cc aa aa ab)<|p aC<|nl<|bn<|tn<|⟨r.strip++eG s r.add,_,(Vt ab),(by rw [bK]; omega),(ac.md.trans ah),al,aa,aa,aa⟩
 exact aQ<|bn<|tn<|⟨[],false,(Vs ab ab),(mi _),ac.md,C,aa,aa,aa⟩
 rintro O J ⟨sm,ok,A,aY,Z,aB,aL,aM,aN⟩
 refine fx 2 aL<|fx 6 aM<|fx 7 aN<|az fun V=>ak fun G=>ao (.bool ok)<|p (no aa)<|p mv<|gb (t:=38) aa (fun I=> ?_) fun I=> ?_
 refine aJ aa<|aJ aa<|aJ aa<|aJ aa<|p (bN aa)<|nl<|G<|ct aa<|ak fun c=>p aC<|aw<|c<|rt<|tr<|f2 aa aa aa ?_
 have E:ok=false :=by simpa using I
 rw [E] at A
 exact ⟨by rw [A]; rfl,Z⟩
 refine aK aa (cK j0 aa (aa) fun j aP=>aB.bp j)<|aK aa (aH (str sm) aa)<|eg aa aa aa<|cl Cg (D7 r u sm J ab aG aI ab) aa fun v41 a5 aA=> ?_
 obtain ⟨rfl,ai⟩:=aA
 refine aK aa (no aa)<|p (bH aa)<|nl<|G<|cb aa (fun ad=> ?_) fun ad=> ?_
 refine ak fun c=>p aC<|aw<|c<|rt<|tr<|f2 aa aa aa ?_
 have E:ok=true :=by simpa using I
 rw [E,if_pos rfl] at A
 unfold mu at A
 exact ⟨by rw [A,if_neg (by simpa using ad)]; rfl,Z.trans ai⟩
 refine aQ<|V<|ak fun c=>ao (str sm)<|p (bV (str sm) aa)<|p aC<|nl<|c<|rt<|f2 aa aa aa ?_
 have E:ok=true :=by simpa using I
 rw [E,if_pos rfl] at A
 unfold mu at A
 exact ⟨by rw [A,if_pos (by simpa using ad)]; rfl,Z.trans ai⟩
end Go.Hb
end
section
namespace Go.Hb
open Go.Hb.iP
theorem yI {a b:bF} (h:a.ga=b.ga∧a.ca=b.ca∧a.fst=b.fst∧a.snd=b.snd∧a.pre=b.pre):a=b:=by
 obtain ⟨s,e,f,g,p⟩:=a
 obtain ⟨G,c,A,C,E⟩:=b
 obtain ⟨h1,h2,h3,h4,h5⟩:=h
 simp only at h1 h2 h3 h4 h5
 subst h1 h2 h3 h4 h5
 rfl
instance Ww:DecidableEq bF:=fun a b=>decidable_of_iff (a.ga=b.ga∧a.ca=b.ca∧a.fst=b.fst∧a.snd=b.snd∧a.pre=b.pre) ⟨yI,fun h=>by subst h; exact ⟨rfl,rfl,rfl,rfl,rfl⟩⟩
def dF (d:bF):Value:= .agg (dz d).toArray
def oc (v:Value):Prop := ∃ d,v=dF d
theorem UL {a b:Tx} (h:str a=str b):a=b:=by unfold str at h; simpa using h
theorem zm {a b:bF} (h:dF a=dF b):a=b:=by
 unfold dF dz at h
 injection h with h
 have h:([str a.ga,.int .i64 (a.ca:Nat),.int .i64 a.fst,.int .i64 a.snd,.int .i64 a.pre]:List Value)= [str b.ga,.int .i64 (b.ca:Nat),.int .i64 b.fst,.int .i64 b.snd,.int .i64 b.pre]:=congrArg Array.toList h
 simp only [List.cons.injEq,Value.int.injEq,true_and,and_true] at h
 obtain ⟨h1,h2,h3,h4,h5⟩:=h
 exact yI ⟨UL h1,ab,h3,h4,h5⟩
theorem Oz (a b:bF) (w:World):(Op.equal 49 (dF a)<|dF b).run au w= .ok (decide (a=b)) w:=by
 have h:=DI a.ga b.ga a.ca a.fst a.snd a.pre b.ca b.fst b.snd b.pre w
 rw [run_eql_struct] at h
 have e:(Op.equal 49 (dF a)<|dF b)=oz 10000 49 (dF a) (dF b):=rfl
 rw [e]
 show (oz 10000 49 (.agg (dz a).toArray)<|.agg (dz b).toArray).run au w=_
 unfold dz
 generalize (oz 10000 49 _ _).run au w=X at h
 have hd:decide (a.ga=b.ga∧(a.ca:Int)=b.ca∧a.fst=b.fst∧a.snd=b.snd∧a.pre=b.pre)=decide (a=b):=by
  exact decide_eq_decide.2 ⟨fun ⟨h1,h2,h3,h4,h5⟩=>yI ⟨h1,ab,h3,h4,h5⟩,fun h=>by subst h; exact ⟨aa,aa,aa,aa,aa⟩⟩
 rw [hd] at h
 cases X with
 | ok c w'=>
   have h:Result.ok (bO c) w'= .ok (.bool<|decide (a=b)) w:=h
   injection h with h1 h2
   injection h1 with h1
   subst h1 h2
   rfl
 | halt a b=>cases h
theorem vK {P:Program} {t:TypeId} {cs:Array Value} {o:Nat} {v:Value} {q:IntKind} (c:P.underlying t=some (.int q)) (A:cs[o]? =some v) (w:World):(part t cs o).run P w= .ok v w:=by
 simp [part,isAgg,cT c,A]
theorem Mh (em:Bool) (d:bF) (w:World):(mN em 10000 49<|dF d).run au w= .ok () w:=by
 have C:=Bj
 have A:=underlying9
 have c:=underlying3
 have E:∀ w,(part 9 #[str d.ga,.int .i64 (d.ca:Nat),.int .i64 d.fst,.int .i64 d.snd,.int .i64 d.pre] 0).run au w= .ok (str d.ga) w:=fun w=>SI A rfl rfl w
 have G:∀ w,(part 3 #[str d.ga,.int .i64 (d.ca:Nat),.int .i64 d.fst,.int .i64 d.snd,.int .i64 d.pre] 1).run au w= .ok (.int .i64 (d.ca:Nat)) w:=fun w=>vK c rfl w
 have I:∀ w,(part 3 #[str d.ga,.int .i64 (d.ca:Nat),.int .i64 d.fst,.int .i64 d.snd,.int .i64 d.pre] 2).run au w= .ok (.int .i64 d.fst) w:=fun w=>vK c rfl w
 have J:∀ w,(part 3 #[str d.ga,.int .i64 (d.ca:Nat),.int .i64 d.fst,.int .i64 d.snd,.int .i64 d.pre] 3).run au w= .ok (.int .i64 d.snd) w:=fun w=>vK c rfl w
 have O:∀ w,(part 3 #[str d.ga,.int .i64 (d.ca:Nat),.int .i64 d.fst,.int .i64 d.snd,.int .i64 d.pre] 4).run au w= .ok (.int .i64 d.pre) w:=fun w=>vK c rfl w
 show (mN em (9998 +1 +1) 49<|.agg #[str d.ga,.int .i64 (d.ca:Nat),.int .i64 d.fst,.int .i64 d.snd,.int .i64 d.pre]).run au w=_
 rw [mN]
 simp only [l8,cT C,l7]
 rw [← Array.forIn_toList]
 simp only [List.forIn_cons,List.forIn_nil,l8,E,G,I,J,O,ne_eq,String.reduceEq,not_false_eq_true,if_true,l7,C0 A,L4 c,oA]
theorem findD:∀ (es:List MapEntry) (w:World) (d:bF) (i:Nat),(∀ e∈es,oc e.key)→
 ((qq 49 (dF d) es i).run au w= .ok none w∧∀ e∈es,e.key≠dF d)∨∃ j e,(qq 49 (dF d) es i).run au w= .ok (some (i+j,e.val)) w∧es[j]? =some e∧e.key=dF d
 | [],w,d,i,_=> .inl ⟨by simp [qq],fun _ h=>by simp at h⟩
 | e::es,w,d,i,hk=>by
   obtain ⟨g,C⟩:=hk e<|by simp
   have he:=Oz d g w
   rw [← C] at he
   by_cases c:d=g
   · subst c
     refine .inr ⟨0,e,?_,aa,C⟩
     simp [qq,he]
   · have G:e.key≠dF d:=by rw [C]; exact fun h=>c (zm h).symm
     rcases findD es w d (i+1) (fun e he=>hk e<|by simp [he]) with ⟨h1,h2⟩ | ⟨j,A,h1,h2,h3⟩
     · refine .inl ⟨by simp [qq,he,c,h1],fun A E=> ?_⟩
       rcases dR.1 E with rfl | E
       · exact G
       · exact h2 A E
     · refine .inr ⟨j+1,A,?_,h2,h3⟩
       simp only [qq,l8,he,c,l7,decide_false,Sem.run_ite,HK,if_false,h1]; rw [show i+1 +j=i+(j+1) from by omega]
theorem QW:se au 49 oc where
 check em w v hv:=by obtain ⟨d,rfl⟩:=hv; exact Mh em d w
 find w x es hx hes:=by
  obtain ⟨d,rfl⟩:=hx
  have A:=Bj
  have C:es≠[]→(qs 49 (dF d) es).run au w=(qq 49 (dF d) es).run au w:=by
   intro c
   cases es with
   | nil=>exact absurd rfl c
   | cons e es=>simp [qs,cT A,qt,Instr.sameNow,dF]
  by_cases c:es= []
  · subst c; exact .inl ⟨by simp [qs,cT A,qt],fun _ h=>by simp at h⟩
  · rw [C c]
    rcases findD es w d 0 hes with h1 | ⟨j,e,h1,h2,h3⟩
    · exact .inl h1
    · exact .inr ⟨j,e,by rw [h1,fK],h2,h3⟩
theorem E7:kE au 49 oc where
 key:=QW
 stays w v hv:=by obtain ⟨d,rfl⟩:=hv; simp [Instr.keyThatStays,Instr.sameBits,dF,dz,str,x6]
def iZ (h:Array Obj) (b:Nat) (S:bF→Prop):Prop := ∃ f,jY h b oc f∧(∀ d,(f<|dF d).isSome=true↔S d)∧∀ k v,f k=some v→∃ n:Int,v= .int .i64 n
theorem iZ.md {G:Nat→Prop} {w w':World} {b:Nat} {S:bF→Prop} (h:iZ w.heap b S) (hm:Md G w w') (c:¬G b):iZ w'.heap b S:=let ⟨f,h1,h2⟩:=h; ⟨f,h1.md hm c,h2⟩
theorem iZ.congr {h:Array Obj} {b:Nat} {S c:bF→Prop} (hm:iZ h b S) (he:∀ d,c d↔S d):iZ h b c:=let ⟨f,h1,h2,h3⟩:=hm; ⟨f,h1,fun d=>(h2 d).trans (he d).symm,h3⟩
theorem iZ.put {h:Array Obj} {b:Nat} {S:bF→Prop} {f:Value→Option Value} {d:bF} {v:Value} {n:Int} (h2:∀ d,(f<|dF d).isSome=true↔S d) (h3:∀ k v,f k=some v→∃ n:Int,v= .int .i64 n) (hm:jY h b oc (bu (bu f (dF d) v) (dF d)<|.int .i64 n)):iZ h b (fun x=>S x∨x=d):=by
 refine ⟨_,hm,fun x=> ?_,fun k u hu=> ?_⟩
 · by_cases c:x=d
   · subst c; rw [lV]; exact ⟨fun _=> .inr rfl,fun _=>rfl⟩
   · have hk:dF x≠dF d:=fun h=>c<|zm h
     rw [ky hk,ky hk,h2]
     exact ⟨.inl,fun h=>h.resolve_right c⟩
 · by_cases hk:k=dF d
   · subst hk; rw [lV] at hu; cases hu; exact ⟨n,rfl⟩
   · rw [ky hk,ky hk] at hu; exact h3 k u hu
def uk (h:Array Obj) (b:Nat) (kx zv v:Value):Prop := ∃ g,bQ h b oc g∧(g kx).getD zv=v
section
variable {P:Program} {N:Fm} {σ:Nat→Value} {w:World} {dst:Option Nat} {ty:TypeId} {pos :String} {af:Array Edge} {g:Option (Nat×Bool)} {x y:Operand}
theorem Rm {t e:TypeId} {b:Nat} {kx v zv:Value} (c:au.underlying t=some (.map 49 e)) (E:zeroV au e=some zv) (hm:uk w.heap b kx zv v) (A:ev N σ x= .map (some b)) (C:ev N σ y=kx) (hi:oc kx):
 (execOp (ev N σ) ⟨dst,.lookup t x y false,ty,pos,af,g⟩).run au w= .ok (.value v) w:=by
 obtain ⟨f,h1,h2⟩:=hm
 exact kN c E E7 h1 A C hi h2
end
def BK (w:World) (fm:Nat) (F:aB):Prop := ∃ f,bQ w.heap fm (jn .i64) f∧∀ z:Nat,z < F.rules.length→∃ a c B,(f<|.int .i64 (z:Nat)).getD (.slice none 0 0)= .slice a (dY F F.rules.length z).length c∧bm w B 3 1 (.slice a (dY F F.rules.length z).length c) (dY F F.rules.length z).length ((dY F F.rules.length z).map fV)
def GG (tb:Nat) (F:aB) (ar:Option Addr) (cr fm dm:Nat):List Value:= [.pointer (some ⟨tb,0,none⟩),.slice ar F.rules.length cr,.map (some fm),.map (some dm)]
structure jD (w0 wB:World) (B kb tb:Nat) (U:eS) (F:aB) (xs:List bh) (ar:Option Addr) (cr:Nat) (rn:List Value) (fm dm:Nat):Prop where
 U6:eA w0 B tb U F xs
 wk:Wk w0 wB
 lo:w0.heap.size≤dm
 cells:wB.heap[kb]? =some (.cells (GG tb F ar cr fm dm).toArray 132 (0,0))
 ru:∃ B',bm wB B' 134 7 (.slice ar F.rules.length cr) F.rules.length (fP<|F.rules.zip rn)
 TI:rn.length=F.rules.length
 ro:∀ u∈rn,u.oneCell'=true
 fs:BK wB fm F
 ne:fm≠dm
 DA:∃ es c,wB.heap[dm]? =some (.map es c)
section
variable {w0 wB w:World} {B kb tb:Nat} {U:eS} {F:aB} {xs:List bh} {ar:Option Addr} {cr:Nat} {rn:List Value} {fm dm:Nat}
theorem jD.tf (h:jD w0 wB B kb tb U F xs ar cr rn fm dm):TF wB [1] (fun k=>k=dm):=TF.eq (by obtain ⟨es,c,h1⟩:=h.DA; unfold tag; rw [h1]) ay
theorem jD.at (h:jD w0 wB B kb tb U F xs ar cr rn fm dm) (hm:Md (fun k=>k=dm) wB w):w.heap[kb]? =some (.cells (GG tb F ar cr fm dm).toArray 132 (0,0)):=hm.jH h.tf h.cells ay
theorem jD.rules (h:jD w0 wB B kb tb U F xs ar cr rn fm dm) (hm:Md (fun k=>k=dm) wB w):aG w.heap ar (fP<|F.rules.zip rn):=by
 obtain ⟨B',h1⟩:=h.ru
 exact (aU<|c5 h1 hm h.tf ay).2
theorem jD.AL (h:jD w0 wB B kb tb U F xs ar cr rn fm dm) (hm:Md (fun k=>k=dm) wB w):eA w B tb U F xs:=h.U6.wk<|h.wk.trans' hm fun k hk h2=>by have :=h.lo; omega
theorem jD.dY (h:jD w0 wB B kb tb U F xs ar cr rn fm dm) (hm:Md (fun k=>k=dm) wB w):BK w fm F:=by
 obtain ⟨f,h1,h2⟩:=h.fs
 refine ⟨f,h1.md hm h.ne,fun z A=> ?_⟩
 obtain ⟨a,c,B,h3,h4⟩:=h2 z A
 exact ⟨a,c,B,h3,c5 h4 hm h.tf ay⟩
theorem jD.lt (h:jD w0 wB B kb tb U F xs ar cr rn fm dm):dm < wB.heap.size:=by obtain ⟨es,c,h1⟩:=h.DA; exact (cY.1 h1).1
theorem jD.lD (h:jD w0 wB B kb tb U F xs ar cr rn fm dm) {k:Nat} {r:cC} (c:F.rules[k]? =some r):∃ u,(F.rules.zip rn)[k]? =some (r,u):=by
 have hk:=(eu.1 c).1
 have A:k < rn.length:=by rw [h.TI]; exact hk
 exact ⟨rn[k],jh.2 ⟨c,bZ A⟩⟩
end
theorem zK {s:Tx} {xs:List bh} {n:Nat} :n∈idxs s xs↔∃ x,xs[n]? =some x∧x.1=s:=by
 unfold idxs
 rw [pB,mW,decide_eq_true_iff]
 constructor
 · rintro ⟨h1,h2⟩
   refine ⟨xs[n],bZ h1,?_⟩
   rw [cM,bZ h1] at h2; exact h2
 · rintro ⟨x,c,rfl⟩
   exact ⟨(eu.1 c).1,by rw [cM,c]; rfl⟩
def np (F:aB) (xs:List bh) (wd stem:Tx) (f s p:Int) (S:bF→Prop) (i:Nat) (d:bF):Prop :=S d∨∃ j,j < i∧d=⟨wd,(idxs stem xs).getD j 0,f,s,p⟩∧fz F xs ((idxs stem xs).getD j 0) f s p=some wd
section
variable {F:aB} {xs:List bh} {wd stem:Tx} {f s p:Int} {S:bF→Prop} {i:Nat}
theorem Rj (h:fz F xs ((idxs stem xs).getD i 0) f s p=some wd) (d:bF):np F xs wd stem f s p S (i+1) d↔(np F xs wd stem f s p S i d∨d=⟨wd,(idxs stem xs).getD i 0,f,s,p⟩):=by
 unfold np
 constructor
 · rintro (h1 | ⟨j,c,h1,h2⟩)
   · exact .inl<|.inl h1
   · rcases nQ.1 c with c | rfl
     · exact .inl<|.inr ⟨j,c,h1,h2⟩
     · exact .inr h1
 · rintro ((h1 | ⟨j,c,h1⟩) | h1)
   · exact .inl h1
   · exact .inr ⟨j,ab,h1⟩
   · exact .inr ⟨i,ab,h1,h⟩
theorem Fo (h:fz F xs ((idxs stem xs).getD i 0) f s p≠some wd) (d:bF):np F xs wd stem f s p S (i+1) d↔np F xs wd stem f s p S i d:=by
 unfold np
 constructor
 · rintro (h1 | ⟨j,c,h1,h2⟩)
   · exact .inl h1
   · rcases nQ.1 c with c | rfl
     · exact .inr ⟨j,c,h1,h2⟩
     · exact absurd h2 h
 · rintro (h1 | ⟨j,c,h1⟩)
   · exact .inl h1
   · exact .inr ⟨j,ab,h1⟩
theorem Ri (d:bF):np F xs wd stem f s p S (idxs stem xs).length d↔(S d∨lS F xs wd stem f s p d):=by
 unfold np lS
 constructor
 · rintro (h | ⟨j,c,h1,h2⟩)
   · exact .inl h
   · obtain ⟨x,A,hs⟩:=zK.1<|fg (d:=0) c
     exact .inr ⟨_,x,A,hs,h1,h2⟩
 · rintro (h | ⟨n,x,A,hs,h1,h2⟩)
   · exact .inl h
   · obtain ⟨j,c,e⟩:=og 0<|zK.2 ⟨x,A,hs⟩
     exact .inr ⟨j,c,by rw [e]; exact h1,by rw [e]; exact h2⟩
end
theorem zD (w0 wB:World) (B kb tb:Nat) (U:eS) (F:aB) (xs:List bh) (ar:Option Addr) (cr:Nat) (rn:List Value) (fm dm:Nat) (J:jD w0 wB B kb tb U F xs ar cr rn fm dm) (aZ:eJ F xs) (wd stem:Tx) (aW:Nat) (f s pp:Int) (S:bF→Prop) (w:World) (hm:Md (fun k=>k=dm) wB w) (bA:iZ w.heap dm S) (bO: -1≤f) (hs: -1≤s) (b0: -1≤pp):
 ba au 101 (aX [aV kb,str stem,.agg [str wd,aj aW,.int .i64 f,.int .i64 s,.int .i64 pp].toArray]) w (fun v w'=>v= .tuple #[]∧iZ w'.heap dm (fun d=>S d∨lS F xs wd stem f s pp d)∧Md (fun k=>k=dm) w w'):=by
 have cg:=aZ.xl
 have cc:=J.lt
 have ce:=hm.size
 have ca:(idxs stem xs).length≤xs.length:=by unfold idxs; exact dZ (mT _ _)<|by simp
 refine enter func101 aa ntmps101 aa<|ak fun bk=>e<|pR aa fun Y av b9 al bv=> ?_
 have ci:=al.size
 have am:Md (fun k=>k=dm) wB av:=hm.trans' al.md fun _ _ h=>h.elim
 have bJ:av.heap[Y]? =some (.cells [str wd,.int .i64 ((aW:Nat):Int),.int .i64 f,.int .i64 s,.int .i64 pp].toArray 49 (0,0)):=bv
 have bC:=bA.md al.md id
 refine nl<|bk<|ak fun bl=>p mv<|p (nc aa)<|p (fa Eh aa)<|p (ld sr aa<|(bj<|J.at am).trans aa)<|p (nc aa)<|p (fa Eg aa)<|p (ld BR aa<|(bj (J.AL am).cells).trans aa)<|p mv<|e<|cl KA (NT B U.wb U.mb U.va U.vs xs av (J.AL am).wd ab stem) aa fun cj ck bI=> ?_
 obtain ⟨bi,ac⟩:=bI
 obtain ⟨aS,aT,rfl⟩:=cQ bi
 have bz:=al.md.trans ac
 have ch:=ac.size
 refine p (bM rK aa aa)<|p mv<|nl<|bl<|aE<|lp (fun aY V O=> ∃ (i:Nat) (en:Int),(i≤(idxs stem xs).length)∧(Md (fun k=>k=dm) wB O)∧(Md (fun k=>k=dm) w O)∧(iZ O.heap dm<|np F xs wd stem f s pp S<|i)∧(O.heap[Y]? =some (.cells [str wd,.int .i64 en,.int .i64 f,.int .i64 s,.int .i64 pp].toArray 49 (0,0)))∧(bm O av.heap.size 3 1 (.slice aS (idxs stem xs).length aT) (idxs stem xs).length<|(idxs stem xs).map fV)∧(V 0=aV kb)∧(V 5=aV Y)∧(V 18= .slice aS (idxs stem xs).length aT)∧(V 19=aj ((idxs stem xs).length))∧(V 20=aj i)∧((idxs stem xs).length - i=aY)) _ ⟨0,_,ab,(am.trans' ac fun _ _ h=>h.elim),(bz.mono fun _ _ h=>h.elim),((bC.md ac id).congr fun d=>⟨fun h=>h.resolve_right (fun ⟨j,bd,_⟩=>by omega),.inl⟩),(Wk.aE ac bJ),bi,aa,aa,aa,aa,aa,aa⟩ ?_
 rintro aY V O ⟨i,en,hi,bU,bf,a0,bL,ap,b1,b5,b2,b3,b4,rfl⟩
 refine fx 0 b1<|fx 5 b5<|fx 18 b2<|fx 19 b3<|fx 20 b4<|ak fun bo=>p (lt aa aa)<|nl<|bo<|az fun bq=>cd aa (fun bQ=> ?_) fun bQ=> ?_
 refine aQ<|bq<|az fun ax=>aE<|ak fun br=>p (a7 q6 aa aa ab<|aG.ok ((aU ap).2)<|cX ab)<|p (ld bR aa<|aG.iD (i:=i) (aU ap).2<|zd ab)<|aw<|br<|ak fun bs=>p mv<|p (fa lj aa)<|e<|dQ j6 aa aa (v:= .int .i64 ((((idxs stem xs).getD i 0):Nat):Int)) aa bL (by show 1 < 5; omega) fun G ai bu=> ?_
 have a9:G.heap[Y]? =some (.cells [str wd,.int .i64 ((((idxs stem xs).getD i 0):Nat):Int),.int .i64 f,.int .i64 s,.int .i64 pp].toArray 49 (0,0)):=bu
 have aF:Md (fun k=>k=dm) wB G:=bU.trans' ai fun q ah h=>by omega
 have bV:Md (fun k=>k=dm) w G:=bf.trans' ai fun q ah h=>by omega
 have bg:¬(dm=Y):=ab
 have bB:=a0.md ai bg
 have bY:=cz ap ai fun q ah h=>by have :=(dd ap ah).1; omega
 have bX:=(eu.1 (zK.1<|fg (d:=0) (show i < (idxs stem xs).length by omega)).choose_spec.1).1
 refine nl<|bs<|az fun bt=> ?_
 have I:(fun w'=>Wk G w') G.drew:=(Md.refl _ _).drew
 refine cD (fun w'=>Wk G w') aa wide I<|bT 0 aa (aV kb) I<|aR 1 aa (fun _ _=>nc aa) I<|aR 2 aa (fun _ _=>fa Eh aa) I<|aR 3 aa (fun w' A=>ld sr aa<|Wk.aM A<|(bj<|J.at aF).trans aa) I<|aR 4 aa (fun w' A=>cK k6 aa (aa) fun j bd=>(Wk.B A<|pP a9).bp j) I<|he 5 aa ag<|cl K0 (Rz B tb U F xs wd (((idxs stem xs).getD i 0):Nat) f s pp G.drew (J.AL aF.drew) aZ bO hs b0) aa fun v32 E a2=> ?_
 rw [s7 bX] at a2
 obtain ⟨rfl,bx⟩:=a2
 have c:(fun w'=>Wk G w') E:=I.trans bx
 refine ⟨c,?_⟩
 refine aR 6 aa (fun _ _=>mv) c<|aR 7 aa (fun _ _=>xt aa aa) c<|aR 8 aa (fun _ _=>xt aa aa) c<|aR 9 aa (fun _ _=>aC) c<|aR 10 aa (fun _ _=>aC) c<|hn ag<|bt<|az fun aP=> ?_
 have an:Md (fun k=>k=dm) wB E:=aF.trans' c fun _ _ h=>h.elim
 have aI:Md (fun k=>k=dm) w E:=bV.trans' c fun _ _ h=>h.elim
 have aA:=bB.md c id
 have ae:=Wk.aE c a9
 have aN:=a8 bY c
 refine rg aa<|p mv<|p mv<|gb (t:=36) aa (fun aq=> ?_) fun aq=> ?_
 obtain ⟨v,b6⟩:∃ v,fz F xs ((idxs stem xs).getD i 0) f s pp=some v:=nS.1<|by simpa using aq
 refine aK aa mv<|aK aa (fa Pt aa)<|aK aa (ld cB aa<|(bj ae).trans aa)<|aK aa (iS aa aa)<|p (bN aa)<|nl<|aP<|cd aa (fun heq=> ?_) fun heq=> ?_
 have b7:fz F xs ((idxs stem xs).getD i 0) f s pp=some wd:=by rw [b6] at heq ⊢; exact congrArg some heq
 have cb:(dF ⟨wd,((idxs stem xs).getD i 0),f,s,pp⟩)= .agg [str wd,.int .i64 ((((idxs stem xs).getD i 0):Nat):Int),.int .i64 f,.int .i64 s,.int .i64 pp].toArray:=rfl
 obtain ⟨fd,aD,bP,bb⟩:=aA
 obtain ⟨Z,a6⟩:∃ Z:Int,(fd<|dF ⟨wd,((idxs stem xs).getD i 0),f,s,pp⟩).getD (.int .i64 0)= .int .i64 Z:=by
  cases ah:fd (dF ⟨wd,((idxs stem xs).getD i 0),f,s,pp⟩) with
  | none=>exact ⟨0,rfl⟩
  | some u=>obtain ⟨n,rfl⟩:=bb _ _ ah; exact ⟨n,rfl⟩
 have C:(fun w'=>Md (fun k=>k=dm) E w'∧uk w'.heap dm (dF ⟨wd,((idxs stem xs).getD i 0),f,s,pp⟩) (.int .i64 0) (.int .i64 Z)) E.drew:=⟨(Md.refl _ _).drew,fd,aD.vE,a6⟩
 refine eF (fun w'=>Md (fun k=>k=dm) E w'∧uk w'.heap dm (dF ⟨wd,((idxs stem xs).getD i 0),f,s,pp⟩) (.int .i64 0) (.int .i64 Z)) 9 aa wide C<|lq 0 aa ag (fun _ _=>aH (aV kb) aa) C<|lq 1 aa ag (fun _ _=>nc aa) C<|lq 2 aa ag (fun _ _=>fa Ei aa) C<|lq 3 aa ag (fun w' A=>ld BN aa<|(bj<|J.at<|an.trans A.1).trans aa) C<|lq 4 aa ag (fun w' A=>cK k6 aa (aa) fun j bd=>(Md.B A.1 (pP ae) fun h=>bg h.symm).bp j) C<|lq 5 aa ag (fun w' A=>Rm AQ l5 A.2 aa aa ⟨_,aa⟩) C<|lq 6 aa ag (fun _ _=>bG _ rfl aa aa) C<|iL 7 aa ag<|RI AQ l5 (kx:=dF ⟨wd,((idxs stem xs).getD i 0),f,s,pp⟩) E7 aD aa aa ⟨_,aa⟩ fun AG b8 a1 a3=> ?_
 have a4:(fun w'=>Md (fun k=>k=dm) E w'∧uk w'.heap dm (dF ⟨wd,((idxs stem xs).getD i 0),f,s,pp⟩) (.int .i64 0) (.int .i64 Z)) b8:=⟨C.1.trans a1,_,a3.RV.vE,by rw [lV]; exact a6⟩
 refine ⟨a4,?_⟩
 refine lq 8 aa ag (fun _ _=>xt aa aa) a4<|db 9 aa ag ag<|RK a3 aa aa aa fun aO bE bw=> ?_
 have ao:=(Md.refl (fun k=>k=dm) E).drew.trans<|a1.trans bE
 have bS:Md (fun k=>k=dm) wB aO:=an.trans ao
 have bW:Md (fun k=>k=dm) w aO:=aI.trans ao
 have bD:iZ aO.heap dm (np F xs wd stem f s pp S<|i+1):=(iZ.put bP bb bw).congr<|Rj b7
 have a5:TF E [1] (fun k=>k=dm):=TF.eq (wq aD.vE.choose_spec.1) ay
 have bK:=ao.jH a5 ae ay
 have bZ:=c5 aN ao a5 ay
 exact eE ag<|bn<|ax<|rg aa<|p (ad aa aa<|cH ab)<|p mv<|nl<|tn<|⟨_,ab,i+1,_,ab,bS,bW,bD,bK,bZ,aa,aa,aa,aa,aa,aa⟩
 have aL:fz F xs ((idxs stem xs).getD i 0) f s pp≠some wd:=fun h=>heq<|by rw [h]; rfl
 exact aQ<|bn<|ax<|rg aa<|p (ad aa aa<|cH ab)<|p mv<|nl<|tn<|⟨_,ab,i+1,_,ab,an,aI,(aA.congr<|Fo aL),ae,aN,aa,aa,aa,aa,aa,aa⟩
 have aL:fz F xs ((idxs stem xs).getD i 0) f s pp≠some wd:=fun h=>by rw [h] at aq; cases aq
 exact aJ aa<|aJ aa<|aJ aa<|aJ aa<|p (bH aa)<|nl<|aP<|cf aa<|aQ<|bn<|ax<|rg aa<|p (ad aa aa<|cH ab)<|p mv<|nl<|tn<|⟨_,ab,i+1,_,ab,an,aI,(aA.congr<|Fo aL),ae,aN,aa,aa,aa,aa,aa,aa⟩
 refine ext<|bc<|bc<|be<|f0 aa ?_
 obtain rfl :i=(idxs stem xs).length:=ab
 exact ⟨aa,a0.congr (fun d=>(Ri d).symm),bf⟩
end Go.Hb
end
section
namespace Go.Hb
open Go.Hb.iP
section
variable {F:aB} {xs:List bh} {wd word:Tx} {p:Int} {S:bF→Prop} {i:Nat}
def mq (F:aB) (xs:List bh) (wd word:Tx) (p:Int) (S:bF→Prop) (i:Nat) (d:bF):Prop :=S d∨mr F xs wd word p i d
def lN (F:aB) (xs:List bh) (wd word sm:Tx) (p:Int) (S:bF→Prop) (i j:Nat) (d:bF):Prop :=(mq F xs wd word p S i d∨lS F xs wd sm i (-1) p d)∨
 ∃ k rt,k < j∧eL (F.rules.getD ((dY F F.rules.length i).getD k 0) dp) sm=some rt∧lS F xs wd rt ((dY F F.rules.length i).getD k 0:Nat) i p d
theorem LV (d:bF):mq F xs wd word p S 0 d↔(S d∨lS F xs wd word (-1) (-1) p d):=by
 unfold mq mr
 constructor
 · rintro (h | h | ⟨i,r,h,_⟩)
   · exact .inl h
   · exact .inr h
   · omega
 · rintro (h | h)
   · exact .inl h
   · exact .inr<|.inl h
theorem CX {r:cC} (C:F.rules[i]? =some r) (h:r.kind≠2∨eL r word=none) (d:bF):mq F xs wd word p S (i+1) d↔mq F xs wd word p S i d:=by
 unfold mq mr
 constructor
 · rintro (h1 | h1 | ⟨k,A,hk,c,h2,st,h3,h4⟩)
   · exact .inl h1
   · exact .inr<|.inl h1
   · rcases nQ.1 hk with hk | rfl
     · exact .inr<|.inr ⟨k,A,hk,c,h2,st,h3,h4⟩
     · rw [C] at c; cases c
       rcases h with h | h
       · exact absurd h2 h
       · rw [h] at h3; cases h3
 · rintro (h1 | h1 | ⟨k,A,hk,h2⟩)
   · exact .inl h1
   · exact .inr<|.inl h1
   · exact .inr<|.inr ⟨k,A,ab,h2⟩
theorem LW {r:cC} {sm:Tx} (C:F.rules[i]? =some r) (hk:r.kind=2) (hu:eL r word=some sm) (d:bF):mq F xs wd word p S (i+1) d↔lN F xs wd word sm p S i (dY F F.rules.length i).length d:=by
 unfold lN mq mr
 constructor
 · rintro (h1 | h1 | ⟨k,G,c,E,h2,st,h3,h4⟩)
   · exact .inl<|.inl<|.inl h1
   · exact .inl<|.inl<|.inr<|.inl h1
   · rcases nQ.1 c with c | rfl
     · exact .inl<|.inl<|.inr<|.inr ⟨k,G,c,E,h2,st,h3,h4⟩
     · rw [C] at E; cases E
       rw [hu] at h3; cases h3
       rcases h4 with h4 | ⟨f,I,rt,h5,A⟩
       · exact .inl<|.inr h4
       · obtain ⟨m,hm,e⟩:=og 0 I
         exact .inr ⟨m,rt,hm,by rw [e]; exact h5,by rw [e]; exact A⟩
 · rintro (((h1 | h1 | ⟨k,G,c,h2⟩) | h1) | ⟨m,rt,hm,h5,A⟩)
   · exact .inl h1
   · exact .inr<|.inl h1
   · exact .inr<|.inr ⟨k,G,ab,h2⟩
   · exact .inr<|.inr ⟨i,r,ab,C,hk,sm,hu,.inl h1⟩
   · exact .inr<|.inr ⟨i,r,ab,C,hk,sm,hu,.inr ⟨_,fg (d:=0) hm,rt,h5,A⟩⟩
theorem LZ {sm:Tx} (d:bF):lN F xs wd word sm p S i 0 d↔(mq F xs wd word p S i d∨lS F xs wd sm i (-1) p d):=by
 unfold lN
 exact ⟨fun h=>h.resolve_right (fun ⟨k,_,h,_⟩=>by omega),.inl⟩
theorem LX {sm:Tx} {j:Nat} (h:eL (F.rules.getD ((dY F F.rules.length i).getD j 0) dp) sm=none) (d:bF):lN F xs wd word sm p S i (j+1) d↔lN F xs wd word sm p S i j d:=by
 unfold lN
 constructor
 · rintro (h1 | ⟨k,rt,hk,h2,h3⟩)
   · exact .inl h1
   · rcases nQ.1 hk with hk | rfl
     · exact .inr ⟨k,rt,hk,h2,h3⟩
     · rw [h] at h2; cases h2
 · rintro (h1 | ⟨k,rt,hk,h2⟩)
   · exact .inl h1
   · exact .inr ⟨k,rt,ab,h2⟩
theorem LY {sm rt:Tx} {j:Nat} (h:eL (F.rules.getD ((dY F F.rules.length i).getD j 0) dp) sm=some rt) (d:bF):lN F xs wd word sm p S i (j+1) d↔(lN F xs wd word sm p S i j d∨lS F xs wd rt ((dY F F.rules.length i).getD j 0:Nat) i p d):=by
 unfold lN
 constructor
 · rintro (h1 | ⟨k,c,hk,h2,h3⟩)
   · exact .inl<|.inl h1
   · rcases nQ.1 hk with hk | rfl
     · exact .inl<|.inr ⟨k,c,hk,h2,h3⟩
     · rw [h] at h2; cases h2; exact .inr h3
 · rintro ((h1 | ⟨k,c,hk,h2⟩) | h1)
   · exact .inl h1
   · exact .inr ⟨k,c,ab,h2⟩
   · exact .inr ⟨j,rt,ab,h,h1⟩
end
theorem OY {F:aB} {n z i:Nat} (h:i∈dY F n z):i < n:=mW.1 (pB.1 h).1
theorem CZ (w0 wB:World) (B kb tb:Nat) (U:eS) (F:aB) (xs:List bh) (ar:Option Addr) (cr:Nat) (rn:List Value) (fm dm:Nat) (c:jD w0 wB B kb tb U F xs ar cr rn fm dm) (A:eJ F xs) (wd word:Tx) (G:Nat) (pp:Int) (S:bF→Prop) (w:World) (hm:Md (fun k=>k=dm) wB w) (cw:iZ w.heap dm S) (aS: -1≤pp) (dH:word.length≤4194304):
 ba au 58 (aX [aV kb,str word,.agg [str wd,aj G,.int .i64 (-1),.int .i64 (-1),.int .i64 pp].toArray]) w (fun v w'=>v= .tuple #[]∧iZ w'.heap dm (fun d=>S d∨mr F xs wd word pp F.rules.length d)∧Md (fun k=>k=dm) w w'):=by
 have dI:=A.xl
 have dA:=c.lt
 have dF:=hm.size
 have dC:=A.len
 refine enter func58 aa ntmps58 aa<|ak fun b0=>e<|pR aa fun E aY dx aq cs=> ?_
 have dJ:=aq.size
 have bx:Md (fun k=>k=dm) wB aY:=hm.trans' aq.md fun _ _ h=>h.elim
 have bq:aY.heap[E]? =some (.cells [str wd,aj G,.int .i64 (-1),.int .i64 (-1),.int .i64 pp].toArray 49 (0,0)):=cs
 have cz:=cw.md aq.md id
 have ae:¬(E=dm):=ab
 refine nl<|b0<|ak fun ca=>p mv<|p mv<|p (cK k6 aa (aa) fun q J=>(pP bq).bp q)<|e<|cl ya (zD w0 wB B kb tb U F xs ar cr rn fm dm c A wd word G (-1) (-1) pp S aY bx cz ab ab aS) aa fun v17 bP cH=> ?_
 obtain ⟨rfl,cx,aD⟩:=cH
 have bu:Md (fun k=>k=dm) wB bP:=bx.trans aD
 have cO:=aD.aE bq ae
 have c2:Md (fun k=>k=dm) w bP:=(aq.md.mono fun _ _ h=>h.elim).trans aD
 refine nl<|ca<|ak fun cg=>p mv<|p (nc aa)<|p (fa vm aa)<|p (ld k5 aa<|(bj<|c.at bu).trans aa)<|p (bM o4 aa aa)<|p mv<|nl<|cg<|aE<|lp (fun Z V Y=> ∃ (i:Nat) (bU z2:Int),(i≤F.rules.length)∧(Md (fun k=>k=dm) wB Y)∧(Md (fun k=>k=dm) w Y)∧(iZ Y.heap dm<|mq F xs wd word pp S<|i)∧(Y.heap[E]? =some (.cells [str wd,aj G,.int .i64 bU,.int .i64 z2,.int .i64 pp].toArray 49 (0,0)))∧(V 0=aV kb)∧(V 1=str word)∧(V 5=aV E)∧(V 21= .slice ar F.rules.length cr)∧(V 22=aj (F.rules.length))∧(V 23=aj i)∧(F.rules.length - i=Z)) _ ⟨0,_,_,ab,bu,c2,(cx.congr LV),cO,aa,aa,aa,aa,aa,aa,aa⟩ ?_
 rintro Z V Y ⟨i,bU,z2,hi,aP,bB,a9,cR,db,dc,dg,dd,de,df,rfl⟩
 refine fx 0 db<|fx 1 dc<|fx 5 dg<|fx 21 dd<|fx 22 de<|fx 23 df<|ak fun ch=>p (lt aa aa)<|nl<|ch<|az fun ci=>cd aa (fun cW=> ?_) fun cW=> ?_
 refine aQ<|ci<|az fun aA=>aE<|az fun cj=> ?_
 obtain ⟨r,I⟩:∃ r,F.rules[i]? =some r:=⟨_,bZ ab⟩
 obtain ⟨u,aW⟩:=c.lD I
 have dv:=c.ro u (xI<|gB aW).2
 refine rg aa<|ao (aj i)<|p (a7 lg aa aa ab<|aG.ok (c.rules aP)<|lZ aW)<|p (cK j0 aa (aa)<|gY (f:=dG) (m:=7) (fun _=>rfl) (c.rules aP) aW)<|e<|iq ou fun cn dN aI bd ct=> ?_
 have dK:=bd.size
 refine p (bV (aj i) aa)<|e<|gw mA aa aa aa (Gr dv) ct ay fun ai cE cq=> ?_
 have am:Wk Y ai:=bd.md.trans' cE fun q J h=>by omega
 have aI:bE ai.heap cn (dG (r,u)):=⟨_,cq⟩
 have bw:Md (fun k=>k=dm) wB ai:=aP.trans' am fun _ _ h=>h.elim
 have bH:Md (fun k=>k=dm) w ai:=bB.trans' am fun _ _ h=>h.elim
 have a5:=a9.md am id
 have bo:=Wk.aE am cR
 refine nl<|cj<|az fun ck=>ak fun cm=>p (fa sO aa)<|p (ld bR aa<|aI.bp 0)<|p (gu aa aa)<|nl<|cm<|cd aa (fun hk=> ?_) fun hk=> ?_
 have aL:=CX (xs:=xs) (wd:=wd) (word:=word) (p:=pp) (S:=S) I<|.inl (show r.kind≠2 by have h:=hk; dsimp only at h; omega)
 exact ext<|bc<|be<|aA<|rg aa<|p (bG ((i+1:Nat):Int) aa aa<|bf ab ab)<|p mv<|nl<|tn<|⟨_,ab,i+1,_,_,ab,bw,bH,(a5.congr aL),bo,aa,aa,aa,aa,aa,aa,aa⟩
 have cZ:r.kind=2:=by have h:=hk; dsimp only at h; omega
 refine aQ<|ck<|ak fun b1=>p (cK j0 aa (aa) fun q J=>aI.bp q)<|ao (str word)<|e<|cl yr (AX r u word ai (A.lD I).2.2.1 (lX A I).2.1 (lX A I).2.2.1 ab) aa fun dL bQ cI=> ?_
 obtain ⟨rfl,al⟩:=cI
 have bv:Md (fun k=>k=dm) wB bQ:=bw.trans' al fun _ _ h=>h.elim
 have bD:Md (fun k=>k=dm) w bQ:=bH.trans' al fun _ _ h=>h.elim
 have a4:=a5.md al id
 have bl:=Wk.aE al bo
 refine p mv<|p (xt aa aa)<|p (xt aa aa)<|p aC<|aw<|b1<|az fun b2=>ak fun b3=>p mv<|p (no aa)<|nl<|b3<|cb aa (fun aJ=> ?_) fun aJ=> ?_
 have aL:=CX (xs:=xs) (wd:=wd) (p:=pp) (S:=S) I<|.inr (show eL r word=none by simpa using aJ)
 exact ext<|bc<|be<|aA<|rg aa<|p (bG ((i+1:Nat):Int) aa aa<|bf ab ab)<|p mv<|nl<|tn<|⟨_,ab,i+1,_,_,ab,bv,bD,(a4.congr aL),bl,aa,aa,aa,aa,aa,aa,aa⟩
 obtain ⟨sm,aT⟩:∃ sm,eL r word=some sm:=nS.1<|by simpa using aJ
 have dE:=Hg aT
 have dB:=(lX A I).1
 have av:(eL r word).getD []=sm:=by rw [aT]; rfl
 have dD:r.strip.length≤32:=(A.lD I).2.2.1
 refine aQ<|b2<|ak fun b4=>ao (aj i)<|p (fa lk aa)<|e<|dQ j6 aa aa (v:=aj i) aa bl (by show 2 < 5; omega) fun dP cG cv=>p (fa ll aa)<|e<|dQ j6 aa aa (v:= .int .i64<|-1) aa cv (by show 3 < 5; omega) fun ax cF cu=> ?_
 have br:ax.heap[E]? =some (.cells [str wd,aj G,aj i,.int .i64 (-1),.int .i64 pp].toArray 49 (0,0)):=cu
 have aH:=cG.trans cF
 have bA:Md (fun k=>k=dm) wB ax:=bv.trans' aH fun q J h=>by omega
 have c6:Md (fun k=>k=dm) w ax:=bD.trans' aH fun q J h=>by omega
 have cB:=a4.md aH fun h=>ae h.symm
 refine nl<|b4<|ak fun b5=>ao (aV kb)<|p mv<|p (cK k6 aa (aa) fun q J=>(pP br).bp q)<|e<|cl ya (zD w0 wB B kb tb U F xs ar cr rn fm dm c A wd ((eL r word).getD []) G (i:Nat) (-1) pp (mq F xs wd word pp S<|i) ax bA cB ab ab aS) aa fun v45 bS bg=> ?_
 rw [av] at bg
 obtain ⟨rfl,cy,aF⟩:=bg
 have aO:Md (fun k=>k=dm) wB bS:=bA.trans aF
 have c3:Md (fun k=>k=dm) w bS:=c6.trans aF
 have cP:=aF.aE br ae
 obtain ⟨fo,cT,cU⟩:=c.dY aO
 obtain ⟨a1,a2,bX,cV,c9⟩:=cU i ab
 have dy:(dY F F.rules.length i).length≤F.rules.length:=by have :=mT (fun q:Nat=>decide (i∈bC F (bY F (q:Int)) 2)) (fD F.rules.length); unfold dY; rw [r7] at this; exact this
 refine nl<|b5<|ak fun b6=>ao (aV kb)<|p (nc aa)<|p (fa y4 aa)<|p (ld xU aa<|(bj<|c.at aO).trans aa)<|ao (aj i)<|p (kN AP xc zp (cT) aa aa (⟨_,aa⟩)<|cV)<|p (bM rK aa aa)<|p mv<|nl<|b6<|aE<|lp (fun Z C O=> ∃ (j:Nat) (bW z3:Int),(j≤(dY F F.rules.length i).length)∧(Md (fun k=>k=dm) wB O)∧(Md (fun k=>k=dm) w O)∧(iZ O.heap dm<|lN F xs wd word sm pp S i<|j)∧(O.heap[E]? =some (.cells [str wd,aj G,.int .i64 bW,.int .i64 z3,.int .i64 pp].toArray 49 (0,0)))∧(bm O bX 3 1 (.slice a1 (dY F F.rules.length i).length a2) (dY F F.rules.length i).length<|(dY F F.rules.length i).map fV)∧(C 0=aV kb)∧(C 1=str word)∧(C 5=aV E)∧(C 6=aj i)∧(C 8=str sm)∧(C 21= .slice ar F.rules.length cr)∧(C 22=aj (F.rules.length))∧(C 23=aj i)∧(C 51= .slice a1 (dY F F.rules.length i).length a2)∧(C 52=aj ((dY F F.rules.length i).length))∧(C 53=aj j)∧((dY F F.rules.length i).length - j=Z)) _ ⟨0,_,_,ab,aO,c3,(cy.congr LZ),cP,c9,aa,aa,aa,aa,(by first | rfl | exact congrArg str av),aa,aa,aa,aa,aa,aa,aa⟩ ?_
 rintro Z C O ⟨j,bW,z3,dz,ad,bJ,bb,bs,aR,dh,di,dn,dt,du,dj,dk,dl,dq,dr,ds,rfl⟩
 refine fx 0 dh<|fx 1 di<|fx 5 dn<|fx 6 dt<|fx 8 du<|fx 21 dj<|fx 22 dk<|fx 23 dl<|fx 51 dq<|fx 52 dr<|fx 53 ds<|ak fun b7=>p (lt aa aa)<|nl<|b7<|az fun b8=>cd aa (fun cY=> ?_) fun cY=> ?_
 refine aQ<|b8<|az fun a0=>aE<|ak fun b9=>p (a7 q6 aa aa ab<|aG.ok ((aU aR).2)<|cX ab)<|p (ld bR aa<|aG.iD (i:=j) (aU aR).2<|zd ab)<|aw<|b9<|az fun cc=> ?_
 have cS:((dY F F.rules.length i).getD j 0) < F.rules.length:=OY<|fg (d:=0) (show j < (dY F F.rules.length i).length by omega)
 obtain ⟨rf,ag⟩:∃ r,F.rules[((dY F F.rules.length i).getD j 0)]? =some r:=⟨_,bZ cS⟩
 have bL:F.rules.getD ((dY F F.rules.length i).getD j 0) dp=rf:=by rw [cM,ag]; rfl
 obtain ⟨dw,bO⟩:=c.lD ag
 refine rg aa<|ao (aV kb)<|p (nc aa)<|p (fa vm aa)<|p (ld k5 aa<|(bj<|c.at ad).trans aa)<|p mv<|p (a7 lg aa aa ab<|aG.ok (c.rules ad)<|lZ bO)<|p (cK j0 aa (aa)<|gY (f:=dG) (m:=7) (fun _=>rfl) (c.rules ad) bO)<|ao (str sm)<|e<|cl yr (AX rf dw sm O (A.lD ag).2.2.1 (lX A ag).2.1 (lX A ag).2.2.1 ab) aa fun v66 aZ cJ=> ?_
 obtain ⟨rfl,ac⟩:=cJ
 have bz:Md (fun k=>k=dm) wB aZ:=ad.trans' ac fun _ _ h=>h.elim
 have bI:Md (fun k=>k=dm) w aZ:=bJ.trans' ac fun _ _ h=>h.elim
 have a6:=bb.md ac id
 have aN:=Wk.aE ac bs
 have bK:=a8 aR ac
 refine p mv<|p (xt aa aa)<|p (xt aa aa)<|p aC<|aw<|cc<|az fun ce=>rg aa<|p mv<|nl<|ce<|cb aa (fun aK=> ?_) fun aK=> ?_
 obtain ⟨rt,bN⟩:∃ rt,eL rf sm=some rt:=nS.1<|by simpa using aK
 have da:(eL rf sm).getD []=rt:=by rw [bN]; rfl
 have aM:=LY (xs:=xs) (wd:=wd) (word:=word) (p:=pp) (S:=S) (i:=i) (j:=j)<|by rw [bL]; exact bN
 refine ak fun cf=>p mv<|ao (aj i)<|p (fa lk aa)<|e<|dQ j6 aa aa (v:= .int .i64 ((((dY F F.rules.length i).getD j 0):Nat):Int)) aa aN (by show 2 < 5; omega) fun dM cD cp=>p (fa ll aa)<|e<|dQ j6 aa aa (v:=aj i) aa cp (by show 3 < 5; omega) fun ah cC co=> ?_
 have bk:ah.heap[E]? =some (.cells [str wd,aj G,.int .i64 ((((dY F F.rules.length i).getD j 0):Nat):Int),aj i,.int .i64 pp].toArray 49 (0,0)):=co
 have ap:=cD.trans cC
 have bt:Md (fun k=>k=dm) wB ah:=bz.trans' ap fun q J h=>by omega
 have c1:Md (fun k=>k=dm) w ah:=bI.trans' ap fun q J h=>by omega
 have a3:=a6.md ap fun h=>ae h.symm
 have cL:TF aZ [51] (fun q=>q=E):=TF.eq (dO aN) ay
 have c7:=c5 bK ap cL ay
 refine nl<|cf<|rg aa<|ao (aV kb)<|p mv<|p (cK k6 aa (aa) fun q J=>(pP bk).bp q)<|e<|cl ya (zD w0 wB B kb tb U F xs ar cr rn fm dm c A wd ((eL rf sm).getD []) G ((((dY F F.rules.length i).getD j 0):Nat):Int) (i:Nat) pp (lN F xs wd word sm pp S i<|j) ah bt a3 ab ab aS) aa fun v77 bT bi=> ?_
 rw [da] at bi
 obtain ⟨rfl,cA,an⟩:=bi
 have c0:Md (fun k=>k=dm) wB bT:=bt.trans an
 have c4:Md (fun k=>k=dm) w bT:=c1.trans an
 have cQ:=an.aE bk ae
 have cN:TF ah [1] (fun q=>q=dm):=TF.eq (wq a3.choose_spec.1.vE.choose_spec.1) ay
 have c8:=c5 c7 an cN ay
 exact nl<|bn<|a0<|rg aa<|p (bG ((j+1:Nat):Int) aa aa<|bf ab ab)<|p mv<|nl<|tn<|⟨_,ab,j+1,_,_,ab,c0,c4,(cA.congr aM),cQ,c8,aa,aa,aa,aa,(by first | rfl | exact congrArg str av),aa,aa,aa,aa,aa,aa,aa⟩
 have aM:=LX (xs:=xs) (wd:=wd) (word:=word) (p:=pp) (S:=S) (i:=i) (j:=j) (show eL (F.rules.getD _ dp) sm=none by rw [bL]; simpa using aK)
 exact aQ<|bn<|a0<|rg aa<|p (bG ((j+1:Nat):Int) aa aa<|bf ab ab)<|p mv<|nl<|tn<|⟨_,ab,j+1,_,_,ab,bz,bI,(a6.congr aM),aN,bK,aa,aa,aa,aa,(by first | rfl | exact congrArg str av),aa,aa,aa,aa,aa,aa,aa⟩
 exact ext<|bc<|bc<|be<|bn<|aA<|rg aa<|p (bG ((i+1:Nat):Int) aa aa<|bf ab ab)<|p mv<|nl<|tn<|⟨_,ab,i+1,_,_,ab,ad,bJ,(bb.congr<|by rw [show j=(dY F F.rules.length i).length by omega]; exact LW I cZ aT),bs,aa,aa,aa,aa,aa,aa,aa⟩
 refine ext<|bc<|bc<|be<|f0 aa ?_
 obtain rfl :i=F.rules.length:=ab
 exact ⟨aa,a9,bB⟩
structure jj (w:World) (B:Nat) (f:Value→Option Value) (Pz:Nat→List Nat):Prop where
 own:∀ z:Nat,bm w B 3 1 ((f<|.int .i64 (z:Nat)).getD<|bD none 0 0) (Pz z).length ((Pz z).map fV)
 sep:∀ (z y k:Nat),z≠y→((f<|.int .i64 (z:Nat)).getD<|bD none 0 0).ownBlock=some k→((f<|.int .i64 (y:Nat)).getD<|bD none 0 0).ownBlock≠some k
theorem jj.md {G:Nat→Prop} {w w':World} {B:Nat} {f:Value→Option Value} {c:Nat→List Nat} (h:jj w B f c) (hm:Md G w w') (A:∀ k,G k→∀ cur z,w.heap[k]?≠some (.cells cur 3 z)):jj w' B f c:=
 ⟨fun z=>cz (h.own z) hm (fun k hk E=>mH (h.own z) hk fun cur y C=>A k E cur y C),h.sep⟩
theorem jj.wk {w w':World} {B:Nat} {f:Value→Option Value} {c:Nat→List Nat} (h:jj w B f c) (hm:Wk w w'):jj w' B f c:=h.md hm fun _ h=>h.elim
theorem jj.congr {w:World} {B:Nat} {f:Value→Option Value} {c A:Nat→List Nat} (h:jj w B f c) (he:∀ z,A z=c z):jj w B f A:=by rw [show A=c from funext he]; exact h
theorem jj.nil (w:World) (B:Nat):jj w B (fun _=>none) (fun _=> []):=⟨fun z=>dM _ _ _ _,fun z y k _ h=>by cases h⟩
theorem vw {a b:Nat} (h:ff .i64 (a:Nat)= .int .i64 (b:Nat)):a=b:=by injection h with _ h; omega
theorem jj.put {w G aa:World} {B mb z0 i:Nat} {f:Value→Option Value} {A:Nat→List Nat} {v:Value} (h:jj w B f A) (hm:Md (fun k=>((f<|.int .i64 (z0:Nat)).getD<|bD none 0 0).ownBlock=some k) w G)
 (Y:bm G B 3 1 v (A z0++ [i]).length ((A z0++ [i]).map fV)) (J:∀ k,v.ownBlock=some k→((f<|.int .i64 (z0:Nat)).getD<|bD none 0 0).ownBlock=some k∨w.heap.size≤k) (V:∀ cur z,G.heap[mb]?≠some (.cells cur 3 z)) (O:Md (fun k=>k=mb) G aa):
 jj aa B (bu f (.int .i64 (z0:Nat)) v) (fun z=>if z=z0 then A z++ [i] else A z):=by
 refine ⟨fun z=> ?_,fun z y k E hk=> ?_⟩
 · by_cases c:z=z0
   · subst c
     rw [lV,if_pos rfl]
     exact cz Y O fun k hk C=>mH Y hk fun cur y I=>V cur y<|C ▸ I
   · rw [ky (fun e=>c<|vw e),if_neg c]
     have h1:=cz (h.own z) hm fun k hk C=>h.sep z0 z k (fun e=>c e.symm) C hk
     exact cz h1 O fun k hk C=>mH h1 hk fun cur y I=>V cur y<|C ▸ I
 · by_cases c:z=z0
   · subst c
     rw [lV] at hk
     rw [ky (fun e=>E (vw e).symm)]
     rcases J k hk with h1 | h1
     · exact h.sep z y k E h1
     · exact fun h2=>by have :=(dd (h.own y) h2).2; omega
   · rw [ky (fun e=>c<|vw e)] at hk
     by_cases Z:y=z0
     · subst Z
       rw [lV]
       intro h2
       rcases J k h2 with h1 | h1
       · exact h.sep z y k E hk h1
       · have :=(dd (h.own z) hk).2; omega
     · rw [ky (fun e=>Z<|vw e)]
       exact h.sep z y k E hk
theorem OZ (F:aB) (i z:Nat):dY F (i+1) z=dY F i z++(if z∈bC F (bY F (i:Int)) 2 then [i] else []):=by
 unfold dY
 rw [II,List.filter_append]
 congr 1
 by_cases h:z∈bC F (bY F (i:Int)) 2
 · rw [if_pos h,pA,if_pos (decide_eq_true h)]; rfl
 · rw [if_neg h,pA,if_neg (by simpa using h)]; rfl
def mD (F:aB) (i j z:Nat):List Nat:=dY F i z++(if z∈(bC F (bY F (i:Int)) 2).take j then [i] else [])
theorem PF (F:aB) (i z:Nat):mD F i 0 z=dY F i z:=by unfold mD; rw [List.take_zero,if_neg (fun h=>by cases h),eM]
theorem PD (F:aB) (i z:Nat):dY F (i+1) z=mD F i (bC F (bY F (i:Int)) 2).length z:=by unfold mD; rw [List.take_length,OZ]
theorem PE {F:aB} {i j:Nat} (A:j < (bC F (bY F (i:Int)) 2).length) (z:Nat):mD F i (j+1) z=if z=(bC F (bY F (i:Int)) 2).getD j 0 then mD F i j z++ [i] else mD F i j z:=by
 unfold mD
 have hs:((bC F (bY F (i:Int)) 2).take<|j+1)=(bC F (bY F (i:Int)) 2).take j++ [(bC F (bY F (i:Int)) 2).getD j 0]:=kT _ j 0 A
 have C:(bC F (bY F (i:Int)) 2).Nodup:=(zR F _ 2).imp fun h=>ab
 have E:(bC F (bY F (i:Int)) 2).getD j 0∉(bC F (bY F (i:Int)) 2).take j:=fun hm=>by
  have h2:=(List.take_sublist (j+1)<|bC F (bY F (i:Int)) 2).nodup C
  rw [hs,List.nodup_append] at h2
  exact h2.2.2 _ hm _ (iX.2 aa) aa
 rw [hs]
 by_cases c:z=(bC F (bY F (i:Int)) 2).getD j 0
 · subst c
   rw [if_pos rfl,if_pos (ua _<|iX.2 rfl),if_neg E,eM]
 · rw [if_neg c]
   congr 1
   have :z∈(bC F (bY F (i:Int)) 2).take j++ [(bC F (bY F (i:Int)) 2).getD j 0]↔z∈(bC F (bY F (i:Int)) 2).take j:=by
    rw [List.mem_append,iX]; exact ⟨fun h=>h.resolve_right c,.inl⟩
   by_cases hm:z∈(bC F (bY F (i:Int)) 2).take j
   · rw [if_pos hm,if_pos (this.2 hm)]
   · rw [if_neg hm,if_neg (fun h=>hm<|this.1 h)]
theorem TT (B tb:Nat) (U:eS) (F:aB) (xs:List bh) (w:World) (aA:eA w B tb U F xs) (an:eJ F xs):
 ba au 57 (aX [aV tb]) w (fun v w'=> ∃ kb ar cr rn fm dm,v=aV kb∧jD w w' B kb tb U F xs ar cr rn fm dm∧iZ w'.heap dm (fun _=>False)∧Wk w w'):=by
 have cD:=an.len
 refine enter func57 aa ntmps57 aa<|ak fun bs=>aw<|bs<|ak fun bz=>p mv<|p mv<|p (nc aa)<|p (fa vl aa)<|p (ld eT aa<|(bj aA.cells).trans aa)<|e<|cl uN (uu B U.fb U.mc F U.V w aA.fl (by have :=an.len; omega) an.nx) aa fun v12 cL bS=> ?_
 obtain ⟨⟨⟨v9,v10,v11,v12,sa,rn⟩,rfl,hax⟩,hE12⟩:=bS
 obtain ⟨ar,cr,aY⟩:=cQ hax.ej
 have aY:v12=_:=aY
 subst aY
 have cE:=hE12.size
 have cc:rn.length=F.rules.length:=by have :=hax.nx.1; rwa [eX] at this
 have ce:∀ u∈rn,u.oneCell'=true :=fun u hu=>jT.1 (uy hax.nx) u hu
 have ca:=hax.ej
 refine p (DO DP aa aa)<|e<|qd fun A cM cv a4 bJ=> ?_
 have cF:=a4.size
 refine e<|qd fun G cN cx aO bL=> ?_
 have cG:=aO.size
 refine p (c7 (ps:= [(0,aV tb),(1,.slice ar F.rules.length cr),(2,.map (some A)),(3,.map (some G))]) (L:= [aV tb,.slice ar F.rules.length cr,.map (some A),.map (some G)]) Uu aa<|aa)<|e<|pR aa fun E Z cy av a1=> ?_
 have cH:=av.size
 have a2:=(a4.md.trans aO.md).trans av.md
 have aN:=hE12.trans a2
 have bk:Z.heap[A]? =some (.map #[] 0):=Wk.aE (aO.md.trans av.md) bJ
 have b6:Z.heap[G]? =some (.map #[] 0):=Wk.aE av.md bL
 have cb:=a8 ca a2
 refine aw<|bz<|az fun bA=>ak fun bB=>p mv<|p (nc aa)<|p (fa vm aa)<|p (ld k5 aa<|(bj a1).trans aa)<|p (bM o4 aa aa)<|p mv<|nl<|bB<|aE<|lp (fun ae am J=> ∃ (i:Nat) (f:Value→Option Value),(i≤F.rules.length)∧(Md (fun k=>k=A) Z J)∧(bQ J.heap A (jn .i64) f)∧(jj J Z.heap.size f fun z=>dY F i z)∧(J.heap[E]? =some (.cells [aV tb,.slice ar F.rules.length cr,.map (some A),.map (some G)].toArray 132 (0,0)))∧(am 0=aV tb)∧(am 3=aV E)∧(am 22=aj (F.rules.length))∧(am 23=aj i)∧(F.rules.length - i=ae)) _ ⟨0,_,ab,(Md.refl _ _),(bQ.nil bk),((jj.nil _ _).congr fun z=>rfl),a1,aa,aa,aa,aa,aa⟩ ?_
 rintro ae am J ⟨i,f,hi,ad,bl,aC,bb,cf,ci,cg,ch,rfl⟩
 refine fx 0 cf<|fx 3 ci<|fx 22 cg<|fx 23 ch ?_
 have bZ:Wk w J:=aN.trans' ad fun k hk h=>by omega
 refine ak fun bE=>p (lt aa aa)<|nl<|bE<|az fun bF=>cd aa (fun b4=> ?_) fun b4=> ?_
 refine aQ<|bF<|az fun aK=>aE<|ak fun bH=>ao (aj i)<|p (bV (aj i) aa)<|nl<|bH<|ak fun bI=>ao (aV tb)<|ao (aj i)<|e<|cl CN (Gw B tb U F xs (i:Nat) J (aA.wk bZ) an) aa fun v28 a0 bT=> ?_
 obtain ⟨aW,ah⟩:=bT
 obtain ⟨aL,aM,rfl⟩:=cQ aW
 have cI:=ah.size
 have cC:=zO F (bY F (i:Int)) 2
 refine p (bM rK aa aa)<|p mv<|nl<|bI<|aE<|lp (fun ae Y O=> ∃ (j:Nat) (g:Value→Option Value),(j≤(bC F (bY F (i:Int)) 2).length)∧(Md (fun k=>k=A) Z O)∧(bQ O.heap A (jn .i64) g)∧(jj O Z.heap.size g fun z=>mD F i j z)∧(O.heap[E]? =some (.cells [aV tb,.slice ar F.rules.length cr,.map (some A),.map (some G)].toArray 132 (0,0)))∧(bm O J.heap.size 3 1 (.slice aL (bC F (bY F (i:Int)) 2).length aM) (bC F (bY F (i:Int)) 2).length<|(bC F (bY F (i:Int)) 2).map fV)∧(∀ (z k:Nat),((g<|aj z).getD<|bD none 0 0).ownBlock=some k→k < J.heap.size∨a0.heap.size≤k)∧(a0.heap.size≤O.heap.size)∧(Y 0=aV tb)∧(Y 3=aV E)∧(Y 4=aj i)∧(Y 22=aj (F.rules.length))∧(Y 23=aj i)∧(Y 28= .slice aL (bC F (bY F (i:Int)) 2).length aM)∧(Y 29= .int .i64 ((bC F (bY F (i:Int)) 2).length:Nat))∧(Y 30=aj j)∧((bC F (bY F (i:Int)) 2).length - j=ae)) _ ⟨0,f,ab,(ad.trans' ah fun _ _ h=>h.elim),(bl.wk ah),((aC.wk ah).congr fun z=>PF F i z),(Wk.aE ah bb),aW,(fun z k hk=> .inl (dd (aC.own z) hk).2),(cw _),aa,aa,aa,aa,aa,aa,aa,aa,aa⟩ ?_
 rintro ae Y O ⟨j,g,cB,aT,aF,ac,aP,aI,aS,ct,cj,cp,cs,ck,cm,cn,co,cq,rfl⟩
 refine fx 0 cj<|fx 3 cp<|fx 4 cs<|fx 22 ck<|fx 23 cm<|fx 28 cn<|fx 29 co<|fx 30 cq<|ak fun bt=>p (lt aa aa)<|nl<|bt<|az fun bv=>cd aa (fun b5=> ?_) fun b5=> ?_
 refine aQ<|bv<|az fun bw=>aE<|ak fun bx=>p (a7 q6 aa aa ab<|aG.ok ((aU aI).2)<|cX ab)<|p (ld bR aa<|aG.iD (i:=j) (aU aI).2<|zd ab)<|aw<|bx ?_
 have bi:(mD F i j<|(bC F (bY F (i:Int)) 2).getD j 0).length≤F.rules.length+1:=by
  have :=mT (fun q:Nat=>decide (((bC F (bY F (i:Int)) 2).getD j 0)∈bC F (bY F (q:Int)) 2))<|fD i
  unfold mD dY; rw [bK]; rw [r7] at this; split <;> simp only [ic,gz] <;> omega
 have C:(fun w'=>w'.heap[E]? =some (.cells [aV tb,.slice ar F.rules.length cr,.map (some A),.map (some G)].toArray 132 (0,0))∧bQ w'.heap A (jn .i64) g) O.drew:=⟨aP,aF⟩
 refine eF (fun w'=>w'.heap[E]? =some (.cells [aV tb,.slice ar F.rules.length cr,.map (some A),.map (some G)].toArray 132 (0,0))∧bQ w'.heap A (jn .i64) g) 14 aa wide C<|lq 0 aa ag (fun _ _=>aH (aV E) aa) C<|lq 1 aa ag (fun _ _=>nc aa) C<|lq 2 aa ag (fun _ _=>fa y4 aa) C<|lq 3 aa ag (fun w' al=>ld xU aa<|(bj al.1).trans aa) C<|lq 4 aa ag (fun _ _=>mv) C<|lq 5 aa ag (fun _ _=>aH (aV E) aa) C<|lq 6 aa ag (fun _ _=>nc aa) C<|lq 7 aa ag (fun _ _=>fa y4 aa) C<|lq 8 aa ag (fun w' al=>ld xU aa<|(bj al.1).trans aa) C<|lq 9 aa ag (fun _ _=>mv) C<|lq 10 aa ag (fun w' al=>kN AP xc zp (al.2) aa aa (⟨_,aa⟩)<|aa) C<|lq 11 aa ag (fun _ _=>aH (aj i) aa) C<|iL 12 aa ag<|kG mK aa aa fun cu bq cA ax bN=> ?_
 have cJ:=ax.size
 have I:Wk O bq:=(Md.refl _ O).drew.trans ax.md
 have bU:(fun w'=>w'.heap[E]? =some (.cells [aV tb,.slice ar F.rules.length cr,.map (some A),.map (some G)].toArray 132 (0,0))∧bQ w'.heap A (jn .i64) g) bq:=⟨Wk.aE ax.md C.1,C.2.wk ax.md⟩
 refine ⟨bU,?_⟩
 refine iL 13 aa ag<|ap mK (a8 (ac.own<|(bC F (bY F (i:Int)) 2).getD j 0) I) aa (by have :=I.size; have :=aT.size; omega) aa (aG.fO bN) (aa) (aa) (by have :=bi; omega) (by have :=bi; omega) fun aZ aJ b8 ai cK bg=> ?_
 have a9:aJ.heap[E]? =some (.cells [aV tb,.slice ar F.rules.length cr,.map (some A),.map (some G)].toArray 132 (0,0)):=ai.jH (TF.own (L:= [5]) (a8 (ac.own<|(bC F (bY F (i:Int)) 2).getD j 0) I) ay) (Wk.aE I aP) ay
 have aD:bQ aJ.heap A (jn .i64) g:=(aF.wk I).md ai fun hk=>mH (a8 (ac.own<|(bC F (bY F (i:Int)) 2).getD j 0) I) hk fun cur z aR=>(aF.wk I).mF aR
 have bW:(fun w'=>w'.heap[E]? =some (.cells [aV tb,.slice ar F.rules.length cr,.map (some A),.map (some G)].toArray 132 (0,0))∧bQ w'.heap A (jn .i64) g) aJ:=⟨a9,aD⟩
 refine ⟨bW,?_⟩
 refine db 14 aa ag ag<|qn AP zp (aD) aa aa aa (⟨_,aa⟩) fun br aq bP=> ?_
 have a3:Md (fun k=>k=A∨((g<|.int .i64 ((((bC F (bY F (i:Int)) 2).getD j 0):Nat):Int)).getD<|bD none 0 0).ownBlock=some k) O br:=((I.mono fun _ _ h=>h.elim).trans<|ai.mono fun k _ h=> .inr h).trans<|aq.mono fun k _ h=> .inl h
 have b2:=ac.own<|(bC F (bY F (i:Int)) 2).getD j 0
 have bO:Md (fun k=>k=A) Z br:=aT.trans' a3 fun k hk h=>h.elim id fun h2=>by have :=(dd b2 h2).1; omega
 have b3:=jj.put (i:=i) (ac.wk I) ai (by rw [bK,gA]; exact b8) bg (fun cur z aR=>aD.mF aR) aq
 have a5:TF aJ [1] (fun k=>k=A):=TF.eq (wq aD.choose_spec.1) ay
 have b0:=aq.jH a5 a9 ay
 have b7:∀ k,(bD aL (bC F (bY F (i:Int)) 2).length aM).ownBlock=some k→((g<|.int .i64 ((((bC F (bY F (i:Int)) 2).getD j 0):Nat):Int)).getD<|bD none 0 0).ownBlock≠some k:=fun k hk h2=>by
  have h3:=dd aI hk
  have h4:=dd aW hk
  have h5:=aS _ k h2
  omega
 have b9:=c5 (cz (a8 aI I) ai fun k hk h2=>b7 k hk h2) aq a5 ay
 have b1:∀ (z k:Nat),((bu g (.int .i64 ((((bC F (bY F (i:Int)) 2).getD j 0):Nat):Int)) aZ<|aj z).getD<|bD none 0 0).ownBlock=some k→k < J.heap.size∨a0.heap.size≤k:=fun z k hk=>by
  by_cases bp:(ff .i64 (z:Nat))=(.int .i64 ((((bC F (bY F (i:Int)) 2).getD j 0):Nat):Int))
  have hk:((bu g (.int .i64 ((((bC F (bY F (i:Int)) 2).getD j 0):Nat):Int)) aZ<|.int .i64 ((((bC F (bY F (i:Int)) 2).getD j 0):Nat):Int)).getD<|bD none 0 0).ownBlock=some k:=(congrArg (fun q=>((bu g (.int .i64 ((((bC F (bY F (i:Int)) 2).getD j 0):Nat):Int)) aZ q).getD<|bD none 0 0).ownBlock) bp).symm.trans hk
  rw [lV] at hk
  rcases bg k hk with h1 | h1
  exact aS _ k h1
  have :=I.size; have :=ct; exact .inr ab
  rw [ky bp] at hk; exact aS z k hk
 exact eE ag<|bn<|bw<|rg aa<|p (bG ((j+1:Nat):Int) aa aa<|bf ab ab)<|p mv<|nl<|tn<|⟨_,ab,j+1,_,ab,bO,bP,(b3.congr fun z=>PE ab z),b0,b9,b1,(by have :=a3.size; omega),aa,aa,aa,aa,aa,aa,aa,aa,aa⟩
 exact ext<|bc<|bc<|be<|bn<|aK<|rg aa<|p (bG ((i+1:Nat):Int) aa aa<|bf ab ab)<|p mv<|nl<|tn<|⟨_,ab,i+1,_,ab,aT,aF,(ac.congr fun z=>by rw [show j=(bC F (bY F (i:Int)) 2).length by omega]; exact PD F i z),aP,aa,aa,aa,aa,aa⟩
 refine ext<|bc<|bc<|be<|bA<|ak fun aK=>ao (aV E)<|p (bV (aV E) aa)<|nl<|aK<|rt<|a6 aa ?_
 obtain rfl :i=F.rules.length:=ab
 have bX:TF Z [1] (fun k=>k=A):=TF.eq (by unfold tag; rw [bk]) ay
 have bo:G≠A:=ab
 have bd:J.heap[G]? =some (.map #[] 0):=ad.aE b6 bo
 exact ⟨E,ar,cr,rn,A,G,aa,⟨aA,aN.trans' ad (fun k hk h=>by omega),ab,bb,⟨_,c5 cb ad bX ay⟩,cc,ce,⟨f,bl,fun z _=>by obtain ⟨a,c,h1⟩:=cQ (aC.own z); exact ⟨a,c,_,h1,h1 ▸ aC.own z⟩⟩,fun h=>bo h.symm,⟨_,_,bd⟩⟩,⟨_,jY.nil bd,fun d=>⟨(fun h=>by cases h),fun h=>h.elim⟩,fun k v h=>by cases h⟩,aN.trans' ad fun k hk h=>by omega⟩
end Go.Hb
end
section
namespace Go.Hb.n0
def gX (a b:Int):Int:=if a < b then -1 else if a > b then 1 else 0
def kP:List Int→Int
 | []=>0
 | x::l=>if x≠0 then x else kP l
def nu (a b:bF):Int:=kP [gX a.ca b.ca,gX a.fst b.fst,gX a.snd b.snd,gX a.pre b.pre]
def jO (a b:bF):Prop :=(a.ca:Int) < b.ca∨((a.ca:Int)=b.ca∧(a.fst < b.fst∨(a.fst=b.fst∧(a.snd < b.snd∨(a.snd=b.snd∧a.pre < b.pre)))))
theorem MQ (a b:Int):gX a b < 0↔a < b:=by
 unfold gX
 repeat' split
 all_goals omega
theorem MP (a b:Int):gX a b=0↔a=b:=by
 unfold gX
 repeat' split
 all_goals omega
theorem Sz {x:Int} {l:List Int} (h:x≠0):kP (x::l)=x:=if_pos h
theorem Sy {x:Int} {l:List Int} (h:¬x≠0):kP (x::l)=kP l:=if_neg h
theorem Sx (x:Int) (l:List Int):kP (x::l) < 0↔(x < 0∨(x=0∧kP l < 0)):=by show (if x≠0 then x else kP l) < 0↔_; split <;> omega
theorem SA (a b:bF):nu a b < 0↔jO a b:=by
 have c:¬kP [] < 0:=by unfold kP; omega
 unfold nu jO
 simp only [Sx,MQ,MP,c,and_false,or_false]
instance Wx:Inhabited bF:=⟨⟨[],0,0,0,0⟩⟩
theorem Fu (a b:bF):tN nu a b=true↔jO a b:=by unfold tN; rw [decide_eq_true_iff]; exact SA a b
theorem zE (a b:bF):tN nu a b=false↔¬jO a b:=by rw [← Fu]; cases tN nu a b <;> simp
theorem UR:Go.Sort.SWO (tN nu) where
 irrefl x:=by rw [zE]; unfold jO; omega
 trans x y z h1 h2:=by rw [Fu] at*; unfold jO at*; omega
 ntrans x y z h1 h2:=by rw [zE] at*; unfold jO at*; omega
def Tn:Go.Shelf.Ren:=⟨fun n=>if n=6 then 60 else if n=14 then 105 else if n=15 then 66 else if n=20 then 169 else if n=21 then 170 else if n=22 then 171 else if n=23 then 172 else if n=24 then 173 else if n=25 then 174 else if n=26 then 175 else if n=27 then 176 else if n=28 then 123 else if n=29 then 124 else if n=46 then 222 else if n=47 then 184 else if n=48 then 185 else if n=49 then 223 else if n=50 then 224 else if n=57 then 260 else 0,fun n=>if n=0 then 0 else if n=3 then 3 else if n=4 then 4 else if n=5 then 5 else if n=9 then 9 else if n=22 then 29 else if n=25 then 137 else if n=39 then 145 else if n=45 then 232 else if n=46 then 233 else if n=50 then 237 else if n=53 then 240 else if n=55 then 242 else if n=66 then 287 else if n=70 then 291 else if n=76 then 335 else if n=77 then 219 else if n=24 then 49 else 0,fun n=>n⟩
theorem Fe:Wq au Tn where
 mixed:=ag
 f6:= .intro "slices.SortFunc[[]hornbook/api.Derived,hornbook/api.Derived]" ⟨ag,ag⟩
 f14:= .intro "slices.pdqsortCmpFunc[hornbook/api.Derived]" ⟨ag,ag⟩
 f15:=ag
 f20:= .intro "slices.insertionSortCmpFunc[hornbook/api.Derived]" ⟨ag,ag⟩
 f21:= .intro "slices.heapSortCmpFunc[hornbook/api.Derived]" ⟨ag,ag⟩
 f22:= .intro "slices.breakPatternsCmpFunc[hornbook/api.Derived]" ⟨ag,ag⟩
 f23:= .intro "slices.choosePivotCmpFunc[hornbook/api.Derived]" ⟨ag,ag⟩
 f24:= .intro "slices.reverseRangeCmpFunc[hornbook/api.Derived]" ⟨ag,ag⟩
 f25:= .intro "slices.partialInsertionSortCmpFunc[hornbook/api.Derived]" ⟨ag,ag⟩
 f26:= .intro "slices.partitionEqualCmpFunc[hornbook/api.Derived]" ⟨ag,ag⟩
 f27:= .intro "slices.partitionCmpFunc[hornbook/api.Derived]" ⟨ag,ag⟩
 f28:=ag
 f29:=ag
 f46:= .intro "slices.siftDownCmpFunc[hornbook/api.Derived]" ⟨ag,ag⟩
 f47:=ag
 f48:=ag
 f49:= .intro "slices.medianAdjacentCmpFunc[hornbook/api.Derived]" ⟨ag,ag⟩
 f50:= .intro "slices.medianCmpFunc[hornbook/api.Derived]" ⟨ag,ag⟩
 f57:= .intro "slices.order2CmpFunc[hornbook/api.Derived]" ⟨ag,ag⟩
 t0:=ag
 a0:=fun _=>ag
 z0:=fun _=>ag
 v0:=fun _=>ag
 t3:=ag
 a3:=fun _=>ag
 z3:=fun _=>ag
 v3:=fun _=>ag
 t4:=ag
 a4:=fun _=>ag
 z4:=fun _=>ag
 v4:=fun _=>ag
 t5:=ag
 a5:=fun _=>ag
 z5:=fun _=>ag
 v5:=fun _=>ag
 t9:=ag
 a9:=fun _=>ag
 z9:=fun _=>ag
 v9:=fun _=>ag
 t22:=ag
 a22:=fun _=>ag
 z22:=fun _=>ag
 v22:=fun _=>ag
 t25:=ag
 a25:=fun _=>ag
 z25:=fun _=>ag
 v25:=fun _=>ag
 t39:=ag
 a39:=fun _=>ag
 z39:=fun _=>ag
 v39:=fun _=>ag
 t45:=ag
 a45:=fun _=>ag
 z45:=fun _=>ag
 v45:=fun _=>ag
 t46:=ag
 a46:=fun _=>ag
 z46:=fun _=>ag
 v46:=fun _=>ag
 t50:=ag
 a50:=fun _=>ag
 z50:=fun _=>ag
 v50:=fun _=>ag
 t53:=ag
 a53:=fun _=>ag
 z53:=fun _=>ag
 v53:=fun _=>ag
 t55:=ag
 a55:=fun _=>ag
 z55:=fun _=>ag
 v55:=fun _=>ag
 t66:=ag
 a66:=fun _=>ag
 z66:=fun _=>ag
 v66:=fun _=>ag
 t70:=ag
 a70:=fun _=>ag
 z70:=fun _=>ag
 v70:=fun _=>ag
 t76:=ag
 a76:=fun _=>ag
 z76:=fun _=>ag
 v76:=fun _=>ag
 t77:=ag
 a77:=fun _=>ag
 z77:=fun _=>ag
 v77:=fun _=>ag
section
open Go.Sort Go.ChangeShapes Go.WideShapes
variable {w:World} {g n:Nat} {os:Array Obj} {cur:Array Value} {e:TypeId}
theorem Qi {L:List Value} (c:w.heap[g]? =some (.cells cur e (0,0))) (E:cur.toList.take L.length=L):Holds id w g 0 L.toArray:=by
 intro j C
 have A:j < L.length:=by simpa using C
 refine ⟨?_,by simp [World.frozen?,c]⟩
 have h1:(cur.toList.take L.length)[j]? =L[j]? :=by rw [E]
 rw [Iz A] at h1
 simp only [World.cell?,c,fK]
 simp only [Option.isSome_none,HK,if_false]
 rw [← tC,h1]
 simp [A]
theorem Qf (d:Array Value) (c:w.heap[g]? =some (.cells cur e (0,0))):(grow (putRow id (tO w n) g 0 d) os).heap[g]? =some (.cells (putCells id 0 d cur) e (0,0)):=by
 have A:g < w.heap.size:=(cY.1 c).1
 rw [heap_grow_old _ _ (by simpa using A)]
 simp [putRow,mapBlock,tO,HG,c,onCells]
theorem PR (d:Array Value):w.grownBy (grow (putRow id (tO w n) g 0 d) os) (some g):=by
 refine ⟨aa,aa,aa,by simp,fun k hk c=> ?_⟩
 rw [heap_grow_old _ _ (by simpa using hk)]
 have :g≠k:=fun e=>c<|by rw [e]
 simp [putRow,mapBlock,tO,HG,this]
theorem U1 (cur:Array Value) (L:List Value) (h:L.length≤cur.size):(putCells id 0 L.toArray cur).toList.take L.length=L:=by
 apply List.ext_getElem?
 intro j
 by_cases c:j < L.length
 · rw [Iz c,tC]
   simp [putCells,c,show j < cur.size by omega]
 · rw [List.getElem?_take_eq_none ab,List.getElem?_eq_none ab]
theorem Ec (L:List bF):flatK dz 5 L.toArray=(e5 L).toArray:=by
 have C:(e5 L).length=L.length*5:=lR (f:=dz) (m:=5) (fun _=>rfl) L
 apply Array.ext_getElem?
 intro t
 by_cases c:t < L.length*5
 · have A:t / 5 < L.length:=ab
   have h1:(e5 L)[t]? =(dz L[t / 5])[t % 5]? :=by
    have :=vf (f:=dz) (m:=5) (fun _=>rfl) (bZ A) (show t % 5 < 5 by omega)
    rwa [show t / 5 *5 +t % 5=t by omega] at this
   have h2:=get_flatK dz 5 L.toArray t<|by simpa using c
   have h3:(flatK dz 5 L.toArray)[t]? =some (flatK dz 5 L.toArray)[t]! :=by
    rw [Array.getElem?_eq_getElem (by simpa using c),getElem!_pos _ _ (by simpa using c)]
   rw [h3,h2,List.getElem?_toArray,h1,show L.toArray[t / 5]! =L[t / 5] by simp [A]]
   rw [bZ (show t % 5 < (dz L[t / 5]).length by show t % 5 < 5; omega),getElem!_pos (dz L[t / 5]) (t % 5) (show t % 5 < (dz L[t / 5]).length by show t % 5 < 5; omega)]
 · rw [o8 (by simp; omega),o8 (by simp; omega)]
end
theorem E3 (a:Int) (w:World):
 ba au 177 (aX [.int .i64 a]) w (fun v w'=>v= .bool false∧w'=w):=by
 exact enter func177 aa ntmps177 aa<|ak fun c=>aw<|c<|ak fun A=>ao (.int .i64 a)<|ao (.int .i64 a)<|p (gu aa aa)<|aw<|A<|rt<|a6 aa<|⟨congrArg bO (decide_eq_false fun h=>h aa),aa⟩
theorem uP (a b:Int) (w:World):
 ba au 107 (aX [.int .i64 a,.int .i64 b]) w (fun v w'=>v= .int .i64 (gX a b)∧w'=w):=by
 refine enter func107 aa ntmps107 aa<|ak fun C=>aw<|C<|ak fun G=>ao (.int .i64 a)<|e<|cl Cq (E3 a w) aa fun ag ae ad=> ?_
 obtain ⟨rfl,rfl⟩:=ad
 refine aw<|G<|ak fun I=>ao (.int .i64 b)<|e<|cl Cq (E3 b ae) aa fun v10 ah ac=> ?_
 obtain ⟨rfl,rfl⟩:=ac
 refine aw<|I<|az fun J=>ak fun O=>p mv<|nl<|O<|cf aa<|aQ<|J<|az fun V=>ak fun Y=>p mv ?_
 refine nl<|Y<|cf aa<|aQ<|V<|az fun Z=>ak fun ab=>ao (.int .i64 a)<|ao (.int .i64 b)<|p (lt aa aa)<|nl<|ab<|cd aa (fun h1=> ?_) fun h1=> ?_
 exact ak fun c=>aw<|c<|rt<|tr<|a6 aa<|⟨congrArg (ff .i64) (show (-1:Int)=gX a b by unfold gX; rw [if_pos h1]),aa⟩
 refine aQ<|Z<|az fun c=>ak fun E=>ao (.int .i64 a)<|ao (.int .i64 b)<|p (gt aa aa)<|nl<|E<|cd aa (fun h2=> ?_) fun h2=> ?_
 exact ak fun A=>aw<|A<|rt<|tr<|a6 aa<|⟨congrArg (ff .i64) (show (1:Int)=gX a b by unfold gX; rw [if_neg h1,if_pos h2]),aa⟩
 exact aQ<|c<|ak fun A=>aw<|A<|rt<|a6 aa<|⟨congrArg (ff .i64) (show (0:Int)=gX a b by unfold gX; rw [if_neg h1,if_neg h2]),aa⟩
theorem Sw (l:List Int) (a:Option Addr) (c:Nat) (w:World) (J:aG w.heap a (l.map<|ff .i64)) (ay:l.length≤1000):
 ba au 106 (aX [.slice a l.length c]) w (fun v w'=>v= .int .i64 (kP l)∧w'=w):=by
 refine enter func106 aa ntmps106 aa<|ak fun Y=>aw<|Y<|ak fun ac=>p aC<|nl<|ac<|az fun ad=>ak fun ae=>ao (.slice a l.length c)<|p (bM rK aa aa)<|p mv<|nl<|ae<|aE<|lp (fun I A V=> ∃ (i:Nat),(i≤l.length)∧(kP (l.drop i)=kP l)∧(V=w)∧(A 3= .int .i64 0)∧(A 6= .slice a l.length c)∧(A 7=aj (l.length))∧(A 8=aj i)∧(l.length - i=I)) _ ⟨0,ab,aa,aa,aa,aa,aa,aa,aa⟩ ?_
 rintro I A V ⟨i,hi,C,am,ap,aq,av,ax,rfl⟩
 refine fx 3 ap<|fx 6 aq<|fx 7 av<|fx 8 ax ?_
 subst am
 refine ak fun ag=>p (lt aa aa)<|nl<|ag<|az fun ah=>cd aa (fun an=> ?_) fun an=> ?_
 refine aQ<|ah<|az fun E=>aE<|az fun ai=> ?_
 have O:l.drop i=l.getD i 0::l.drop (i+1):=by rw [List.drop_eq_getElem_cons (show i < l.length by omega),cM,bZ (show i < l.length by omega)]; rfl
 refine rg aa<|p (a7 q6 aa aa ab<|aG.ok (J)<|cX ab)<|p (ld bR aa<|aG.iD J (show (l.map<|ff .i64)[i]? =some (.int .i64<|l.getD i 0) by rw [eR,cM,bZ (by omega :i < l.length)]; rfl)) ?_
 refine aw<|ai<|ak fun al=>p mv<|ao (.int .i64 0)<|p (gu aa aa)<|nl<|al<|cd aa (fun G=> ?_) fun G=> ?_
 exact ak fun Z=>p mv<|aw<|Z<|rt<|br<|tr<|tr<|br<|tr<|a6 aa<|⟨congrArg (ff .i64) (show l.getD i 0=kP l by rw [← C,O,Sz G]),aa⟩
 exact aQ<|bn<|E<|rg aa<|p (bG ((i+1:Nat):Int) aa aa<|bf ab ab)<|p mv<|nl<|tn<|⟨_,ab,i+1,ab,(by rw [← C,O,Sy G]),aa,aa,aa,aa,aa,aa⟩
 refine ext<|bc<|bc<|be<|ad<|ak fun E=>ao (.int .i64 0)<|p (bV (.int .i64 0) aa)<|nl<|E<|rt<|a6 aa ?_
 rw [List.drop_eq_nil_of_le ab] at C
 exact ⟨by rw [← C]; rfl,aa⟩
def kD (w w':World):Prop := ∃ q os,w'=H9 (w.drewN q) os
theorem kD.refl (w:World):kD w w:=⟨0,#[],by simp [World.drewN]⟩
theorem kD.nw {w c A:World} (h:kD w c) (hn:Nw c A):kD w A:=by
 obtain ⟨q,os,rfl⟩:=h
 obtain ⟨o,rfl⟩:=hn.one
 exact ⟨q,os.push o,by simp [H9]⟩
theorem kD.drew {w c:World} (h:kD w c):kD w c.drew:=by
 obtain ⟨q,os,rfl⟩:=h
 exact ⟨q+1,os,aa⟩
theorem SB (a b:bF) (w:World):
 ba au 61 (aX [.agg (dz a).toArray,.agg (dz b).toArray]) w (fun v w'=>v= .int .i64 (nu a b)∧kD w w'):=by
 refine enter func61 aa ntmps61 aa<|ak fun aq=>e<|iQ aa fun ax aU E aN aB=> ?_
 have E:bE aU.heap ax (dz a):=aB
 refine e<|iQ aa fun aA C G Y aE=> ?_
 have G:bE C.heap aA (dz b):=aE
 have E:=Wk.B Y.md E
 have aK:=((kD.refl w).nw aN).nw Y
 refine aw<|aq<|az fun av=> ?_
 have c:(fun w'=>Wk C w') C.drew:=(Md.refl _ _).drew
 refine cD (fun w'=>Wk C w') aa wide c<|aR 0 aa (fun _ _=>fa lj aa) c<|aR 1 aa (fun w' A=>ld bR aa<|Wk.aM A<|E.bp 1) c<|aR 2 aa (fun _ _=>fa lj aa) c<|aR 3 aa (fun w' A=>ld bR aa<|Wk.aM A<|G.bp 1) c<|aR 5 aa (fun _ _=>fa lk aa) c<|aR 6 aa (fun w' A=>ld bR aa<|Wk.aM A<|E.bp 2) c<|aR 7 aa (fun _ _=>fa lk aa) c<|aR 8 aa (fun w' A=>ld bR aa<|Wk.aM A<|G.bp 2) c<|aR 10 aa (fun _ _=>fa ll aa) c<|aR 11 aa (fun w' A=>ld bR aa<|Wk.aM A<|E.bp 3) c<|aR 12 aa (fun _ _=>fa ll aa) c<|aR 13 aa (fun w' A=>ld bR aa<|Wk.aM A<|G.bp 3) c<|aR 15 aa (fun _ _=>fa oa aa) c<|aR 16 aa (fun w' A=>ld bR aa<|Wk.aM A<|E.bp 4) c<|aR 17 aa (fun _ _=>fa oa aa) c<|aR 18 aa (fun w' A=>ld bR aa<|Wk.aM A<|G.bp 4) c<|he 4 aa ag<|cl uF (uP (a.ca:Nat) (b.ca:Nat) C.drew) aa fun v9 O aT=> ?_
 obtain ⟨rfl,an⟩:=aT
 have aL:kD w O:=an ▸ aK.drew
 have ae:(fun w'=>Wk C w') O:=an ▸ c
 refine ⟨ae,?_⟩
 refine he 9 aa ag<|cl uF (uP a.fst b.fst O) aa fun aY I aO=> ?_
 obtain ⟨rfl,ai⟩:=aO
 have aF:kD w I:=ai ▸ aL
 have ah:(fun w'=>Wk C w') I:=ai ▸ ae
 refine ⟨ah,?_⟩
 refine he 14 aa ag<|cl uF (uP a.snd b.snd I) aa fun aZ J aP=> ?_
 obtain ⟨rfl,aj⟩:=aP
 have aH:kD w J:=aj ▸ aF
 have Z:(fun w'=>Wk C w') J:=aj ▸ ah
 refine ⟨Z,?_⟩
 refine he 19 aa ag<|cl uF (uP a.pre b.pre J) aa fun v24 ao aQ=> ?_
 obtain ⟨rfl,al⟩:=aQ
 have aI:kD w ao:=al ▸ aH
 have ab:(fun w'=>Wk C w') ao:=al ▸ Z
 refine ⟨ab,?_⟩
 refine he 20 aa ag<|pQ (L:= [.int .i64 (gX (a.ca:Nat) (b.ca:Nat)),.int .i64 (gX a.fst b.fst),.int .i64 (gX a.snd b.snd),.int .i64 (gX a.pre b.pre)]) mK aa aa aa aa fun ay ap aW V aD=> ?_
 have aJ:=aI.nw V
 have ac:(fun w'=>Wk C w') ap:=ab.trans V.md
 refine ⟨ac,?_⟩
 refine he 21 aa ag<|cl Kn (Sw [gX (a.ca:Nat) (b.ca:Nat),gX a.fst b.fst,gX a.snd b.snd,gX a.pre b.pre] (some ⟨ay,0,none⟩) 4 ap (aG.fO ⟨_,aD⟩)<|by show 4≤1000; omega) aa fun v26 aV aS=> ?_
 obtain ⟨rfl,am⟩:=aS
 have ad:(fun w'=>Wk C w') aV:=am ▸ ac
 refine ⟨ad,?_⟩
 exact aR 22 aa (fun _ _=>aC) ad<|hn ag<|av<|rt<|a6 aa<|⟨aa,am ▸ aJ⟩
section
open Go.Sort Go.ChangeShapes Go.WideShapes
theorem MO (aE size:Nat) (w:World):CmpLays au 61 #[] dz 5 nu aE 0 size w:=by
 intro m os c _ x y
 refine ju (SB x y<|sortWorldK dz 5 w aE 0 m c os) ?_
 rintro e w' ⟨v,rfl,rfl,h⟩
 exact ⟨aa,h⟩
theorem AA (L:List bF) (h:SortedIn (ltOf nu) 0 L.toArray.size L.toArray):L.Pairwise fun a b=> ¬jO b a:=by
 rw [List.pairwise_iff_getElem]
 intro i j hi c A
 have :=h i j (mi _) A<|by simpa using c
 rw [zE] at this
 simpa [hi,c] using this
theorem Ug (B n:Nat) (v:Value) (L:List bF) (w:World) (J:bm w B 49 5 v n (e5 L)) (I:L.length=n) (hn:n < 4611686018427387904):
 ba au 60 [v,.func (.func 61) #[] #[]].toArray w (fun ag w'=>ag= .tuple #[]∧∃ c:List bF,c.Perm L∧(c.Pairwise fun a b=> ¬jO b a)∧bm w' B 49 5 v n (e5 c)∧Md (fun k=>v.ownBlock=some k) w w'):=by
 rcases J.2 with ⟨rfl,ah⟩ | ⟨g,cap,cur,rfl,O,E,h1,h2,h3,h4⟩
 · subst I
   have ae:L= []:=fR ab
   subst ae
   refine ju (AnyF.slices_SortFunc_none Fe none 0 _ w) ?_
   rintro e w' ⟨rfl,rfl⟩
   exact ⟨_,aa,aa,[],Ik _,List.Pairwise.nil,J,Md.refl _ _⟩
 · subst I
   have Z:(e5 L).length=L.length*5:=lR (f:=dz) (m:=5) (fun _=>rfl) L
   have hH:HoldsK dz 5 w g 0 L.toArray:=by
    show Holds id w g 0 (flatK dz 5 L.toArray)
    rw [Ec]
    exact Qi E<|by rw [Z]; exact h4
   refine ju (AnyQ.slices_SortFunc Fe 5 (fun _=>by kernel_rfl) (fun _=>by kernel_rfl) dz (fun _=>rfl) (fun x u hu=> ?_) nu UR 61 #[] g 0 cap L.toArray w (fun args w=> ?_) (MO g _ w) hH (cY.1 E).1 (by simpa using hn)) ?_
   · simp only [dz,dR,List.not_mem_nil,or_false] at hu
     rcases hu with rfl | rfl | rfl | rfl | rfl <;> rfl
   · exact LC args w
   · rintro e w' ⟨rfl,d',m,os,hp,hs,rfl⟩
     obtain ⟨c,rfl⟩:∃ c:List bF,d'=c.toArray:=⟨d'.toList,by simp⟩
     have C:c.length=L.length:=by simpa using hp.1
     have ad:c.Perm L:=by
      have :=hp.2.2
      have V:List.take L.length c=c:=eN ab
      have Y:List.take c.length L=L:=eN ab
      simpa [V,Y] using this
     have hw:sortWorldK dz 5 w g 0 m c.toArray os=grow (putRow id (tO w m) g 0 (e5 c).toArray) os:=by
      unfold sortWorldK putRowK; rw [Ec]
     rw [hw]
     have G:(e5 c).length=c.length*5:=lR (f:=dz) (m:=5) (fun _=>rfl) c
     have A:=PR (w:=w) (g:=g) (n:=m) (os:=os) (e5 c).toArray
     refine ⟨_,aa,aa,c,ad,AA c (by rw [show c.toArray.size=L.toArray.size by simpa using C]; exact hs),⟨by rw [G,C],.inr ⟨g,cap,_,aa,O,Qf _ E,h1,h2,by simp [putCells,h3],?_⟩⟩,⟨A.os,A.output,A.size,fun k hk ac=>A.block k hk fun he=>ac ?_⟩⟩
     · rw [← C,← G]
       exact U1 cur (e5 c)<|by rw [G,C]; omega
     · simp only [Value.ownBlock]; exact he.symm
end
end Go.Hb.n0
end
section
namespace Go.Hb
open Go.Hb.iP Go.Hb.n0
noncomputable def bP (F:aB) (xs:List bh) (w:Tx):List bF:=(k8 F xs xs.length).filter fun d=>decide (d.ga=w)
section
variable {F:aB} {xs:List bh} {wd:Tx} {i:Nat}
theorem TW (d:bF):mJ F xs wd 0 d↔(False∨mr F xs wd wd (-1) F.rules.length d):=by
 unfold mJ
 exact ⟨fun h=> .inr (h.resolve_right fun ⟨i,_,h,_⟩=>by omega),fun h=> .inl<|h.resolve_left id⟩
theorem Gu {r:cC} (C:F.rules[i]? =some r) (h:r.kind≠1∨eL r wd=none) (d:bF):mJ F xs wd (i+1) d↔mJ F xs wd i d:=by
 unfold mJ
 constructor
 · rintro (h1 | ⟨k,A,hk,c,h2,st,h3,h4⟩)
   · exact .inl h1
   · rcases nQ.1 hk with hk | rfl
     · exact .inr ⟨k,A,hk,c,h2,st,h3,h4⟩
     · rw [C] at c; cases c
       rcases h with h | h
       · exact absurd h2 h
       · rw [h] at h3; cases h3
 · rintro (h1 | ⟨k,A,hk,h2⟩)
   · exact .inl h1
   · exact .inr ⟨k,A,ab,h2⟩
theorem TV {r:cC} {rest:Tx} (E:F.rules[i]? =some r) (hk:r.kind=1) (hu:eL r wd=some rest) (d:bF):mJ F xs wd (i+1) d↔(mJ F xs wd i d∨mr F xs wd rest (i:Nat) F.rules.length d):=by
 unfold mJ
 constructor
 · rintro (h1 | ⟨k,C,c,A,h2,st,h3,h4⟩)
   · exact .inl<|.inl h1
   · rcases nQ.1 c with c | rfl
     · exact .inl<|.inr ⟨k,C,c,A,h2,st,h3,h4⟩
     · rw [E] at A; cases A
       rw [hu] at h3; cases h3
       exact .inr h4
 · rintro ((h1 | ⟨k,C,c,h2⟩) | h1)
   · exact .inl h1
   · exact .inr ⟨k,C,ab,h2⟩
   · exact .inr ⟨i,r,ab,E,hk,rest,hu,h1⟩
end
theorem G4 {α:Type} (p q:α→Bool) (h:∀ x,p x=true→q x=false):∀ l:List α,(l.filter p).length+(l.filter q).length≤l.length
 | []=>cw _
 | x::l=>by
   have c:=G4 p q h l
   rw [pA,pA,bU]
   by_cases hp:p x=true
   · rw [if_pos hp,if_neg (by rw [h x hp]; exact dA),bU]; omega
   · rw [if_neg hp]
     split
     · rw [bU]; omega
     · omega
def kO (F:aB) (k:Nat):Nat:=((fD F.rules.length).filter fun i=>decide ((F.rules.getD i dp).kind=k)).length
theorem RX (F:aB):kO F 1 +kO F 2≤F.rules.length:=by
 have :=G4 (fun i=>decide ((F.rules.getD i dp).kind=1)) (fun i=>decide ((F.rules.getD i dp).kind=2)) (fun i h=>by have :=of_decide_eq_true h; exact decide_eq_false ab)<|fD F.rules.length
 unfold kO; rw [r7] at this; exact this
theorem filter_le {α:Type} {p q:α→Bool} (h:∀ x,p x=true→q x=true):∀ l:List α,(l.filter p).length≤(l.filter q).length
 | []=>cw _
 | x::l=>by
   have c:=filter_le h l
   rw [pA,pA]
   by_cases hp:p x=true
   · rw [if_pos hp,if_pos (h x hp),bU,bU]; omega
   · rw [if_neg hp]; split
     · rw [bU]; omega
     · exact c
theorem zP (F:aB) (fs:List Nat) (k:Nat):(bC F fs k).length≤kO F k:=filter_le (fun i h=>decide_eq_true (of_decide_eq_true h).1) _
theorem vg {α β:Type} {g:α→List β} {m:Nat} (h:∀ x,(g x).length≤m):∀ l:List α,(l.flatMap g).length≤l.length*m
 | []=>mi _
 | x::l=>by
   have :=vg h l; have :=h x
   rw [List.flatMap_cons,bK,bU,Nat.succ_mul]; omega
theorem yt (F:aB) (xs:List bh) (e:Nat) (u:Tx) (f s:Int):(nf F xs e u f s).length≤kO F 1 +1:=by
 unfold nf qT
 have h1:=List.length_filterMap_le (uR F xs e u f s)<|bC F (flagsOf xs e) 1
 have h2:=zP F (flagsOf xs e) 1
 rw [bK]
 split <;> simp only [ic,gz] <;> omega
theorem NQ (F:aB) (xs:List bh) (e:Nat):(kJ F xs e).length≤(kO F 1 +1)+kO F 2 *((kO F 1 +1)+kO F 2 *(kO F 1 +1)):=by
 have h1:∀ u f z,(wi F xs e u f z).length≤kO F 1 +1:=fun u f z=>by
  unfold wi; split
  · exact mi _
  · exact yt ..
 have h2:∀ s,(sX F xs e s).length≤(kO F 1 +1)+kO F 2 *(kO F 1 +1):=fun s=>by
  unfold sX; split
  · exact mi _
  · rename_i u _
    rw [bK]
    refine IS (yt ..)<|dZ (vg (fun z=>h1 u s z) _)<|oD _<|zP ..
 unfold kJ
 rw [bK]
 exact IS (yt ..)<|dZ (vg h2 _)<|oD _<|zP ..
theorem S7 {p s:Nat} (h:p+s≤1024):(p+1)+s*((p+1)+s*(p+1))≤269748225:=by
 obtain ⟨a,rfl⟩:∃ a,s=1024 - p - a:=⟨1024 - p - s,ab⟩
 have hs:1024 - p - a≤1024 - p:=Nat.sub_le _ _
 have hp:p≤1024:=ab
 have h4:∀ x y:Nat,x+y≤1026→x*y≤263169:=fun x y G=>by
  rcases Nat.le_total x y with hle | hle
  · obtain ⟨d,rfl⟩:=IX hle
    have h1:x≤513:=ab
    have h2:x+d≤1026 - x:=ab
    refine dZ (Nat.mul_le_mul_left x h2) ?_
    obtain ⟨q,C,rfl⟩:∃ q,q≤513∧x=513 - q:=⟨513 - x,ab,ab⟩
    rw [show 1026 - (513 - q)=513 +q by omega,Nat.sub_mul,ug,ug]
    have :q*513=513 *q:=sd _ _
    omega
  · obtain ⟨d,rfl⟩:=IX hle
    have h1:y≤513:=ab
    have h2:y+d≤1026 - y:=ab
    refine dZ (oD y h2) ?_
    obtain ⟨q,C,rfl⟩:∃ q,q≤513∧y=513 - q:=⟨513 - y,ab,ab⟩
    rw [show 1026 - (513 - q)=513 +q by omega,sd,Nat.sub_mul,ug,ug]
    have :q*513=513 *q:=sd _ _
    omega
 generalize 1024 - p - a=s at hs
 have h5:=h4 (p+1) (s+1) ab
 have c:(p+1)+s*((p+1)+s*(p+1))≤((p+1)*(s+1))*(s+1):=by
  have A:((p+1)*(s+1))*(s+1)=(p+1)+s*((p+1)+s*(p+1))+s*(p+1):=by
   simp only [ug,Nat.add_mul,Nat.mul_one,Nat.one_mul]
   have E:s*p=p*s:=sd _ _
   have a2:s*(s*p)=p*s*s:=by rw [sd s p,sd]
   omega
  rw [A]; exact Nat.le_add_right _ _
 refine dZ c<|dZ (Nat.mul_le_mul h5 (show s+1≤1025 by omega)) ay
theorem xZ {F:aB} {xs:List bh} (c:F.rules.length≤1024) (A:xs.length≤8192):(k8 F xs xs.length).length≤2209777459200:=by
 have h1:∀ e,(kJ F xs e).length≤269748225:=fun e=>dZ (NQ F xs e)<|S7<|dZ (RX F) c
 have h2:=vg h1<|fD xs.length
 unfold k8
 rw [r7] at h2
 omega
theorem JY {a b:bF} (h:qO a b=true) (he:a.ca=b.ca):jO a b:=by
 unfold qO at h
 unfold jO
 split at h
 · have :=of_decide_eq_true h; omega
 · split at h
   · have :=of_decide_eq_true h; omega
   · have :=of_decide_eq_true h; omega
theorem JA (F:aB) (xs:List bh) (n:Nat):(k8 F xs n).Pairwise jO:=by
 unfold k8
 rw [BG]
 refine ⟨fun e _=> ?_,xJ.imp fun {a b} G x C y E=> ?_⟩
 · refine (NS F xs e).imp_of_mem fun {a b} c A h=> ?_
   exact JY h<|by rw [(s6 c).1,(s6 A).1]
 · unfold jO
   have h1:=(s6 C).1
   have h2:=(s6 E).1
   omega
theorem DQ (F:aB) (xs:List bh) (w:Tx):(bP F xs w).Pairwise jO:=(JA F xs xs.length).sublist List.filter_sublist
theorem OQ (F:aB) (xs:List bh) (w:Tx):(bP F xs w).Nodup:=(DQ F xs w).imp fun h e=>by subst e; unfold jO at h; omega
theorem zJ {F:aB} {xs:List bh} {w:Tx} {d:bF} :d∈bP F xs w↔d∈k8 F xs xs.length∧d.ga=w:=by
 unfold bP; rw [pB,decide_eq_true_iff]
theorem DR {w:Tx} :∀ (l m:List bF),(l.Pairwise fun a b=> ¬jO b a)→m.Pairwise jO→(∀ d∈m,d.ga=w)→l.Perm m→l=m
 | [],m,_,_,_,hp=>by rw [hp.symm.eq_nil]
 | a::l,[],_,_,_,hp=>by have :=hp.length_eq; simp at this
 | a::l,b::m,hl,hm,hw,hp=>by
   rw [kZ] at hl hm
   have c:a=b:=by
    have h1:a∈b::m:=hp.subset<|mV ..
    have h2:b∈a::l:=hp.symm.subset<|mV ..
    rcases dR.1 h1 with h1 | h1
    · exact h1
    · rcases dR.1 h2 with h2 | h2
      · exact h2.symm
      · exact absurd (hm.1 a h1)<|hl.1 b h2
   subst c
   rw [DR l m hl.2 hm.2 (fun d hd=>hw d<|nN _ hd) ((List.perm_cons a).1 hp)]
theorem GW {α:Type} [DecidableEq α]:∀ (l m:List α),l.Nodup→(∀ x∈l,x∈m)→l.length≤m.length
 | [],_,_,_=>mi _
 | a::l,m,hl,hs=>by
   rw [List.nodup_cons] at hl
   have h1:=GW l (m.erase a) hl.2 fun x c=>(List.mem_erase_of_ne fun e=>by subst e; exact hl.1 c).2<|hs x<|nN _ c
   have h2:=List.length_erase_of_mem<|hs a<|mV ..
   have h3:=List.length_pos_of_mem<|hs a<|mV ..
   rw [bU]; omega
theorem E4 {f:Value→Option Value} {left :List (Value×Value)} (c:∀ k v,f k=some v↔(k,v)∈left) (d:bF):(f<|dF d).isSome=true↔dF d∈left.map fS:=by
 rw [nS,gK]
 exact ⟨fun ⟨v,h⟩=>⟨_,(c _ v).1 h,aa⟩,fun ⟨⟨k,v⟩,h,e⟩=>⟨v,(c _ v).2<|by rw [← e]; exact h⟩⟩
theorem Q9 {left :List (Value×Value)} {m:List bF} (hk:∀ p∈left,oc p.1) (hn:(left.map fS).Nodup) (hm:∀ d,d∈m↔dF d∈left.map fS):left.length≤m.length:=by
 haveI :DecidableEq Value:=fun a b=>Classical.propDecidable<|a=b
 have :=GW (left.map fS) (m.map dF) hn (fun x c=>by
  obtain ⟨p,hp,rfl⟩:=gK.1 c
  obtain ⟨d,hd⟩:=hk p hp
  rw [hd]
  exact List.mem_map_of_mem ((hm d).2<|by rw [← hd]; exact c))
 simpa using this
theorem Ar (B tb:Nat) (U:eS) (F:aB) (xs:List bh) (wd:Tx) (w:World) (cW:eA w B tb U F xs) (A:eJ F xs) (cU:F.rules.length≤1024) (dO:wd.length≤2097152):
 ba au 30 (aX [aV tb,str wd]) w (fun v w'=>bm w' w.heap.size 49 5 v (bP F xs wd).length (e5<|bP F xs wd)∧Wk w w'):=by
 have dP:=A.xl
 have dK:=A.len
 have cX:=xZ cU A.xl
 refine enter func30 aa ntmps30 aa<|ak fun b5=>aw<|b5<|az fun b7=>ak fun b8=>p mv<|p (lf wH aa aa)<|nl<|b8<|cf (aa)<|aQ<|b7<|az fun b9=>rg aa<|p mv<|e<|cl LA (TT B tb U F xs w cW A) aa fun dX V cR=> ?_
 obtain ⟨kb,ar,cr,rn,fm,dm,rfl,C,cD,bb⟩:=cR
 have dE:=C.lt
 have dB:=C.lo
 refine aw<|b9<|ak fun cc=>p mv<|p (c7 (ps:= [(0,str wd),(2,.int .i64 (-1)),(3,.int .i64 (-1)),(4,.int .i64 (-1))]) (L:= [str wd,.int .i64 0,.int .i64 (-1),.int .i64 (-1),.int .i64 (-1)]) AG aa<|aa)<|e<|iq xa fun ag d3 dy bv cv=> ?_
 have dT:=bv.size
 refine e<|gw uT aa aa aa aa cv ay fun ax cJ cu=> ?_
 have bd:Wk V ax:=bv.md.trans' cJ fun q I h=>by omega
 have bD:ax.heap[ag]? =some (.cells [str wd,.int .i64 0,.int .i64 (-1),.int .i64 (-1),.int .i64 (-1)].toArray 49 (0,0)):=cu
 have bS:Md (fun k=>k=dm) V ax:=bd.mono fun _ _ h=>h.elim
 have cF:=cD.md bd id
 have aW:¬(ag=dm):=ab
 refine nl<|cc<|ak fun ce=>p mv<|p mv<|p (cK k6 aa (aa) fun q I=>(pP bD).bp q)<|e<|cl CO (CZ w V B kb tb U F xs ar cr rn fm dm C A wd wd 0 (-1) (fun _=>False) ax bS cF ab ab) aa fun v22 d1 cS=> ?_
 obtain ⟨rfl,cE,bq⟩:=cS
 have bO:=bS.trans bq
 have cZ:=bq.aE bD aW
 refine nl<|ce<|az fun cg=>ak fun ch=>p mv<|p (nc aa)<|p (fa vm aa)<|p (ld k5 aa<|(bj<|C.at bO).trans aa)<|p (bM o4 aa aa)<|p mv<|nl<|ch<|aE<|lp (fun ah ac am=> ∃ (i:Nat) (b2:Int),(i≤F.rules.length)∧(Md (fun k=>k=dm) V am)∧(iZ am.heap dm<|mJ F xs wd<|i)∧(am.heap[ag]? =some (.cells [str wd,.int .i64 0,.int .i64 (-1),.int .i64 (-1),.int .i64 b2].toArray 49 (0,0)))∧(ac 1=str wd)∧(ac 5=aV kb)∧(ac 6=aV ag)∧(ac 26= .slice ar F.rules.length cr)∧(ac 27=aj (F.rules.length))∧(ac 28=aj i)∧(F.rules.length - i=ah)) _ ⟨0,_,ab,bO,(cE.congr TW),cZ,aa,aa,aa,aa,aa,aa,aa⟩ ?_
 rintro ah ac am ⟨i,b2,hi,O,bl,c1,dg,dk,dl,dh,di,dj,rfl⟩
 refine fx 1 dg<|fx 5 dk<|fx 6 dl<|fx 26 dh<|fx 27 di<|fx 28 dj<|ak fun ci=>p (lt aa aa)<|nl<|ci<|az fun b6=>cd aa (fun c5=> ?_) fun c5=> ?_
 refine aQ<|b6<|az fun ad=>aE<|az fun aF=> ?_
 obtain ⟨r,J⟩:∃ r,F.rules[i]? =some r:=⟨_,bZ ab⟩
 obtain ⟨u,a1⟩:=C.lD J
 have dr:=C.ro u (xI<|gB a1).2
 refine rg aa<|ao (aj i)<|p (a7 lg aa aa ab<|aG.ok (C.rules O)<|lZ a1)<|p (cK j0 aa (aa)<|gY (f:=dG) (m:=7) (fun _=>rfl) (C.rules O) a1)<|e<|iq ou fun cm d5 aR bx cx=> ?_
 have dW:=bx.size
 refine p (bV (aj i) aa)<|e<|gw mA aa aa aa (Gr dr) cx ay fun aA cL cy=> ?_
 have aM:Wk am aA:=bx.md.trans' cL fun q I h=>by omega
 have aR:bE aA.heap cm (dG (r,u)):=⟨_,cy⟩
 have bT:Md (fun k=>k=dm) V aA:=O.trans' aM fun _ _ h=>h.elim
 have bk:=bl.md aM id
 have bH:=Wk.aE aM c1
 refine nl<|aF<|az fun aH=>ak fun aI=>p (fa sO aa)<|p (ld bR aa<|aR.bp 0)<|p (gu aa aa)<|nl<|aI<|cd aa (fun hk=> ?_) fun hk=> ?_
 have aT:=Gu (xs:=xs) (wd:=wd) J<|.inl (show r.kind≠1 by have h:=hk; dsimp only at h; omega)
 exact ext<|bc<|be<|ad<|rg aa<|p (bG ((i+1:Nat):Int) aa aa<|bf ab ab)<|p mv<|nl<|tn<|⟨_,ab,i+1,_,ab,bT,(bk.congr aT),bH,aa,aa,aa,aa,aa,aa,aa⟩
 have c6:r.kind=1:=by have h:=hk; dsimp only at h; omega
 refine aQ<|aH<|ak fun aJ=>p (cK j0 aa (aa) fun q I=>aR.bp q)<|ao (str wd)<|e<|cl yr (AX r u wd aA (A.lD J).2.2.1 (lX A J).2.1 (lX A J).2.2.1 ab) aa fun v39 du cT=> ?_
 obtain ⟨rfl,aL⟩:=cT
 have bQ:Md (fun k=>k=dm) V du:=bT.trans' aL fun _ _ h=>h.elim
 have bi:=bk.md aL id
 have bC:=Wk.aE aL bH
 refine p mv<|p (xt aa aa)<|p (xt aa aa)<|p aC<|aw<|aJ<|az fun ae=>rg aa<|p mv<|nl<|ae<|cb aa (fun aS=> ?_) fun aS=> ?_
 obtain ⟨rest,a0⟩:∃ rest,eL r wd=some rest:=nS.1<|by simpa using aS
 have dN:=Hg a0
 have dJ:=(lX A J).1
 have dL:r.strip.length≤32:=(A.lD J).2.2.1
 have b1:(eL r wd).getD []=rest:=by rw [a0]; rfl
 have cY:=TV (xs:=xs) J c6 a0
 refine ak fun aK=>ao (aj i)<|p (fa oa aa)<|e<|dQ j6 aa aa (v:=aj i) aa bC (by show 4 < 5; omega) fun a3 bo cq=> ?_
 have bB:a3.heap[ag]? =some (.cells [str wd,.int .i64 0,.int .i64 (-1),.int .i64 (-1),aj i].toArray 49 (0,0)):=cq
 have bN:Md (fun k=>k=dm) V a3:=bQ.trans' bo fun q I h=>by omega
 have cC:=bi.md bo fun h=>aW h.symm
 refine nl<|aK<|rg aa<|ao (aV kb)<|p mv<|p (cK k6 aa (aa) fun q I=>(pP bB).bp q)<|e<|cl CO (CZ w V B kb tb U F xs ar cr rn fm dm C A wd ((eL r wd).getD []) 0 (i:Nat) (mJ F xs wd<|i) a3 bN cC ab<|by rw [b1]; omega) aa fun dY d2 bz=> ?_
 rw [b1] at bz
 obtain ⟨rfl,cG,br⟩:=bz
 have da:=bN.trans br
 have c0:=br.aE bB aW
 exact nl<|bn<|ad<|rg aa<|p (bG ((i+1:Nat):Int) aa aa<|bf ab ab)<|p mv<|nl<|tn<|⟨_,ab,i+1,_,ab,da,(cG.congr cY),c0,aa,aa,aa,aa,aa,aa,aa⟩
 have aT:=Gu (xs:=xs) (wd:=wd) J<|.inr (show eL r wd=none by simpa using aS)
 exact aQ<|bn<|ad<|rg aa<|p (bG ((i+1:Nat):Int) aa aa<|bf ab ab)<|p mv<|nl<|tn<|⟨_,ab,i+1,_,ab,bQ,(bi.congr aT),bC,aa,aa,aa,aa,aa,aa,aa⟩
 refine ext<|bc<|bc<|be<|cg<|ak fun ad=>p aC<|nl<|ad<|az fun aF=>az fun aH=> ?_
 obtain rfl :i=F.rules.length:=ab
 obtain ⟨fd,c4,bI,dD⟩:=bl
 refine rg aa<|ao (aV kb)<|p (nc aa)<|p (fa Ei aa)<|p (ld BN aa<|(bj<|C.at O).trans aa)<|e<|TD AQ c4 aa fun al Z left dI bu cH bJ bW bL=> ?_
 have dS:=bu.size
 have an:Wk w Z:=(bb.trans' O fun k hk h=>by omega).trans bu.md
 have dH:left.length≤2209777459200:=by
  have :=Q9 bJ bW fun d=>(show d∈bP F xs wd↔_ from zJ.trans<|(Gv d).symm.trans<|(bI d).symm.trans<|E4 bL d)
  exact dZ this<|dZ (mT _ _) cX
 refine nl<|aH<|aE<|lp (fun ah a5 aD=> ∃ (av:List (Value×Value)) (c:List bF) (E:Option Addr) (G:Nat),((left.map fS).Perm<|c.map dF++av.map fS)∧(nY aD.heap al dm av)∧(bm aD Z.heap.size 49 5 (.slice E c.length G) c.length<|e5 c)∧(Md (fun k=>k=al) Z aD)∧(a5 11= .slice E c.length G)∧(a5 54=aV al)∧(av.length=ah)) _ ⟨left,[],none,0,(Ik _),cH,(dM _ _ _ _),(Md.refl _ _),aa,aa,aa⟩ ?_
 rintro ah a5 aD ⟨av,c,E,G,Y,cN,aq,aN,dn,dp,rfl⟩
 refine fx 11 dn<|fx 54 dp<|ak fun aI=>e<|Si cN aa fun dw ds a2 b4 co cp=>p (Sj aa)<|nl<|aI<|az fun aJ=>cb aa (fun aP=> ?_) fun aP=> ?_
 obtain ⟨aZ,aO,bg⟩:=cp aP
 obtain ⟨kx,vx⟩:=ds
 obtain ⟨d,rfl⟩:oc kx:=by
  have h1:kx∈left.map fS:=Y.mem_iff.2<|ua _<|(aZ.map fS).mem_iff.2<|by simp
  obtain ⟨q,I,rfl⟩:=gK.1 h1
  exact bJ q I
 have c9:=aZ.length_eq
 have aU:=Y.length_eq
 simp only [bK,eX,bU] at c9 aU
 refine aQ<|aJ<|aE<|az fun ae=> ?_
 have bX:=cz aq aO fun k hk h=>by have :=(dd aq hk).1; omega
 refine rg aa<|p (ca bg aa)<|p (xt aa aa)<|e<|iq xa fun ck d0 bA bt cs=> ?_
 have dR:=bt.size
 refine e<|gw uT aa aa aa aa cs ay fun b3 cI ct=> ?_
 have cA:Wk b4 b3:=bt.md.trans' cI fun q I h=>by omega
 have bA:bE b3.heap ck (dz d):=⟨_,ct⟩
 refine nl<|ae<|rg aa<|ao (.slice E c.length G)<|p (cK k6 aa (aa) fun q I=>bA.bp q)<|e<|oN vY aa aa aa fun dx d4 dA bw cw=> ?_
 have dU:=bw.size
 have ai:=cA.trans bw.md
 refine e<|ap vY (a8 bX ai) aa (by have :=ai.size; have :=aO.size; have :=aN.size; omega) aa (aG.fO cw) (aa) (aa) ab ab fun dt a4 db bs dV dC=> ?_
 have bY:bm a4 Z.heap.size 49 5 dt (c++ [d]).length (e5<|c++ [d]):=by rw [show e5 (c++ [d])=e5 c++dz d from by unfold e5; rw [tU,tV],bK]; exact db
 have aY:=a8 bX ai
 have cO:nY a4.heap al dm a2:=((bg.RW).md (ai.trans<|Md.refl _ _) id id).md bs (fun h=>by have :=(dd aY h).1; have :=O.size; omega) fun h=>by have :=(dd aY h).1; have :=O.size; omega
 have cB:Md (fun k=>k=al) Z a4:=(aN.trans aO).trans' (ai.mono (fun _ _ h=>h.elim) |>.trans' bs (fun k hk h=>h)) fun k hk h=>by have :=(dd aY h).1; omega
 obtain ⟨cj,cn,rfl⟩:=cQ bY
 have cP:(left.map fS).Perm ((c++ [d]).map dF++a2.map fS):=by
  refine Y.trans ?_
  rw [gA,ib]
  exact (aZ.map fS).append_left _
 exact p aC<|nl<|bn<|tn<|⟨_,ab,a2,c++ [d],cj,cn,cP,cO,bY,cB,aa,aa,aa⟩
 obtain ⟨c8,rfl⟩:=co aP
 refine ext<|bc<|bc<|be<|aF<|az fun ae=> ?_
 have aU:=Y.length_eq
 simp only [bK,eX] at aU
 rw [c8,IC,eM] at Y
 refine rg aa<|ao (.slice E c.length G)<|e<|cl LB (Ug Z.heap.size c.length (.slice E c.length G) c b4 aq aa ab) aa fun v64 dv cV=> ?_
 obtain ⟨rfl,a9,b0,dq,dc,cM⟩:=cV
 refine nl<|ae<|ak fun aK=>ao (.slice E c.length G)<|p (bV (.slice E c.length G) aa)<|nl<|aK<|rt<|a6 aa ?_
 have c3:c.Nodup:=by
  have h1:(c.map dF).Nodup:=Y.nodup_iff.1 bW
  exact (xK.1 h1).imp fun h e=>h<|congrArg dF e
 have c2:∀ d,d∈c↔d∈bP F xs wd:=fun d=>by
  have h1:dF d∈left.map fS↔dF d∈c.map dF:=Y.mem_iff
  rw [zJ,← Gv,← bI,E4 bL,h1,gK]
  exact ⟨fun h=>⟨d,h,aa⟩,fun ⟨e,he,hk⟩=>zm hk ▸ he⟩
 have df:a9.Perm (bP F xs wd):=b0.trans<|(IH c3<|OQ F xs wd).2 c2
 obtain rfl :=DR a9 _ dq (DQ F xs wd) (fun d hd=>(zJ.1 hd).2) df
 have de:∀ n,n=c.length→bm dv Z.heap.size 49 5 (.slice E c.length G) n (e5<|bP F xs wd):=by intro n hn; rw [hn]; exact dc
 exact ⟨fk (de _ b0.length_eq) (by have :=an.size; omega),(an.trans' aN fun k hk h=>by have :=an.size; have :=bb.size; have :=O.size; omega).trans' cM fun k hk h=>by have :=(dd aq h).1; have :=an.size; omega⟩
theorem Aq (wd:Tx) (w:World):
 ba au 30 (aX [.pointer none,str wd]) w (fun v w'=>v= .slice none 0 0∧Wk w w'):=by
 exact enter func30 aa ntmps30 aa<|ak fun c=>aw<|c<|az fun E=>ak fun A=>p mv<|p (lf wH aa aa)<|nl<|A<|ct (aa)<|ak fun C=>p aC<|nl<|C<|rt<|tr<|a6 aa<|⟨aa,Md.refl _ _⟩
end Go.Hb
end
section
namespace Go.Hb.pG
open Go.Hb.iP Go.Hb.n0
theorem N6 (l:List bF):(e5 l).length=l.length*5:=lR (f:=dz) (m:=5) (fun _=>rfl) l
theorem N7 (l:List bF):(e5 l).all et=true :=yY (fun _=>rfl) l
noncomputable def iy (F:aB) (xs:List bh) (w:Tx) (most:Int):List bF:=(bP F xs w).take (min most 1000).toNat
theorem N8 (l:List bF) (k:Nat):e5 (l.take k)=(e5 l).take (k*5):=by
 induction l generalizing k with
 | nil=>simp [e5]
 | cons a l c=>
   cases k with
   | zero=>simp [e5]
   | succ k=>
     show dz a++e5 (l.take k)=(dz a++e5 l).take _
     rw [c,show (k+1)*5=(dz a).length+k*5 by show _=5 +k*5; omega,List.take_length_add_append]
theorem VQ {F:aB} {xs:List bh} {w:Tx} {most:Int} :(bP F xs w).take (max 0<|min (min most 1000) ((bP F xs w).length:Nat)).toNat=iy F xs w most:=by
 unfold iy
 by_cases h:(min most 1000).toNat≤(bP F xs w).length
 · congr 1; omega
 · rw [eN ab,eN ab]
noncomputable def jK (F:aB) (xs:List bh) (w:Tx) (fb:Bool):Bool:=(bP F xs w).any fun d=>decide (gq F xs d.ca 1=fb)
section
variable {P:Program} {N:Fm} {σ:Nat→Value} {w:World} {dst:Option Nat} {ty:TypeId} {pos :String} {af:Array Edge} {g:Option (Nat×Bool)} {x y z:Operand}
theorem FH {k:IntKind} {a b c:Int} {at_:Array TypeId} (A:ev N σ x= .int k a) (C:ev N σ y= .int k b) (E:ev N σ z= .int k c):
 (execOp (ev N σ) ⟨dst,.call ⟨.builtin .min,#[x,y,z],at_⟩,ty,pos,af,g⟩).run P w= .ok (.value<|.int k<|min (min a b) c) w:=by
 have h1:(if b < a then b else a)=min a b:=ab
 have h2:(if c < min a b then c else min a b)=min (min a b) c:=ab
 simp [execOp,resolve,invoke,builtin,Builtin.min_,Builtin.min2,A,C,E,h1,h2]
end
theorem Ae {w:World} {B e size n cap:Nat} {xs:List Value} (h:bm w B e size (.slice none n cap) n xs):n=0:=by
 rcases h.2 with ⟨h1,h2⟩ | ⟨g,c,cur,h1,_⟩
 · injection h1 with _ h3 _
 · injection h1 with h2 _ _; cases h2
theorem C6 (a:Option Addr) (n c:Nat) (xs:List Value) (w:World) (Y:aG w.heap a xs) (ai:xs.length=n*5) (ad:a=none→n=0) (h1:xs.all et=true) (hn:n≤1048576):
 ba au 31 (aX [.slice a n c]) w (fun v w'=>bm w' w.heap.size 49 5 v n xs∧Wk w w'):=by
 refine enter func31 aa ntmps31 aa<|ak fun I=>aw<|I<|az fun J=>ak fun O=>ao (.slice a n c)<|p (oQ l2 aa aa)<|nl<|O<|cb aa (fun E=> ?_) fun E=> ?_
 have ae:a=none:=by simpa using E
 refine ak fun A=>aw<|A<|rt<|tr<|a6 aa ?_
 have ag:=ad ae
 subst ag
 obtain rfl :=fR (show xs.length=0 by omega)
 exact ⟨dM _ _ _ _,Md.refl _ _⟩
 refine aQ<|J<|ak fun A=>e<|oM vY fun an ay aq C V=> ?_
 have G:=V w.heap.size ab
 refine ao (.slice a n c)<|e<|ap vY (G) aa (by have :=C.size; omega) aa (Y.wk C.md) (ai) (h1) ab ab fun al am ah ac ax av=> ?_
 have Z:=Wk.own C.md G ac<|cw _
 refine aw<|A<|rt<|a6 aa ?_
 have aj:bm am w.heap.size 49 5 al n xs:=by simpa using ah
 exact ⟨aj,Z⟩
theorem Hp (B tb:Nat) (U:eS) (F:aB) (xs:List bh) (wd:Tx) (most:Int) (w:World) (ah:eA w B tb U F xs) (ac:eJ F xs) (ag:F.rules.length≤1024) (al:wd.length≤2097152):
 ba au 11 (aX [aV tb,str wd,.int .i64 most]) w (fun v w'=>bm w' w.heap.size 49 5 v (iy F xs wd most).length (e5<|iy F xs wd most)∧Wk w w'):=by
 refine enter func11 aa ntmps11 aa<|ak fun J=>aw<|J<|ak fun O=>p mv<|p mv<|e<|cl qQ (Ar B tb U F xs wd w ah ac ag al) aa fun v10 am ae=> ?_
 obtain ⟨c,E⟩:=ae
 obtain ⟨Y,Z,rfl⟩:=cQ c
 have ap:=(aU c).1
 obtain ⟨K,A⟩:∃ K:Nat,(max 0 (min (min most 1000) ((bP F xs wd).length:Nat)):Int)=(K:Int):=⟨(max 0 (min (min most 1000) ((bP F xs wd).length:Nat)):Int).toNat,ab⟩
 have C:=VQ (F:=F) (xs:=xs) (w:=wd) (most:=most)
 rw [A,jx] at C
 have ao:K≤(bP F xs wd).length:=ab
 have an:K≤1000:=ab
 have I:(iy F xs wd most).length=K:=by rw [← C,dB]; omega
 refine aw<|O<|ak fun V=>p mv<|p mv<|p mv<|p (bM l2 aa aa)<|p (FH aa aa aa)<|p (mx aa aa)<|p (qh pZ aa aa ab)<|e<|cl CJ (C6 Y (max 0 (min (min most 1000) ((bP F xs wd).length:Nat)):Int).toNat Z (e5<|iy F xs wd most) am (by rw [← C,N8]; exact aG.take (aU c).2 _) (by rw [N6,I,A,jx]) (fun ai=>by subst ai; have :=Ae c; omega) (N7 _) ab) aa fun aq av G=> ?_
 rw [A,jx,← I] at G
 obtain ⟨aj,ad⟩:=G
 exact aw<|V<|rt<|a6 aa<|⟨fk aj (by have :=E.size; omega),E.trans ad⟩
theorem VW (wd:Tx) (most:Int) (w:World):
 ba au 11 (aX [.pointer none,str wd,.int .i64 most]) w (fun v w'=>bm w' w.heap.size 49 5 v 0 []∧Wk w w'):=by
 refine enter func11 aa ntmps11 aa<|ak fun E=>aw<|E<|ak fun G=>p mv<|p mv<|e<|cl qQ (Aq wd w) aa fun v10 Y O=> ?_
 obtain ⟨rfl,A⟩:=O
 have c:(max 0 (min (min most 1000) ((0:Nat):Int)):Int)=0:=ab
 refine aw<|G<|ak fun I=>p mv<|p mv<|p mv<|p (bM l2 aa aa)<|p (FH aa aa aa)<|p (mx aa aa)<|p (qh pZ aa aa ab)<|e<|cl CJ (C6 none (max 0 (min (min most 1000) ((0:Nat):Int)):Int).toNat 0 [] Y (aG.nil _ _) (by rw [c]; rfl) (fun _=>by rw [c]; rfl) aa<|by rw [c]; decide) aa fun Z ac V=> ?_
 obtain ⟨C,J⟩:=V
 refine aw<|I<|rt<|a6 aa ?_
 rw [c] at C
 exact ⟨fk C A.size,A.trans J⟩
theorem MT (B tb:Nat) (U:eS) (F:aB) (xs:List bh) (d:bF) (fb:Bool) (I J:Nat) (w:World) (ah:eA w B tb U F xs) (ab:eJ F xs) (ai:xO w I (some ⟨tb,0,none⟩)) (al:w.heap[J]? =some (.cells [.bool fb].toArray 4 (0,0))):
 ba au 64 (aX [.agg (dz d).toArray,aV I,aV J]) w (fun v w'=>v= .bool (decide (gq F xs d.ca 1=fb))∧Wk w w'):=by
 refine enter func64 aa ntmps64 aa<|ak fun V=>e<|iQ aa fun Z A O E ac=> ?_
 have O:bE A.heap Z (dz d):=ac
 have aj:=Wk.aE E.md ai
 have am:=Wk.aE E.md al
 refine aw<|V<|az fun Y=> ?_
 have c:(fun w'=>Wk A w') A.drew:=(Md.refl _ _).drew
 refine cD (fun w'=>Wk A w') aa wide c<|aR 0 aa (fun w' C=>ld sr aa<|Wk.aM C<|(bj aj).trans aa) c<|aR 1 aa (fun _ _=>fa lj aa) c<|aR 2 aa (fun w' C=>ld bR aa<|Wk.aM C<|O.bp 1) c<|aR 4 aa (fun w' C=>ld oJ aa<|Wk.aM C<|(bj am).trans aa) c<|he 3 aa ag<|cl uL (vA B tb U F xs (d.ca:Nat) 1 A.drew (ah.wk E.md.drew) ab) aa fun ao an ae=> ?_
 obtain ⟨rfl,ad⟩:=ae
 have G:(fun w'=>Wk A w') an:=c.trans ad
 refine ⟨G,?_⟩
 exact aR 5 aa (fun _ _=>mB u4 aa aa) G<|aR 6 aa (fun _ _=>aC) G<|hn ag<|Y<|rt<|a6 aa<|⟨aa,E.md.trans G⟩
theorem Qr (B tb:Nat) (U:eS) (F:aB) (xs:List bh) (fb:Bool) (C E:Nat) (a:Option Addr) (c:Nat) (L:List bF) (w:World) (av:eA w B tb U F xs) (ap:eJ F xs) (ax:xO w C (some ⟨tb,0,none⟩)) (ay:w.heap[E]? =some (.cells [.bool fb].toArray 4 (0,0))) (Y:aG w.heap a (e5 L)) (aJ:L.length≤4000000000000):
 ba au 113 (aX [.slice a L.length c,.func (.func 64) #[] #[aV C,aV E]]) w (fun v w'=>(∃ k:Int,v= .int .i64 k∧(0≤k↔(L.any fun d=>decide (gq F xs d.ca 1=fb))=true))∧Wk w w'):=by
 refine enter func113 aa ntmps113 aa<|ak fun ad=>aw<|ad<|az fun ae=>ak fun ag=>p mv<|p (bM l2 aa aa)<|p mv<|nl<|ag<|aE<|lp (fun V I O=> ∃ (i:Nat),(i≤L.length)∧(∀ j d,j < i→L[j]? =some d→¬(gq F xs d.ca 1=fb))∧(Wk w O)∧(I 0= .slice a L.length c)∧(I 1= .func (.func 64) #[] #[aV C,aV E])∧(I 7=aj (L.length))∧(I 8=aj i)∧(L.length - i=V)) _ ⟨0,ab,(fun j d G=>by omega),(Md.refl _ _),aa,aa,aa,aa,aa⟩ ?_
 rintro V I O ⟨i,hi,ac,A,aD,aF,aH,aI,rfl⟩
 refine fx 0 aD<|fx 1 aF<|fx 7 aH<|fx 8 aI<|ak fun ah=>p (lt aa aa)<|nl<|ah<|az fun ai=>cd aa (fun aA=> ?_) fun aA=> ?_
 refine aQ<|ai<|az fun J=>aE<|ak fun al=>ao (aj i)<|p (bV (aj i) aa)<|nl<|al<|az fun am=> ?_
 obtain ⟨d,hd⟩:∃ d,L[i]? =some d:=⟨_,bZ ab⟩
 refine rg aa<|ao (.func (.func 64) #[] #[aV C,aV E])<|ao (.slice a L.length c)<|ao (aj i)<|p (a7 pZ aa aa ab<|aG.ok (Y.wk A)<|sG ab)<|p (cK k6 aa (aa)<|gY (f:=dz) (m:=5) (fun _=>rfl) (Y.wk A) hd)<|e<|ML LD aa (MT B tb U F xs d fb C E O (av.wk A) ap (Wk.aE A ax)<|Wk.aE A ay) aa fun aK aL aq=> ?_
 obtain ⟨rfl,Z⟩:=aq
 refine nl<|am<|cb aa (fun hm=> ?_) fun hm=> ?_
 exact ak fun an=>ao (aj i)<|p (bV (aj i) aa)<|nl<|an<|rt<|br<|tr<|tr<|br<|tr<|a6 aa<|⟨⟨(i:Nat),aa,fun _=>xy.2 ⟨d,gB hd,decide_eq_true<|of_decide_eq_true hm⟩,fun _=>by omega⟩,A.trans Z⟩
 exact aQ<|bn<|J<|rg aa<|p (bG ((i+1:Nat):Int) aa aa<|bf ab ab)<|p mv<|nl<|tn<|⟨_,ab,i+1,ab,(fun j e G he=>by rcases nQ.1 G with h | rfl; exact ac j e h he; rw [hd] at he; cases he; exact of_decide_eq_false hm),(A.trans Z),aa,aa,aa,aa,aa⟩
 exact ext<|bc<|bc<|be<|ae<|ak fun J=>p aC<|nl<|J<|rt<|a6 aa<|⟨⟨-1,aa,fun h=>absurd h ab,fun h=>by obtain ⟨d,hd,h1⟩:=xy.1 h; obtain ⟨j,G⟩:=List.getElem?_of_mem hd; exact absurd (of_decide_eq_true h1)<|ac j d (by have :=(eu.1 G).1; omega) G⟩,A⟩
theorem M0 (B tb:Nat) (U:eS) (F:aB) (xs:List bh) (fb:Bool) (A C:Nat) (a:Option Addr) (c:Nat) (L:List bF) (w:World) (Y:eA w B tb U F xs) (I:eJ F xs) (Z:xO w A (some ⟨tb,0,none⟩)) (ab:w.heap[C]? =some (.cells [.bool fb].toArray 4 (0,0))) (J:aG w.heap a (e5 L)) (O:L.length≤4000000000000):
 ba au 63 (aX [.slice a L.length c,.func (.func 64) #[] #[aV A,aV C]]) w (fun v w'=>v= .bool (L.any fun d=>decide (gq F xs d.ca 1=fb))∧Wk w w'):=by
 refine enter func63 aa ntmps63 aa<|ak fun E=>aw<|E<|ak fun G=>p mv<|p mv<|e<|cl Ch (Qr B tb U F xs fb A C a c L w Y I Z ab J O) aa fun ae ag V=> ?_
 obtain ⟨⟨ad,rfl,ac⟩,hE7⟩:=V
 exact p (ge aa aa)<|aw<|G<|rt<|a6 aa<|⟨by show bO (decide (ad≥0))=_; exact congrArg bO (by rw [Bool.eq_iff_iff,decide_eq_true_iff]; exact ac),hE7⟩
theorem De (B tb:Nat) (U:eS) (F:aB) (xs:List bh) (wd:Tx) (fb:Bool) (w:World) (J:eA w B tb U F xs) (A:eJ F xs) (I:F.rules.length≤1024) (ao:wd.length≤2097152):
 ba au 33 (aX [aV tb,str wd,.bool fb]) w (fun v w'=>v= .bool (jK F xs wd fb)∧Wk w w'):=by
 refine enter func33 aa ntmps33 aa<|ak fun V=>e<|sw aa aa fun ac aA av aj ag=>e<|sw aa aa fun ad ap ax G ah=> ?_
 have E:=Wk.aE G.md ag
 have C:=aj.md.trans G.md
 refine aw<|V<|ak fun Y=>p (ld sr aa<|(bj E).trans aa)<|p mv<|e<|cl qQ (Ar B tb U F xs wd ap (J.wk C) A I ao) aa fun v9 aq am=> ?_
 obtain ⟨O,c⟩:=am
 obtain ⟨Z,ae,rfl⟩:=cQ O
 have an:=xZ I A.xl
 have ay:(bP F xs wd).length≤2209777459200:=dZ (mT _ _) an
 refine p zL<|e<|cl CP (M0 B tb U F xs fb ac ad Z ae (bP F xs wd) aq (J.wk<|C.trans c) A (Wk.aE c E) (Wk.aE c ah) (aU O).2 ab) aa fun v11 az al=> ?_
 obtain ⟨rfl,ai⟩:=al
 exact aw<|Y<|rt<|a6 aa<|⟨aa,(C.trans c).trans ai⟩
theorem BY (B tb:Nat) (U:eS) (F:aB) (xs:List bh) (wd:Tx) (w:World) (J:eA w B tb U F xs) (C:eJ F xs) (G:F.rules.length≤1024) (O:wd.length≤2097152):
 ba au 14 (aX [aV tb,str wd]) w (fun v w'=>v= .bool (jK F xs wd false)∧Wk w w'):=by
 refine enter func14 aa ntmps14 aa<|ak fun c=>aw<|c<|ak fun A=>p mv<|p mv<|e<|cl uM (De B tb U F xs wd false w J C G O) aa fun V Y I=> ?_
 obtain ⟨rfl,E⟩:=I
 exact aw<|A<|rt<|a6 aa<|⟨aa,E⟩
theorem Ep (B tb:Nat) (U:eS) (F:aB) (xs:List bh) (wd:Tx) (w:World) (J:eA w B tb U F xs) (C:eJ F xs) (G:F.rules.length≤1024) (O:wd.length≤2097152):
 ba au 15 (aX [aV tb,str wd]) w (fun v w'=>v= .bool (jK F xs wd true)∧Wk w w'):=by
 refine enter func15 aa ntmps15 aa<|ak fun c=>aw<|c<|ak fun A=>p mv<|p mv<|e<|cl uM (De B tb U F xs wd true w J C G O) aa fun V Y I=> ?_
 obtain ⟨rfl,E⟩:=I
 exact aw<|A<|rt<|a6 aa<|⟨aa,E⟩
theorem xP (B tb:Nat) (U:eS) (F:aB) (xs:List bh) (wd:Tx) (w:World) (I:eA w B tb U F xs) (E:eJ F xs) (G:F.rules.length≤1024) (J:wd.length≤2097152):
 ba au 16 (aX [aV tb,str wd]) w (fun v w'=>v= .bool (jK F xs wd false && !jK F xs wd true)∧Wk w w'):=by
 refine enter func16 aa ntmps16 aa<|ak fun O=>aw<|O<|ak fun C=>p mv<|p mv<|e<|cl uH (BY B tb U F xs wd w I E G J) aa fun ac ab Z=> ?_
 obtain ⟨rfl,c⟩:=Z
 refine p mv<|gb (t:=8) aa (fun A=> ?_) fun A=> ?_
 refine aK aa mv<|aK aa mv<|eg aa aa aa<|cl pS (Ep B tb U F xs wd ab (I.wk c) E G J) aa fun v11 ad Y=> ?_
 obtain ⟨rfl,V⟩:=Y
 exact aK aa (no aa)<|p (bN aa)<|aw<|C<|rt<|a6 aa<|⟨by rw [A]; rfl,c.trans V⟩
 exact aJ aa<|aJ aa<|aJ aa<|aJ aa<|p (bH aa)<|aw<|C<|rt<|a6 aa<|⟨by rw [A]; rfl,c⟩
end Go.Hb.pG
end
