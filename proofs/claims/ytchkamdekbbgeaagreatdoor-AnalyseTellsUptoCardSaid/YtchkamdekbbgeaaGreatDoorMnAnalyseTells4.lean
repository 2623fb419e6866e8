/-
  Walks and plain laws that the law rests on, laid together. No conditions but those that each theorem names.
-/
import Derived.Test.YtchkamdekbbgeaaGreatDoorMnAnalyseTells3
set_option linter.unusedVariables false
set_option maxRecDepth 20000
set_option maxHeartbeats 1000000
open Array renaming getElem?_eq_some_iff→cY
open Bool renaming noConfusion→dA,or_eq_false_iff→pd
open Classical renaming not_not→l6
open Except.ok renaming injEq→qp
open Go.Proofs.Tryz renaming prog→au
open Go.Value renaming agg→bw,int→ff,slice→bD
open Go.World renaming ownsRow→bm,ownsRow_nil→dM
open List renaming any_eq_false→Il,append_assoc→ib,append_nil→eM,count_eq_zero→pw,count_le_length→r4,count_pos_iff→xz,drop_eq_nil_of_le→kX,drop_succ_cons→tS,drop_zero→tT,eq_nil_of_length_eq_zero→fR,find?_cons→Is,find?_eq_none→By,findIdx?_eq_none_iff→It,flatMap_append→tU,flatMap_singleton→tV,getD_cons_zero→ma,getD_eq_getElem?_getD→cM,getElem?_eq_getElem→bZ,getElem?_eq_some_iff→eu,getElem?_map→eR,idxOf_lt_length_iff→xE,length_append→bK,length_cons→bU,length_drop→gy,length_map→eX,length_nil→gz,length_singleton→ic,length_take→dB,map_append→gA,mem_append→kY,mem_cons→dR,mem_of_getElem?→gB,mem_singleton→iX,take→qC,take_of_length_le→eN,take_succ_cons→r8,take_zero→oC,toArray→aX
open Nat renaming add_le_add_left→IT,le_refl→cw,le_trans→dZ,lt_or_ge→ig,zero_add→fK
open Option renaming getD_some→I1,isSome_iff_exists→nS
open UInt8 renaming toNat_inj→pE,toNat_lt→ji
open Go.Proofs.Tryz
open Go.Hb.dx Go.Proofs Go.Hb.dV Go.Hb.eI

namespace Go.Hb
theorem Pv {kind:Nat} {s:Tx} (h:(iu kind s).2=0):(iu kind s).1≠0:=by
 unfold iu at h ⊢
 split
 · rename_i c; rw [if_pos c] at h; cases h
 · rename_i c; exact c
theorem Py {F:aB} {s:Tx} (h:(iu F.kind s).2≠0):iw F s= .error (iu F.kind s).2:=if_pos h
theorem PA {F:aB} {s:Tx} (h:(iu F.kind s).2=0) (h1:ea F (iu F.kind s).1=true):iw F s= .error 115:=by unfold iw; rw [if_neg (fun h2=>h2 h),if_pos h1]
theorem PB {F:aB} {s:Tx} (h:(iu F.kind s).2=0) (h1:ea F (iu F.kind s).1=false):iw F s= .ok (iu F.kind s).1:=by unfold iw; rw [if_neg (fun h2=>h2 h),if_neg (by rw [h1]; exact dA)]
theorem Um {F:aB} {rows:List Rw} {ln e:Nat} {r:List Tx} (h:iw F (r.getD 1 [])= .error e):jt F rows ln r= .error (ln,e):=by unfold jt; rw [h]
theorem Un {F:aB} {rows:List Rw} {ln x:Nat} {r:List Tx} (h:iw F (r.getD 1 [])= .ok x):jt F rows ln r= .ok ({F with sp:=F.sp.set (fQ.idxOf<|r.getD 0 []) x},rows):=by unfold jt; rw [h]
def nr:List Tx:= [jo,jM,ka,kr,kL,iH,iK,du]
theorem F3 (hs:List Tx):ordered hs=true↔∀ k∈nr,k∉hs:=by
 unfold ordered
 rw [Bool.not_eq_true',Il]
 have hm:∀ k,k∈nr↔(k∈fQ∨k=iH∨k=iK∨k=du):=by
  intro k
  simp only [nr,fQ,dR,List.not_mem_nil,or_false,or_assoc]
 constructor
 · intro h k hk c
   have :=h k c
   rw [decide_eq_true_iff] at this
   exact this<|(hm k).1 hk
 · intro h x A hd
   rw [decide_eq_true_iff] at hd
   exact h x ((hm x).2 hd) A
theorem TZ {F:aB} {rows:List Rw} {ln:Nat} {r:List Tx} (h:gO (r.getD 1 [])=false):l0 F rows ln r= .error (ln,21):=if_pos h
theorem T0 {F:aB} {rows:List Rw} {ln:Nat} {r:List Tx} (h:gO (r.getD 1 [])=true):l0 F rows ln r= .ok ({F with sA:=r.getD 1 []},rows):=if_neg<|by rw [h]; exact dA
theorem Vj {F:aB} {rows:List Rw} {ln:Nat} {r:List Tx} (h:(letE<|r.getD 1 []).2≠0):l1 F rows ln r= .error (ln,(letE<|r.getD 1 []).2):=if_pos h
theorem Vk {F:aB} {rows:List Rw} {ln:Nat} {r:List Tx} (h:(letE<|r.getD 1 []).2=0):l1 F rows ln r= .ok ({F with tr:=(letE<|r.getD 1 []).1},rows):=if_neg fun h2=>h2 h
theorem RM {F:aB} {rows:List Rw} {ln e:Nat} {r:List Tx} (h:ei (r.getD 1 []) 64= .error e):kf F rows ln r= .error (ln,e):=by unfold kf; rw [h]
theorem RN {F:aB} {rows:List Rw} {ln n:Nat} {r:List Tx} (h:ei (r.getD 1 []) 64= .ok n) (c:n=0):kf F rows ln r= .error (ln,13):=by unfold kf; rw [h]; exact if_pos c
theorem RO {F:aB} {rows:List Rw} {ln n:Nat} {r:List Tx} (h:ei (r.getD 1 []) 64= .ok n) (c:n≠0):kf F rows ln r= .ok ({F with least:=n},rows):=by unfold kf; rw [h]; exact if_neg c
theorem QZ {F:aB} {seen:List Tx} {rows:List Rw} {ln:Nat} {r:List Tx} {k:Tx} (hk:k∈nr) (h:k∈seen):ke F seen rows ln r= .error (ln,113):=by
 unfold ke
 rw [if_pos]
 cases ho:ordered seen with
 | false =>rfl
 | true =>exact absurd h<|(F3 seen).1 ho k hk
theorem Q0 {F:aB} {seen:List Tx} {rows:List Rw} {ln:Nat} {r:List Tx} (h:ordered seen=true) (c:kt (r.getD 1 [])=0):ke F seen rows ln r= .error (ln,114):=by unfold ke; rw [if_neg (by rw [h]; exact dA),if_pos c]
theorem Q1 {F:aB} {seen:List Tx} {rows:List Rw} {ln:Nat} {r:List Tx} (h:ordered seen=true) (c:kt (r.getD 1 [])≠0):ke F seen rows ln r= .ok ({F with kind:=kt<|r.getD 1 []},rows):=by unfold ke; rw [if_neg (by rw [h]; exact dA),if_neg c]
def kinds:List Tx:= [zq,zn,zo]
theorem QX (s:Tx):((if s∈kinds then (kinds.idxOf s:Nat) else -1:Int))=(kt s:Nat) - 1:=by
 unfold kt kinds
 by_cases h1:s=zq
 · subst h1; decide
 · by_cases h2:s=zn
   · subst h2; decide
   · by_cases h3:s=zo
     · subst h3; decide
     · rw [if_neg (by simp [h1,h2,h3]),if_neg h1,if_neg h2,if_neg h3]; rfl
theorem QY (s:Tx):kt s≤3:=by
 unfold kt
 split
 · omega
 · split
   · omega
   · split <;> omega
theorem zb (B:Nat) (H:cj) (F:aB) (V:dU) (R:fT) (rows:List Rw) (ln:Nat) (seen:List Tx) (s:Tx) (w:World) (J:cV w B H.fb H.mc F V) (E:cx w B H F R rows ln seen) (hk:F.kind=1∨F.kind=2∨F.kind=3) (hs:s.length≤1048576):
 ez au 195 (aX [.pointer (some ⟨H.rb,0,none⟩),str s]) w (fun v w'=> ∃ x,iw F s= .ok x∧x≠0∧v=aT x∧ea F x=false∧Wk w w') (fun c w'=> ∃ e,iw F s= .error e∧c=gZ 45 ln (e:Nat)∧Wk w w'):=by
 obtain ⟨tf,aj,ak⟩:=E.tm
 refine ja func195 aa ntmps195 aa<|sq fun ao Y=>rg aa<|p aC<|nl<|tn<|Y _ _<|sq fun ap Z=>rg aa<|p (aH (.pointer<|some ⟨H.rb,0,none⟩) aa)<|p (nc aa)<|p (fa fY aa)<|p (ld eT aa<|(bj E.cells).trans aa)<|p (nc aa)<|p (fa fI aa)<|p (fa q8 aa)<|p (ld bR aa<|(bj J.cells).trans aa)<|p (aH (str s) aa)<|e<|cl KS (Sr F.kind s _ hk hs) aa fun v17 al ag=> ?_
 obtain ⟨rfl,A⟩:=ag
 refine p mv<|p (xt aa aa)<|p (xt aa aa)<|p aC<|p aC<|nl<|tn<|Z _ _<|sq fun aq ac=>rg aa<|p (aH (.pointer<|some ⟨H.rb,0,none⟩) aa)<|p mv<|eP aa (cU nb (nq H.rb ln ((iu F.kind s).2:Nat) al<|Wk.aM A E.dX) aa fun v22 am ah=> ?_) fun c w' C an J=>⟨_,Py (by have :=C.2.1; omega),C.1,by rw [C.2.2]; exact A⟩
 obtain ⟨rfl,I,rfl⟩:=ah
 have I:(iu F.kind s).2=0:=ab
 have O:=Pv I
 refine nl<|tn<|ac _ _<|sq fun av ad=>rg aa<|p (aH (.pointer<|some ⟨H.rb,0,none⟩) aa)<|p (aH (.pointer<|some ⟨H.rb,0,none⟩) aa)<|p (nc aa)<|p (fa y5 aa)<|p (ld sj aa<|Wk.aM A<|(bj E.cells).trans aa)<|p mv<|p (kN ql l5 p9 (aj.wk A) aa aa (⟨_,aa⟩)<|ak _ O)<|p (cg aa aa)<|eP aa (cU gj (gr H.rb ln _ 115 am (Wk.aM A E.dX) ay) aa fun v31 ax ai=> ?_) fun c w' C an J=>⟨115,PA I (by have h:=C.2.1; rw [Dv] at h; simpa using h),C.1,by rw [C.2.2]; exact A⟩
 obtain ⟨rfl,G,rfl⟩:=ai
 rw [Dv] at G
 have G:ea F (iu F.kind s).1=false :=by simpa using G
 exact nl<|tn<|ad _ _<|sq fun aw ae=>rg aa<|p mv<|p aC<|nl<|tn<|ae _ _<|rt<|iG<|f1 aa aa<|⟨_,PB I G,O,aa,G,A⟩
theorem tt (B:Nat) (H:cj) (F:aB) (rows:List Rw) (ln:Nat) (seen:List Tx) (r:List Tx) (aK:Nat) (ar:Option Addr) (cr:Nat) (w:World) (Z:St w B H F rows ln seen) (aj:Tg w aK 9 r.length (.slice ar r.length cr) (r.map str)) (ba:r.length=2) (a0:∀ x∈r,x.length≤70000) (aA:r.getD 0 []∈fQ) (a1:F.sp.getD (fQ.idxOf<|r.getD 0 []) 0=0):
 ez au 130 (aX [.pointer (some ⟨H.rb,0,none⟩),.slice ar r.length cr]) w (il B H seen (jt F rows ln r) w) (ik B H (jt F rows ln r) w):=by
 obtain ⟨V,R,E,I,G⟩:=Z
 have av:=aj.dy
 have ax:¬(H.rb=H.fb):=fun h=>by have h1:=I.cells; rw [h,E.cells] at h1; cases h1
 have bb:(r.getD 1 []).length≤70000:=a0 _<|fg ab
 have az:¬(bk ar=H.fb):=Tg.tc aj (cX ab) E.cells ay
 obtain ⟨tf,ak,aD⟩:=I.tm
 obtain ⟨bg,bc,bd⟩:=I.sm
 have aw:fQ.idxOf (r.getD 0 []) < 5:=xE.2 aA
 refine ja func130 aa ntmps130 aa<|sq fun a6 aP=>rg aa<|p (aH (.pointer<|some ⟨H.rb,0,none⟩) aa)<|p (aH (.slice ar r.length cr) aa)<|p (a7 c8 aa aa ab<|aG.ok (av.2)<|cX ab)<|p (ld cB aa<|dt.get (i:=1) av.2 ab)<|eP aa (cU yg (zb B H F V R rows ln seen (r.getD 1 []) w E I G.kd ab) aa fun v9 bh Y=> ?_) fun c w' aR bi E=>by obtain ⟨e,he,h,h2⟩:=aR; exact ⟨ln,e,Um he,h,Wk.mw h2⟩
 obtain ⟨x,a2,a3,rfl,aI,C⟩:=Y
 have aO:=E.wk C
 have Y:=I.wk C
 refine p aC<|nl<|tn<|aP _ _<|sq fun a8 aQ=>rg aa<|p (aH (.pointer<|some ⟨H.rb,0,none⟩) aa)<|p (nc aa)<|p (fa y5 aa)<|p (ld sj aa<|Wk.aM C<|(bj I.cells).trans aa)<|p mv<|p (kN ql l5 p9 (ak.wk C) aa aa (⟨_,aa⟩) (show _=ff .i64 0 from (aD x a3).trans<|by rw [aI]; rfl))<|p (bG ((1:Nat):Int) aa aa<|bf ab ab)<|e<|qn ql p9 (ak.wk C) aa aa aa (⟨_,aa⟩) fun J ad aS=> ?_
 have ao:=Y.ta (F':= {F with sp:=F.sp.set (fQ.idxOf<|r.getD 0 []) x}) ad aS rfl (G0 aI aD<|NK (by rw [E.js]; exact aw) a1)
 have ac:=aO.ta Y ad
 have aY:=(aj.wk C).md ad fun k hk cur z aZ=>by subst hk; exact (ak.wk C).mF aZ
 have aq:=aY.dy
 refine nl<|tn<|aQ _ _ ?_
 have A:(fun w'=>Md (fun k=>k=H.fb) J w') J.drew:=(Md.refl _ _).drew
 refine cD (fun w'=>Md (fun k=>k=H.fb) J w') aa wide A<|hp 0 aa ag (fun _ _=>aH (.pointer<|some ⟨H.rb,0,none⟩) aa) A<|hp 1 aa ag (fun _ _=>nc aa) A<|hp 2 aa ag (fun _ _=>fa fY aa) A<|hp 3 aa ag (fun w' Z=>ld eT aa<|Md.aM Z ((bj ao.cells).trans aa)<|by first | exact ax | exact az) A<|hp 5 aa ag (fun _ _=>aH (.slice ar r.length cr) aa) A<|hp 6 aa ag (fun _ _=>a7 c8 aa aa ab<|aG.ok (aq.2)<|cX ab) A<|hp 7 aa ag (fun w' Z=>ld cB aa<|Md.aM Z (dt.get (i:=0) aq.2 ab)<|by first | exact ax | exact az) A<|hp 9 aa ag (fun _ _=>mv) A<|hp 10 aa ag (fun _ _=>nc aa) A<|hp 11 aa ag (fun _ _=>fa fI aa) A<|hp 12 aa ag (fun _ _=>fa vj aa) A<|he 4 aa ag<|pQ (L:=fQ.map str) jP aa aa aa aa fun am aJ a9 ah aL=> ?_
 have aV:dt aJ.heap (some ⟨am,0,none⟩) fQ:=aG.fO ⟨_,aL⟩
 have O:=iN ah.md
 have ap:(fun w'=>Md (fun k=>k=H.fb) J w') aJ:=A.trans' ah.md fun _ _ h=>h.elim
 refine ⟨ap,?_⟩
 refine he 8 aa ag<|cl Cs (EY fQ (some ⟨am,0,none⟩) 5 (r.getD 0 []) _ aV ay) aa fun v25 a4 aU=> ?_
 obtain ⟨aF,rfl⟩:=aU
 rw [if_pos aA] at aF
 subst aF
 have ai:(fun w'=>Md (fun k=>k=H.fb) J w') a4:=ap
 refine ⟨ai,?_⟩
 refine hp 13 aa ag (fun _ _=>lu su aa aa ab) ai<|he 14 aa ag<|dQ eZ aa aa (v:=aT x) aa (ah.md.aE ac.cells) (by show _ < 14; omega) fun a5 ae an=> ?_
 rw [O6 (i:=fQ.idxOf<|r.getD 0 []) E.js aw ab] at an
 have aW:(fun w'=>Md (fun k=>k=H.fb) J w') a5:=ai.trans' ae fun _ _ h=>h
 refine ⟨aW,?_⟩
 refine hn ag<|iG<|f0 aa ?_
 have aN:=(ac.wk O).put (F':= {F with sp:=F.sp.set (fQ.idxOf<|r.getD 0 []) x}) ae an rfl rfl rfl rfl (by rw [List.length_set]; exact E.js)
 exact ⟨aa,_,rows,ln,Un a2,⟨V,R,aN,(ao.wk O).fb (ac.wk O) ae,⟨G.len,G.sl,G.row,G.kd,G.al⟩⟩,((Wk.mw C).trans<|ew.mt Y ad).trans<|(Wk.mw O).trans<|ew.fb (ac.wk O) ae⟩
theorem L1 (B:Nat) (H:cj) (F:aB) (rows:List Rw) (ln:Nat) (seen:List Tx) (r:List Tx) (am:Nat) (ar:Option Addr) (cr:Nat) (w:World) (J:St w B H F rows ln seen) (ae:Tg w am 9 r.length (.slice ar r.length cr) (r.map str)) (aA:r.length=2) (av:∀ x∈r,x.length≤70000):
 ez au 128 (aX [.pointer (some ⟨H.rb,0,none⟩),.slice ar r.length cr]) w (il B H seen (l0 F rows ln r) w) (ik B H (l0 F rows ln r) w):=by
 obtain ⟨V,R,G,I,E⟩:=J
 have ai:=ae.dy
 have aj:¬(H.rb=H.fb):=fun h=>by have h1:=I.cells; rw [h,G.cells] at h1; cases h1
 have aC:(r.getD 1 []).length≤70000:=av _<|fg ab
 have ak:¬(bk ar=H.fb):=Tg.tc ae (cX ab) G.cells ay
 obtain ⟨tf,aF,aI⟩:=I.tm
 obtain ⟨aJ,aD,aE⟩:=I.sm
 refine ja func128 aa ntmps128 aa<|sq fun az ap=>rg aa<|p (aH (.pointer<|some ⟨H.rb,0,none⟩) aa)<|p (aH (.slice ar r.length cr) aa)<|p (a7 c8 aa aa ab<|aG.ok (ai.2)<|cX ab)<|p (ld cB aa<|dt.get (i:=1) ai.2 ab)<|eP aa (cU yf (Ah H.rb ln (r.getD 1 []) w I.dX ab) aa fun aK ac Z=> ?_) fun c w' ad aL G=>⟨ln,21,TZ ad.2.1,ad.1,Wk.mw ad.2.2⟩
 obtain ⟨rfl,aw,O⟩:=Z
 have Y:=G.wk O
 have Z:=I.wk O
 have ah:=(ae.wk O).dy
 refine nl<|tn<|ap _ _ ?_
 have A:(fun w'=>Md (fun k=>k=H.fb) ac w') ac.drew:=(Md.refl _ _).drew
 refine cD (fun w'=>Md (fun k=>k=H.fb) ac w') aa wide A<|hp 0 aa ag (fun _ _=>aH (.pointer<|some ⟨H.rb,0,none⟩) aa) A<|hp 1 aa ag (fun _ _=>nc aa) A<|hp 2 aa ag (fun _ _=>fa fY aa) A<|hp 3 aa ag (fun w' J=>ld eT aa<|Md.aM J ((bj Z.cells).trans aa)<|by first | exact aj | exact ak) A<|hp 4 aa ag (fun _ _=>aH (.slice ar r.length cr) aa) A<|hp 5 aa ag (fun _ _=>a7 c8 aa aa ab<|aG.ok (ah.2)<|cX ab) A<|hp 6 aa ag (fun w' J=>ld cB aa<|Md.aM J (dt.get (i:=1) ah.2 ab)<|by first | exact aj | exact ak) A<|hp 7 aa ag (fun _ _=>nc aa) A<|hp 8 aa ag (fun _ _=>fa fI aa) A<|hp 9 aa ag (fun _ _=>fa Po aa) A<|he 10 aa ag<|dQ oP aa aa (v:=str<|r.getD 1 []) aa Y.cells (by show _ < 14; omega) fun ax C an=> ?_
 have C:=iN C
 have aq:(fun w'=>Md (fun k=>k=H.fb) ac w') ax:=C
 refine ⟨aq,?_⟩
 refine hn ag<|iG<|f0 aa ?_
 have ao:=Y.put (F':= {F with sA:=r.getD 1 []}) C an rfl rfl rfl rfl G.js
 exact ⟨aa,_,rows,ln,T0 aw,⟨V,R,ao,(Z.fb Y C).congr aa (fun _=>rfl),⟨E.len,E.sl,E.row,E.kd,E.al⟩⟩,(Wk.mw O).trans<|ew.fb Y C⟩
theorem Vl (B:Nat) (H:cj) (F:aB) (rows:List Rw) (ln:Nat) (seen:List Tx) (r:List Tx) (ae:Nat) (ar:Option Addr) (cr:Nat) (w:World) (an:St w B H F rows ln seen) (Z:Tg w ae 9 r.length (.slice ar r.length cr) (r.map str)) (az:r.length=2) (ao:∀ x∈r,x.length≤70000):
 ez au 129 (aX [.pointer (some ⟨H.rb,0,none⟩),.slice ar r.length cr]) w (il B H seen (l1 F rows ln r) w) (ik B H (l1 F rows ln r) w):=by
 obtain ⟨V,R,C,I,A⟩:=an
 have ac:=Z.dy
 have aw:¬(H.rb=H.fb):=fun h=>by have h1:=I.cells; rw [h,C.cells] at h1; cases h1
 have aA:(r.getD 1 []).length≤70000:=ao _<|fg ab
 have ax:¬(bk ar=H.fb):=Tg.tc Z (cX ab) C.cells ay
 obtain ⟨tf,aF,aI⟩:=I.tm
 obtain ⟨aJ,aD,aE⟩:=I.sm
 refine ja func129 aa ntmps129 aa<|sq fun aq ai=>rg aa<|p (aH (.slice ar r.length cr) aa)<|p (a7 c8 aa aa ab<|aG.ok (ac.2)<|cX ab)<|p (ld cB aa<|dt.get (i:=1) ac.2 ab)<|e<|cl KJ (Rf (r.getD 1 []) _ ab) aa fun v10 ap ak=> ?_
 obtain ⟨rfl,E⟩:=ak
 have G:=C.wk E
 have Y:=I.wk E
 refine p mv<|p (xt aa aa)<|p (xt aa aa)<|p aC<|p aC<|nl<|tn<|ai _ _<|sq fun av aj=>rg aa<|p (aH (.pointer<|some ⟨H.rb,0,none⟩) aa)<|p mv<|eP aa (cU nb (nq H.rb ln ((letE<|r.getD 1 []).2:Nat) ap Y.dX) aa fun aK aL am=> ?_) fun c w' O aN C=>⟨ln,_,Vj (by have :=O.2.1; omega),O.1,by rw [O.2.2]; exact Wk.mw E⟩
 obtain ⟨rfl,ad,rfl⟩:=am
 have ad:(letE<|r.getD 1 []).2=0:=ab
 refine nl<|tn<|aj _ _<|rg aa<|p (aH (.pointer<|some ⟨H.rb,0,none⟩) aa)<|p (nc aa)<|p (fa fY aa)<|p (ld eT aa<|(bj Y.cells).trans aa)<|p mv<|p (nc aa)<|p (fa fI aa)<|p (fa Pp aa)<|e<|dQ oP aa aa (v:=str (letE<|r.getD 1 []).1) aa G.cells (by show _ < 14; omega) fun aM J ag=>nl<|iG<|f0 aa ?_
 have ah:=G.put (F':= {F with tr:=(letE<|r.getD 1 []).1}) J ag rfl rfl rfl rfl C.js
 exact ⟨aa,_,rows,ln,Vk ad,⟨V,R,ah,(Y.fb G J).congr aa (fun _=>rfl),⟨A.len,A.sl,A.row,A.kd,A.al⟩⟩,(Wk.mw E).trans<|ew.fb G J⟩
theorem Q6 (B:Nat) (H:cj) (F:aB) (rows:List Rw) (ln:Nat) (seen:List Tx) (r:List Tx) (ap:Nat) (ar:Option Addr) (cr:Nat) (w:World) (Z:St w B H F rows ln seen) (ah:Tg w ap 9 r.length (.slice ar r.length cr) (r.map str)) (aJ:r.length=2) (aC:∀ x∈r,x.length≤70000):
 ez au 131 (aX [.pointer (some ⟨H.rb,0,none⟩),.slice ar r.length cr]) w (il B H seen (kf F rows ln r) w) (ik B H (kf F rows ln r) w):=by
 obtain ⟨V,R,E,G,I⟩:=Z
 have ai:=ah.dy
 have aj:¬(H.rb=H.fb):=fun h=>by have h1:=G.cells; rw [h,E.cells] at h1; cases h1
 have aK:(r.getD 1 []).length≤70000:=aC _<|fg ab
 have ak:¬(bk ar=H.fb):=Tg.tc ah (cX ab) E.cells ay
 obtain ⟨tf,aO,aP⟩:=G.tm
 obtain ⟨aQ,aL,aN⟩:=G.sm
 refine ja func131 aa ntmps131 aa<|sq fun aF av=> ?_
 have A:(fun w'=>Md (fun k=>k=H.fb) w w') w.drew:=(Md.refl _ _).drew
 refine cD (fun w'=>Md (fun k=>k=H.fb) w w') aa wide A<|hp 0 aa ag (fun _ _=>aH (.pointer<|some ⟨H.rb,0,none⟩) aa) A<|hp 1 aa ag (fun _ _=>nc aa) A<|hp 2 aa ag (fun _ _=>fa fY aa) A<|hp 3 aa ag (fun w' Z=>ld eT aa<|Md.aM Z ((bj G.cells).trans aa)<|by first | exact aj | exact ak) A<|hp 4 aa ag (fun _ _=>aH (.pointer<|some ⟨H.rb,0,none⟩) aa) A<|hp 5 aa ag (fun _ _=>aH (.slice ar r.length cr) aa) A<|hp 6 aa ag (fun _ _=>a7 c8 aa aa ab<|aG.ok (ai.2)<|cX ab) A<|hp 7 aa ag (fun w' Z=>ld cB aa<|Md.aM Z (dt.get (i:=1) ai.2 ab)<|by first | exact aj | exact ak) A<|ri 8 aa ag aa (cU uJ (vL H.rb ln (r.getD 1 []) 64 w.drew G.dX ab ab) aa fun v12 aD aw=> ?_) fun c w' Y aE E=>by obtain ⟨e,he,h,h2⟩:=Y; exact ⟨ln,e,RM he,h,Wk.mw<|iN h2⟩
 obtain ⟨n,am,rfl,C⟩:=aw
 have C:=iN C
 have J:=E.wk C
 have az:=G.wk C
 have ac:(fun w'=>Md (fun k=>k=H.fb) w w') aD:=Md.mono C fun _ _ h=>h.elim
 refine ⟨ac,?_⟩
 refine hp 9 aa ag (fun _ _=>nc aa) ac<|hp 10 aa ag (fun _ _=>fa fI aa) ac<|hp 11 aa ag (fun _ _=>fa y0 aa) ac<|he 12 aa ag<|dQ j6 aa aa (v:= .int .i64 (n:Nat)) aa J.cells (by show _ < 14; omega) fun ao O ae=> ?_
 have ad:=az.fb J O
 have aA:(fun w'=>Md (fun k=>k=H.fb) w w') ao:=ac.trans' O fun _ _ h=>h
 refine ⟨aA,?_⟩
 refine hn ag<|tn<|av _ _<|rg aa<|p (aH (.pointer<|some ⟨H.rb,0,none⟩) aa)<|p (aH (.pointer<|some ⟨H.rb,0,none⟩) aa)<|p (nc aa)<|p (fa fY aa)<|p (ld eT aa<|(bj ad.cells).trans aa)<|p (nc aa)<|p (fa fI aa)<|p (fa y0 aa)<|p (ld bR aa<|(bj ae).trans aa)<|p (gt aa aa)<|eP aa (cU gj (gr H.rb ln _ 13 ao ad.dX ay) aa fun v26 aR ax=> ?_) fun c w' Y aE E=>by have aI:=of_decide_eq_false Y.2.1; exact ⟨ln,13,RN am ab,Y.1,by rw [Y.2.2]; exact (Wk.mw C).trans<|ew.fb J O⟩
 obtain ⟨rfl,an,rfl⟩:=ax
 have an:=of_decide_eq_true an
 refine nl<|iG<|f0 aa ?_
 have aq:=J.put (F':= {F with least:=n}) O ae rfl rfl rfl rfl E.js
 exact ⟨aa,_,rows,ln,RO am ab,⟨V,R,aq,ad.congr aa (fun _=>rfl),⟨I.len,I.sl,I.row,I.kd,I.al⟩⟩,(Wk.mw C).trans<|ew.fb J O⟩
theorem Q2 (B:Nat) (H:cj) (F:aB) (rows:List Rw) (ln:Nat) (seen:List Tx) (r:List Tx) (aV:Nat) (ar:Option Addr) (cr:Nat) (w:World) (Y:St w B H F rows ln seen) (an:Tg w aV 9 r.length (.slice ar r.length cr) (r.map str)) (bI:r.length=2) (bh:∀ x∈r,x.length≤70000):
 ez au 127 (aX [.pointer (some ⟨H.rb,0,none⟩),.slice ar r.length cr]) w (il B H seen (ke F seen rows ln r) w) (ik B H (ke F seen rows ln r) w):=by
 obtain ⟨V,R,I,ah,Z⟩:=Y
 have bC:=an.dy
 have aL:¬(H.rb=H.fb):=fun h=>by have h1:=ah.cells; rw [h,I.cells] at h1; cases h1
 have bJ:(r.getD 1 []).length≤70000:=bh _<|fg ab
 have aN:¬(bk ar=H.fb):=Tg.tc an (cX ab) I.cells ay
 obtain ⟨tf,bK,bL⟩:=ah.tm
 obtain ⟨bN,bq,br⟩:=ah.sm
 refine ja func127 aa ntmps127 aa<|sq fun bv a2=>sq fun bw a3=>rg aa<|e<|pQ (L:=nr.map str) jP aa aa aa aa fun av ap bE a8 aZ=> ?_
 have aI:dt ap.heap (some ⟨av,0,none⟩) nr:=aG.fO ⟨_,aZ⟩
 have G:Wk w ap:=a8.md
 have az:=I.wk G
 have ai:=ah.wk G
 have aJ:=(an.wk G).dy
 have bs:=bq.wk G
 have bH:nr.length=8:=rfl
 refine p (bM e8 aa aa)<|p mv<|nl<|tn<|a3 _ _<|aE<|lp (fun aw O C=> ∃ (i:Nat),(i≤8)∧(∀ j,j < i→nr.getD j []∉seen)∧(C=ap)∧(O 0= .pointer (some ⟨H.rb,0,none⟩))∧(O 1= .slice ar r.length cr)∧(O 6= .slice (some ⟨av,0,none⟩) 8 8)∧(O 7= .int .i64 (8:Nat))∧(O 8= .int .i64 (i:Nat))∧(8 - i=aw)) _ ⟨0,ab,(fun j aK=>by omega),aa,aa,aa,aa,aa,aa,aa⟩ ?_
 rintro aw O C ⟨i,hi,aO,a0,bi,bl,bm,bo,bp,rfl⟩
 refine fx 0 bi<|fx 1 bl<|fx 6 bm<|fx 7 bo<|fx 8 bp ?_
 subst a0
 refine sq fun bx a4=>rg aa<|p (lt aa aa)<|nl<|tn<|a4 _ _<|sq fun bz a5=>cd aa (fun bg=> ?_) fun bg=> ?_
 refine aQ<|tn<|a5 _ _<|sq fun aW ak=>aE<|sq fun bA a6=>rg aa<|p (a7 c8 aa aa ab<|aG.ok (aI)<|cX ab)<|p (ld cB aa<|dt.get (i:=i) aI ab)<|p aC<|nl<|tn<|a6 _ _<|rg aa<|p (aH (.pointer<|some ⟨H.rb,0,none⟩) aa)<|p (aH (.pointer<|some ⟨H.rb,0,none⟩) aa)<|p (nc aa)<|p (fa ra aa)<|p (ld qK aa<|(bj ai.cells).trans aa)<|p mv<|p (kN o5 l5 gE (bs) aa aa (⟨_,aa⟩)<|br _)<|p (cg aa aa)<|eP aa (cU gj (gr H.rb ln _ 113 C ai.dX ay) aa fun v20 bO a9=> ?_) fun c w' E bu I=>⟨ln,113,QZ (k:=nr.getD i []) (fg ab) (by have h:=of_decide_eq_false E.2.1; exact l6.1 fun h2=>h<|by have :=pw.2 h2; omega),E.1,by rw [E.2.2]; exact Wk.mw G⟩
 obtain ⟨rfl,ao,rfl⟩:=a9
 have ao:nr.getD i []∉seen:=pw.1<|by have :=of_decide_eq_true ao; omega
 exact nl<|bn<|tn<|ak _ _<|rg aa<|p (ad aa aa<|cH ab)<|p mv<|nl<|tn<|⟨_,ab,i+1,ab,(fun j aK=>by rcases ig j i with h | h <;> first | exact aO j h | (rw [show j=i by omega]; exact ao)),aa,aa,aa,aa,aa,aa,aa⟩
 refine ext<|te _<|te _<|be<|tn<|a2 _ _<|sq fun aW ak=> ?_
 have aP:ordered seen=true :=(F3 seen).2 fun k hk=>by obtain ⟨j,aK,rfl⟩:=og [] hk; exact aO j ab
 have A:(fun w'=>Md (fun k=>k=H.fb) C w') C.drew:=(Md.refl _ _).drew
 refine cD (fun w'=>Md (fun k=>k=H.fb) C w') aa wide A<|hp 0 aa ag (fun _ _=>aH (.pointer<|some ⟨H.rb,0,none⟩) aa) A<|hp 1 aa ag (fun _ _=>nc aa) A<|hp 2 aa ag (fun _ _=>fa fY aa) A<|hp 3 aa ag (fun w' Y=>ld eT aa<|Md.aM Y ((bj ai.cells).trans aa)<|by first | exact aL | exact aN) A<|hp 5 aa ag (fun _ _=>aH (.slice ar r.length cr) aa) A<|hp 6 aa ag (fun _ _=>a7 c8 aa aa ab<|aG.ok (aJ.2)<|cX ab) A<|hp 7 aa ag (fun w' Y=>ld cB aa<|Md.aM Y (dt.get (i:=1) aJ.2 ab)<|by first | exact aL | exact aN) A<|he 4 aa ag<|pQ (L:=kinds.map str) jP aa aa aa aa fun aq aT bD aD aY=> ?_
 have bc:dt aT.heap (some ⟨aq,0,none⟩) kinds:=aG.fO ⟨_,aY⟩
 have ac:=iN aD.md
 have aF:(fun w'=>Md (fun k=>k=H.fb) C w') aT:=A.trans' aD.md fun _ _ h=>h.elim
 refine ⟨aF,?_⟩
 refine he 8 aa ag<|cl Cs (EY kinds (some ⟨aq,0,none⟩) 3 (r.getD 1 []) _ bc ay) aa fun v30 bt ba=> ?_
 obtain ⟨aR,rfl⟩:=ba
 rw [QX] at aR
 subst aR
 have bF:=QY<|r.getD 1 []
 have J:(fun w'=>Md (fun k=>k=H.fb) C w') bt:=aF
 refine ⟨J,?_⟩
 refine hp 9 aa ag (fun _ _=>bG ((kt (r.getD 1 []):Nat):Int) aa aa<|bf ab ab) J<|hp 10 aa ag (fun _ _=>nc aa) J<|hp 11 aa ag (fun _ _=>fa fI aa) J<|hp 12 aa ag (fun _ _=>fa q8 aa) J<|he 13 aa ag<|dQ j6 aa aa (v:= .int .i64 (kt (r.getD 1 []):Nat)) aa ((az.wk ac).cells) (by show _ < 14; omega) fun aU ae ax=> ?_
 have aj:=az.wk ac
 have am:=(ai.wk ac).fb aj ae
 have aA:=((Wk.mw G).trans<|Wk.mw ac).trans<|ew.fb aj ae
 have bd:(fun w'=>Md (fun k=>k=H.fb) C w') aU:=J.trans' ae fun _ _ h=>h
 refine ⟨bd,?_⟩
 refine hn ag<|tn<|ak _ _<|rg aa<|p (aH (.pointer<|some ⟨H.rb,0,none⟩) aa)<|p (aH (.pointer<|some ⟨H.rb,0,none⟩) aa)<|p (nc aa)<|p (fa fY aa)<|p (ld eT aa<|(bj am.cells).trans aa)<|p (nc aa)<|p (fa fI aa)<|p (fa q8 aa)<|p (ld bR aa<|(bj ax).trans aa)<|p (gt aa aa)<|eP aa (cU gj (gr H.rb ln _ 114 aU am.dX ay) aa fun v45 bP bb=> ?_) fun c w' E bu I=>by have bB:=of_decide_eq_false E.2.1; exact ⟨ln,114,Q0 aP ab,E.1,by rw [E.2.2]; exact aA⟩
 obtain ⟨rfl,aS,rfl⟩:=bb
 have aS:=of_decide_eq_true aS
 refine nl<|iG<|f0 aa ?_
 have a1:=aj.put (F':= {F with kind:=kt<|r.getD 1 []}) ae ax rfl rfl rfl rfl I.js
 exact ⟨aa,_,rows,ln,Q1 aP ab,⟨V,R,a1,am.congr aa (fun _=>rfl),⟨Z.len,Z.sl,Z.row,(by show kt (r.getD 1 [])=1∨kt (r.getD 1 [])=2∨kt (r.getD 1 [])=3; omega),Z.al⟩⟩,aA⟩
end Go.Hb
namespace Go.Hb.oI
theorem Db {h:Array Obj} {b:Nat} {f:UInt8→Bool} (A:bE h b (dJ f)) (c:UInt8):Hb.aM h b (0 +((c.toNat / 64:Nat):Int).toNat*1)=some (.int .u64<|dT f<|c.toNat / 64):=by
 have C:=ji c
 rw [A.aM,show 0 +((c.toNat / 64:Nat):Int).toNat*1=c.toNat / 64 from by omega]; exact yy f ab
theorem MI {h:Array Obj} {b:Nat} {f:UInt8→Bool} {c:UInt8} (A:bE h b ((dJ f).set (0 +((c.toNat / 64:Nat):Int).toNat*1)<|.int .u64 ((dT f (c.toNat / 64) ||| 2 ^ (c.toNat % 64):Nat):Int))):bE h b (dJ (fun x=>f x || decide (x=c))):=by
 rw [show 0 +((c.toNat / 64:Nat):Int).toNat*1=c.toNat / 64 from by omega,MD] at A; exact A
theorem MF {f g:UInt8→Bool} (h:∀ b,f b=g b):dJ f=dJ g:=by rw [show f=g from funext h]
theorem Qo {l:List UInt8} {i:Nat} (h:i < l.length) (x:UInt8):(decide (x∈l.take i) || decide (x=l.getD i 0))=decide (x∈l.take (i+1)):=by
 rw [kT l i 0 h,← Bool.decide_or]
 exact decide_eq_decide.2<|by rw [kY,iX]
theorem Ad {w:World} {B e n cp i:Nat} {a:Option Addr} {l:List UInt8} (h:w.ownsRow B e 1 (.slice a n cp) n (U8 l)) (hi:i≤n) (hn:0 < n):w.ownsRow B e 1 (.slice a i cp) i (U8<|l.take i):=by
 have c:a≠none:=by
  rintro rfl
  rcases h.2 with ⟨_,h5⟩ | ⟨g,cap,cur,h4,_⟩
  · omega
  · simp at h4
 have :=Ag h hi c
 rw [Nat.mul_one] at this
 unfold U8 at*
 rwa [List.map_take]
theorem SF {w:World} {B e n cp:Nat} {a:Option Addr} {xs:List Value} (h:w.ownsRow B e 1 (.slice a n cp) n xs) (hn:0 < n):∃ c,a=some ⟨c,0,none⟩:=by
 rcases h.2 with ⟨_,h5⟩ | ⟨g,cap,cur,h4,_⟩
 · omega
 · simp only [Value.slice.injEq] at h4; exact ⟨g,h4.1⟩
theorem Vo {w:World} {B e n cp j:Nat} {a:Option Addr} {l:List UInt8} (h:w.ownsRow B e 1 (.slice a n cp) n (U8 l)):aG w.heap (eh a cp j 1) (U8<|l.drop j):=by
 have h2:=(aU h).2.drop (cap:=cp) (k:=j) (size:=1)<|by have h1:=h.1; have h3:=(aU h).1; omega
 rw [Nat.mul_one] at h2
 unfold U8 at*
 rwa [List.map_drop]
theorem AT {w:World} {B e n:Nat} {v:Value} {l:List UInt8} (h:w.ownsRow B e 1 v n (U8 l)):l.length=n:=by have :=h.1; rw [uq] at this; omega
theorem Gc (b:Nat) (c:UInt8) (f:UInt8→Bool) (w:World) (C:bE w.heap b (dJ f)):
 ba au 220 (aX [aV b,.int .u8 c.toNat]) w (fun v w'=>v= .tuple #[]∧bE w'.heap b (dJ (fun x=>f x || decide (x=c)))∧Md (fun q=>q=b) w w'):=by
 have O:=ji c
 refine enter func220 aa ntmps220 aa ?_
 have A:(fun w'=>Wk w w') w.drew:=(Md.refl _ _).drew
 refine eF (fun w'=>Wk w w') 12 aa wide A<|bo 0 aa (aV b) A<|bo 1 aa (.int .u8 c.toNat) A<|bB 2 aa (fun _=>shr aa aa ay<|GC c) (fun _=>A)<|bB 3 aa (fun _=>nc aa) (fun _=>A)<|bB 4 aa (fun _=>lu pN aa aa ab) (fun _=>A)<|ed 5 aa (fun w' J=>ld qL aa<|Wk.aM J<|Db C c) A<|bo 6 aa (.int .u8 c.toNat) A<|bB 7 aa (fun _=>eB aa aa<|B3 c) (fun _=>A)<|bB 8 aa (fun _=>shl aa aa ab<|T4 ab) (fun _=>A)<|bB 9 aa (fun _=>B9 aa aa<|Su (rP _ _)<|Nat.pow_lt_pow_right ay ab) (fun _=>A)<|bB 10 aa (fun _=>nc aa) (fun _=>A)<|bB 11 aa (fun _=>lu pN aa aa ab) (fun _=>A)<|db 12 aa ag ag<|st Nr aa aa (aa) (A.B C) (by rw [uO]; omega) fun V I G=> ?_
 have E:=MI G
 refine eE ag<|f0 aa ?_
 exact ⟨aa,E,Md.trans (Md.refl _ _).drew I⟩
theorem EM (f:UInt8→Bool) (c:UInt8) (w:World):
 ba au 259 (aX [.agg (dJ<|f).toArray,.int .u8 c.toNat]) w (fun v w'=>v= .bool (f c)∧Wk w w'):=by
 have O:=ji c
 exact enter func259 aa ntmps259 aa<|ak fun A=>e<|iQ aa fun I V J G E=>aw<|A<|ak fun C=>ao (.int .u8 c.toNat)<|p (shr aa aa ay<|GC c)<|p (lu pN aa aa ab)<|p (ld qL aa<|Db E c)<|ao (.int .u8 c.toNat)<|p (eB aa aa<|B3 c)<|p (shr aa aa ab<|T9 _ ab)<|p (eB aa aa<|JD<|Nat.lt_of_le_of_lt (Nat.div_le_self _ _)<|rP _ _)<|p (cg aa aa)<|aw<|C<|rt<|a6 aa<|⟨congrArg Value.bool (VU f c),G.md⟩
theorem Ac (f:UInt8→Bool) (w:World):
 ba au 219 (aX [.agg (dJ<|f).toArray]) w (fun v w'=>v= .agg (dJ fun x=> !f x).toArray∧Wk w w'):=by
 exact enter func219 aa ntmps219 aa<|ak fun E=>e<|iQ aa fun V ae Z C A=>e<|al qo fun Y ag ac c I=>nl<|E<|ak fun G=>p (lu pN aa aa ab)<|p (ld qL aa<|(c.md.B A).aM 0)<|p (uQ aa)<|p (lu pN aa aa ab)<|p (ld qL aa<|(c.md.B A).aM 1)<|p (uQ aa)<|p (lu pN aa aa ab)<|p (ld qL aa<|(c.md.B A).aM 2)<|p (uQ aa)<|p (lu pN aa aa ab)<|p (ld qL aa<|(c.md.B A).aM 3)<|p (uQ aa)<|p (B8 (ps:= [(0,.int .u64 (dT (fun x=> !f x) 0:Nat)),(1,.int .u64 (dT (fun x=> !f x) 1:Nat)),(2,.int .u64 (dT (fun x=> !f x) 2:Nat)),(3,.int .u64 (dT (fun x=> !f x) 3:Nat))]) (L:= [.int .u64 (dT (fun x=> !f x) 0:Nat),.int .u64 (dT (fun x=> !f x) 1:Nat),.int .u64 (dT (fun x=> !f x) 2:Nat),.int .u64 (dT (fun x=> !f x) 3:Nat)]) B7 aa<|aa)<|e<|cG n5 aa (vs:=dJ fun x=> !f x) aa aa aa I ay fun ah O J=>nl<|G<|rt<|sL aa (dN aa jF aa fun j ad=>by rw [fK]; exact J.aM j)<|⟨aa,Md.trans' (Md.trans C.md c.md) O fun k hk h=>by have :=C.md.size; omega⟩
theorem EN (f:UInt8→Bool) (c:UInt8) (ci:Int) (w:World) (A:(c.toNat:Int)=ci):ba au 259 (aX [.agg (dJ<|f).toArray,.int .u8 ci]) w (fun v w'=>v= .bool (f c)∧Wk w w'):=by
 subst A; exact EM f c w
theorem Ce (f:UInt8→Bool) (w:World):
 ba au 281 (aX [.agg (dJ<|f).toArray]) w (fun v w'=>bm w' w.heap.size 5 1 (v) (bytesOf f).length (U8<|bytesOf f)∧Wk w w'):=by
 refine enter func281 aa ntmps281 aa<|ak fun ag=>e<|iQ aa fun ax Z aT V ay=>aw<|ag<|ak fun ah=>aw<|ah<|az fun ai=>ak fun al=>p mv<|nl<|al<|aE<|lp (fun ac O J=> ∃ (i:Nat) (c:Value),(i≤256)∧(bm J Z.heap.size 5 1 (c) (n3 f i).length<|U8<|n3 f i)∧(Wk Z J)∧(O 1=aV ax)∧(O 3=c)∧(O 5=aj i)∧(256 - i=ac)) _ ⟨0,.slice none 0 0,ab,(dM _ _ _ _),(Md.refl _ _),aa,aa,aa,aa⟩ ?_
 rintro ac O J ⟨i,c,hi,I,C,aK,aL,aN,rfl⟩
 refine fx 1 aK<|fx 3 aL<|fx 5 aN ?_
 have aS:Wk w J:=Md.trans V.md C
 have aW:=sx f i
 have a0:=C.size
 refine ak fun am=>p (lt aa aa)<|nl<|am<|az fun an=>cd aa (fun aH=> ?_) fun aH=> ?_
 refine aQ<|an<|az fun E=>aE<|ak fun aq=>ao (aj i)<|p (bV (aj i) aa)<|nl<|aq<|ak fun av=>p (cK jF aa (aa) fun j aZ=>by rw [fK]; exact (C.B ay).aM j)<|ao (aj i)<|p (nj u5 rM aa<|A3 ab)<|e<|cl ym (EN f (UInt8.ofNat i) _ _<|Hc i ab) aa fun v11 a2 aF=> ?_
 obtain ⟨rfl,A⟩:=aF
 refine nl<|av<|cb aa (fun Y=> ?_) fun Y=> ?_
 refine rg aa<|ao (c)<|ao (aj i)<|p (nj u5 rM aa<|A3 ab)<|e<|kG qj aa aa fun aR a3 aU G aA=>e<|ap qj (a8 (a8 I A) G.md) aa (by have :=A.size; have :=G.md.size; omega) aa (aG.fO aA) (aa) (aa) ab ab fun aO aP ae aD a1 aY=> ?_
 rw [← Hc i ab] at ae
 have aJ:=SE ae
 have aB:Wk Z aP:=Wk.own (Md.trans (Md.trans C A) G.md) (a8 (a8 I A) G.md) aD<|cw _
 exact p aC<|nl<|bn<|E<|rg aa<|p (ad aa aa<|cH ab)<|p mv<|nl<|tn<|⟨_,ab,i+1,aO,ab,(by rw [Cd,if_pos Y]; exact aJ),aB,aa,aa,aa,aa⟩
 exact aQ<|bn<|E<|rg aa<|p (ad aa aa<|cH ab)<|p mv<|nl<|tn<|⟨_,ab,i+1,c,ab,(by rw [Cd,if_neg (by rw [Y]; exact dA),eM]; exact a8 I A),(Md.trans C A),aa,aa,aa,aa⟩
 refine ext<|bc<|bc<|be<|ai<|ak fun E=>ao (c)<|p (bV (c) aa)<|nl<|E<|rt<|a6 aa ?_
 have aI:i=256:=ab
 subst aI
 exact ⟨fk I V.md.size,Md.trans V.md C⟩
theorem MS (s:List UInt8) (w:World) (hs:s.length≤1048576):
 ba au 258 (aX [str s]) w (fun v w'=>v= .agg (dJ fun x=>decide (x∈s)).toArray∧Wk w w'):=by
 refine enter func258 aa ntmps258 aa<|ak fun ag=>e<|al qo fun G aW aR ac J=>nl<|ag<|ak fun ah=>e<|al qo fun A aP aT ae aw=> ?_
 have ax:bE aP.heap A (dJ fun x=>decide (x∈s.take 0)):=by rw [show (fun x=>decide (x∈s.take 0))=(fun _:UInt8=>false) from funext fun x=>by simp,yz]; exact aw
 refine nl<|ah<|az fun ai=>ak fun am=>ao (str s)<|p (dv u9 aa aa)<|p mv<|nl<|am<|aE ?_
 have aS:=J.lt
 refine lp (fun I c C=> ∃ (i:Nat),(i≤s.length)∧(bE C.heap A<|dJ fun x=>decide (x∈s.take i))∧(bE C.heap G [.int .u64 0,.int .u64 0,.int .u64 0,.int .u64 0])∧(Wk w C)∧(c 0=str s)∧(c 2=aV G)∧(c 3=aV A)∧(c 6=aj (s.length))∧(c 7=aj i)∧(s.length - i=I)) _ ⟨0,ab,ax,(ae.md.B J),(Md.trans ac.md ae.md),aa,aa,aa,aa,aa,aa⟩ ?_
 rintro I c C ⟨i,hi,O,V,Y,aH,aI,aJ,aK,aL,rfl⟩
 refine fx 0 aH<|fx 2 aI<|fx 3 aJ<|fx 6 aK<|fx 7 aL<|ak fun an=>p (lt aa aa)<|nl<|an<|az fun ap=>cd aa (fun aF=> ?_) fun aF=> ?_
 refine aQ<|ap<|az fun E=>aE<|ak fun aq=>ao (aj i)<|p (bV (aj i) aa)<|nl<|aq<|rg aa<|ao (str s)<|ao (aj i)<|p (jL u9 aa aa ab)<|e<|cl CA (Gc A (s.getD i 0) _ _ O) aa fun aU aO aD=> ?_
 obtain ⟨rfl,av,Z⟩:=aD
 have aB:Wk w aO:=Md.trans' Y Z fun k hk h=>by have :=ac.md.size; omega
 exact nl<|bn<|E<|rg aa<|p (ad aa aa<|cH ab)<|p mv<|nl<|tn<|⟨_,ab,i+1,ab,(by rw [MF (fun x=>(Qo (show i < s.length by omega) x).symm)]; exact av),(Z.B V fun h=>by omega),aB,aa,aa,aa,aa,aa,aa⟩
 refine ext<|bc<|bc<|be<|ai<|ak fun E=>p (cK jF aa (aa) fun j aG=>by rw [fK]; exact (O).aM j)<|e<|cG n5 aa (vs:=dJ fun x=>decide (x∈s.take i)) aa aa aa V ay fun aY aC aA=>nl<|E<|rt<|sL aa (dN aa jF aa fun j aG=>by rw [fK]; exact aA.aM j) ?_
 have aN:s.take i=s:=eN ab
 rw [aN]
 exact ⟨aa,Md.trans' Y aC fun k hk h=>by omega⟩
theorem Qq (s:List UInt8) (c:UInt8) (w:World):
 ba au 257 (aX [str s,.int .u8 c.toNat]) w (fun v w'=>v= .int .i64 (eb c s)∧Wk w w'):=by
 exact enter func257 aa ntmps257 aa<|ak fun A=>aw<|A<|ak fun C=>ao (str s)<|ao (.int .u8 c.toNat)<|e<|cl CF (EX s c _) aa fun G I E=>aw<|C<|rt<|a6 aa<|E
theorem Nh (s pr:List UInt8) (w:World) (hs:s.length≤1099511627776) (V:pr.length≤1099511627776):
 ba au 163 (aX [str s,str pr]) w (fun v w'=>v= .tuple #[str (eG s pr),.bool (decide (s.take pr.length=pr))]∧Wk w w'):=by
 refine enter func163 aa ntmps163 aa<|ak fun G=>p aC<|aw<|G<|az fun I=>az fun J=>rg aa<|ao (str s)<|ao (str pr)<|e<|cl yj (zf s pr _ hs V) aa fun Z ac O=> ?_
 obtain ⟨rfl,E⟩:=O
 refine p (no aa)<|nl<|J<|cb aa (fun C=> ?_) fun C=> ?_
 have c:¬s.take pr.length=pr:=by simpa using C
 exact ak fun A=>ao (str s)<|p (bV (str s) aa)<|aw<|A<|rt<|tr<|f2 aa aa aa<|⟨by unfold eG; rw [if_neg c,decide_eq_false c]; rfl,E⟩
 have c:s.take pr.length=pr:=by simpa using C
 have Y:=Ai c
 exact aQ<|I<|ak fun A=>ao (str s)<|ao (str pr)<|p (dv u9 aa aa)<|p (oo u9 aa aa ab)<|p aC<|aw<|A<|rt<|f2 aa aa aa<|⟨by unfold eG; rw [if_pos c,decide_eq_true c]; rfl,E⟩
theorem Di (s pr:List UInt8) (w:World) (hs:s.length≤1099511627776) (G:pr.length≤1099511627776):
 ba au 103 (aX [str s,str pr]) w (fun v w'=>v= .tuple #[str (eG s pr),.bool (decide (s.take pr.length=pr))]∧Wk w w'):=by
 refine enter func103 aa ntmps103 aa<|ak fun c=>p aC<|aw<|c<|ak fun A=>ao (str s)<|ao (str pr)<|e<|cl KC (Nh s pr _ hs G) aa fun I J E=> ?_
 obtain ⟨rfl,C⟩:=E
 exact p (xt aa aa)<|p (xt aa aa)<|p aC<|aw<|A<|rt<|f2 aa aa aa<|⟨aa,C⟩
theorem Vd (s pr:List UInt8):(eG s pr).length≤s.length:=by unfold eG; split <;> simp
def gV (s:List UInt8) (k:Nat):List UInt8:=(s.drop k).take<|(s.drop k).idxOf 93
theorem Ka (s:List UInt8) (k:Nat):(gV s k).length≤s.length:=by unfold gV; rw [dB,gy]; omega
theorem J0 (s:List UInt8) (k:Nat):(s.take<|k+(s.drop k).idxOf 93).drop k=gV s k:=by
 rw [List.drop_take,Nat.add_sub_cancel_left]; rfl
def oL (s:List UInt8) (k:Nat):UInt8→Bool:=fun x=>if (gV s k).take 1= [94] then !decide (x∈eG (gV s k) [94]) else decide (x∈eG (gV s k) [94])
theorem Kd {s:List UInt8} {k:Nat} (h:(gV s k).take [(94:UInt8)].length= [94]):oL s k=fun x=> !decide (x∈eG (gV s k) [94]):=by
 funext x; exact if_pos h
theorem Ke {s:List UInt8} {k:Nat} (h:¬(gV s k).take [(94:UInt8)].length= [94]):oL s k=fun x=>decide (x∈eG (gV s k) [94]):=by
 funext x; exact if_neg h
theorem Kb (s:List UInt8) (k:Nat) (w:World) (hs:s.length≤1048576) (hk:k≤s.length):
 ba au 218 (aX [str s,aj k]) w (fun v w'=>(∃ f,v= .tuple #[.agg (dJ f).toArray,.int .i64 (if eb 93 (s.drop k) < 0 then 0 else ((k+(s.drop k).idxOf 93 +1:Nat):Int)),.bool (!decide (eb 93 (s.drop k) < 0) && decide (eG (gV s k) [94]≠[]))]∧(¬eb 93 (s.drop k) < 0→f=oL s k))∧Wk w w'):=by
 refine enter func218 aa ntmps218 aa<|ak fun aD=>e<|al qo fun ai bt bg O J=>p aC<|aw<|aD<|az fun aE=>rg aa<|ao (str s)<|ao (aj k)<|p (oo u9 aa aa ab)<|e<|cl La (Qq (s.drop k) 93 _) aa fun bm bo aZ=> ?_
 obtain ⟨rfl,A⟩:=aZ
 have bj:(s.drop k).length=s.length - k:=gy
 refine aw<|aE<|az fun aF=>ak fun aG=>p mv<|p (lt aa aa)<|nl<|aG<|cd aa (fun C=> ?_) fun C=> ?_
 refine ak fun Y=>p (B8 (ps:= []) (L:= [.int .u64 0,.int .u64 0,.int .u64 0,.int .u64 0]) B7 aa<|aa)<|e<|cG n5 aa (vs:=dJ fun _=>false) (by rw [yz]; rfl) aa aa (A.B J) ay fun br aW aJ=>p aC<|aw<|Y<|rt<|tr<|DN aa (dN aa jF aa fun j ag=>by rw [fK]; exact aJ.aM j) ek ek ?_
 refine ⟨⟨fun _=>false,by rw [if_pos C,decide_eq_true C]; rfl,fun h=>absurd C h⟩,Md.trans' (Md.trans O.md A) aW fun k hk h=>by omega⟩
 have bk:=rj (c:=93) (l:=s.drop k) C
 have bi:(gV s k).length≤s.length:=Ka s k
 refine aQ<|aF<|az fun Y=> ?_
 have aB:=J0 s k
 refine rg aa<|ao (str s)<|ao (aj k)<|ao (aj k)<|p mv<|p (bG ((k+(s.drop k).idxOf 93:Nat):Int) aa aa<|bf ab ab)<|p (tq u9 aa aa aa ab)<|e<|cl Cf (Di ((s.take<|k+(s.drop k).idxOf 93).drop k) [94] _ (by rw [aB]; omega) ay) aa fun v25 bp aA=> ?_
 rw [aB] at aA
 obtain ⟨rfl,G⟩:=aA
 have bl:=Vd (gV s k) [94]
 refine p mv<|p (xt aa aa)<|p (xt aa aa)<|p aC<|aw<|Y<|az fun aH=>rg aa<|p mv<|e<|cl Lb (MS (eG (gV s k) [94]) _ ab) aa fun bn bq a0=> ?_
 obtain ⟨rfl,I⟩:=a0
 refine e<|al qo fun ah a8 bd ax aI=> ?_
 have aR:Wk w a8:=Md.trans O.md<|Md.trans A<|Md.trans G<|Md.trans I ax.md
 have am:=ax.md.B<|I.B<|G.B<|A.B J
 have bh:=am.lt
 refine e<|cG n5 aa (vs:=dJ fun x=>decide (x∈eG (gV s k) [94])) aa aa aa aI ay fun a9 aq ac=> ?_
 have ap:Wk w a9:=Md.trans' aR aq fun k hk h=>by have :=O.md.size; have :=A.size; have :=G.size; have :=I.size; omega
 have an:=aq.B am fun h=>by have :=J.lt; have :=A.size; have :=G.size; have :=I.size; omega
 refine nl<|aH ?_
 refine eV (fun E V=>(bE V.heap ah<|dJ<|oL s k)∧(bE V.heap ai [.int .u64 0,.int .u64 0,.int .u64 0,.int .u64 0])∧(Wk w V)∧(E 0=str s)∧(E 1=aj k)∧(E 4=aV ai)∧(E 7= .int .i64 (eb 93<|s.drop k))∧(E 8=str (eG (gV s k) [94]))∧(E 10=aV ah)) ?_ ?_
 refine ak fun Z=>p mv<|nl<|Z<|cb aa (fun ae=> ?_) fun ae=> ?_
 refine rg aa<|p (cK jF aa (aa) fun j ag=>by rw [fK]; exact (ac).aM j)<|e<|cl yl (Ac (fun x=>decide (x∈eG (gV s k) [94])) _) aa fun v32 bs a1=> ?_
 obtain ⟨rfl,ad⟩:=a1
 refine e<|cG n5 aa (vs:=dJ fun x=> !decide (x∈eG (gV s k) [94])) aa aa aa (ad.B ac) (cw 4) fun bb av aL=> ?_
 have aS:Wk w bb:=Md.trans' (Md.trans ap ad) av fun k hk h=>by have :=O.md.size; have :=A.size; have :=G.size; have :=I.size; omega
 have aK:=av.B (ad.B an) fun h=>by have :=J.lt; have :=A.size; have :=G.size; have :=I.size; omega
 exact nl<|tn<|⟨(by rw [Kd (by simpa using ae)]; exact aL),aK,aS,aa,aa,aa,aa,aa,aa⟩
 exact aQ<|tn<|⟨(by rw [Ke (by simpa using ae)]; exact ac),an,ap,aa,aa,aa,aa,aa,aa⟩
 rintro E V ⟨aO,aP,aU,a2,a3,a5,a6,a7,a4⟩
 refine fx 0 a2<|fx 1 a3<|fx 4 a5<|fx 7 a6<|fx 8 a7<|fx 10 a4<|ak fun Z=>p (cK jF aa (aa) fun j ag=>by rw [fK]; exact (aO).aM j)<|ao (aj k)<|ao (.int .i64<|eb 93<|s.drop k)<|p (bG ((k+(s.drop k).idxOf 93:Nat):Int) aa aa<|bf ab ab)<|p (bG ((k+(s.drop k).idxOf 93 +1:Nat):Int) aa aa<|bf ab ab)<|ao (str<|eG (gV s k) [94])<|p (rv aa aa)<|e<|cG n5 aa (vs:=dJ<|oL s k) aa aa aa aP ay fun bc aY aN=> ?_
 have aT:Wk w bc:=Md.trans' aU aY fun k hk h=>by omega
 refine p aC<|aw<|Z<|rt<|DN aa (dN aa jF aa fun j ag=>by rw [fK]; exact aN.aM j) ek ek ?_
 refine ⟨⟨oL s k,by rw [if_neg C,decide_eq_false C]; rfl,fun _=>rfl⟩,aT⟩
theorem Qp (l:List UInt8) (a:Option Addr) (n c:Nat) (x:UInt8) (w:World) (I:aG w.heap a (U8 l)) (hn:l.length=n) (aA:n≤1048576):
 ba au 282 (aX [.slice a n c,.int .u8 x.toNat]) w (fun v w'=>v= .int .i64 (eb x l)∧Wk w w'):=by
 refine enter func282 aa ntmps282 aa<|ak fun Y=>aw<|Y<|az fun Z=>ak fun ac=>ao (.slice a n c)<|p (bM o6 aa aa)<|p mv<|nl<|ac<|aE<|lp (fun G A V=> ∃ (i:Nat),(i≤n)∧(∀ j,j < i→l.getD j 0≠x)∧(V=w)∧(A 0= .slice a n c)∧(A 1= .int .u8 x.toNat)∧(A 7=aj n)∧(A 8=aj i)∧(n - i=G)) _ ⟨0,ab,(fun j O=>by omega),aa,aa,aa,aa,aa,aa⟩ ?_
 rintro G A V ⟨i,hi,E,am,ap,aq,av,ax,rfl⟩
 refine fx 0 ap<|fx 1 aq<|fx 7 av<|fx 8 ax ?_
 subst am
 refine ak fun ae=>p (lt aa aa)<|nl<|ae<|az fun ag=>cd aa (fun an=> ?_) fun an=> ?_
 refine aQ<|ag<|az fun C=>aE<|ak fun ah=>ao (aj i)<|p (bV (aj i) aa)<|nl<|ah<|ak fun ai=>ao (.int .u8 x.toNat)<|ao (.slice a n c)<|ao (aj i)<|p (a7 pY aa aa ab<|aG.ok (I)<|AU ab)<|p (ld xX aa<|AS (i:=i) I ab)<|p (cg aa aa)<|nl<|ai<|cd aa (fun J=> ?_) fun J=> ?_
 have ay:l.getD i 0=x:=pE.1 ab
 exact ak fun al=>ao (aj i)<|p (bV (aj i) aa)<|nl<|al<|rt<|br<|tr<|tr<|br<|tr<|a6 aa<|⟨by rw [QK (show i < l.length by omega) E ay]; rfl,Md.refl _ _⟩
 exact aQ<|bn<|C<|rg aa<|p (ad aa aa<|cH ab)<|p mv<|nl<|tn<|⟨_,ab,i+1,ab,(fun j O=>by rcases ig j i with h | h <;> first | exact E j h | (rw [show j=i by omega]; exact fun h2=>J<|by rw [h2])),aa,aa,aa,aa,aa,aa⟩
 exact ext<|bc<|bc<|be<|Z<|ak fun C=>p aC<|nl<|C<|rt<|a6 aa<|⟨by rw [QL (fun j O=>E j ab)]; rfl,Md.refl _ _⟩
theorem NL (l:List UInt8) (i j:Nat) (B n cp c:Nat) (w:World) (hO:bm w B 5 1 (.slice (some ⟨c,0,none⟩) n cp) n (U8 l)) (al:i < j∧j≤n) (an:n≤1048576):
 ba au 283 (aX [.slice (some ⟨c,0,none⟩) n cp,aj i,aj j]) w (fun v w'=>v= .slice (some ⟨c,0,none⟩) (i+(n - j)) cp∧bm w' B 5 1 (.slice (some ⟨c,0,none⟩) (i+(n - j)) cp) (i+(n - j)) (U8<|l.take i++l.drop j)∧Md (fun q=>q=c) w w'):=by
 have am:=AT hO
 have ai:=(aU hO).1
 refine enter func283 aa ntmps283 aa<|ak fun C=>aw<|C<|ak fun E=>ao (.slice (some ⟨c,0,none⟩) n cp)<|ao (aj i)<|ao (aj j)<|ao (.slice (some ⟨c,0,none⟩) n cp)<|p (bM o6 aa aa)<|p (Ud pY aa aa aa aa ab)<|nl<|E<|az fun G=>ak fun I=>ao (aj i)<|ao (aj j)<|p (cg aa aa)<|nl<|I<|cd aa (fun h=>absurd h ab) fun ah=>aQ<|G<|ak fun J=>ao (.slice (some ⟨c,0,none⟩) n cp)<|p (bM o6 aa aa)<|p aC<|nl<|J<|az fun O=> ?_
 have A:(fun w'=>Wk w w') w.drew:=(Md.refl _ _).drew
 refine eF (fun w'=>Wk w w') 6 aa wide A<|bo 0 aa (.slice (some ⟨c,0,none⟩) n cp) A<|bo 1 aa (aj i) A<|bB 2 aa (fun _=>qh pY aa aa ab) (fun _=>A)<|bo 3 aa (.slice (some ⟨c,0,none⟩) n cp) A<|bo 4 aa (aj j) A<|bB 5 aa (fun _=>qi pY aa aa ab) (fun _=>A)<|db 6 aa ag ag<|JG (B:=B) (xs:=U8<|l.take i) (news:=U8<|l.drop j) (n:=i) (m:=n - j) qj (Ad (a8 hO A) ab ab) aa aa (show aG _ (eh (some ⟨c,0,none⟩) cp j 1) (U8<|l.drop j) from Vo<|a8 hO A) (by unfold eh; split <;> simp) (by rw [uq,gy]; omega) (Je _) ab fun ap Z ad=>bB 7 aa (fun _=>aC) (fun h=>dA<|(show true =_ from by kernel_rfl).trans h)<|eE ag<|O<|ak fun V=>ao (.slice (some ⟨c,0,none⟩) (i+(n - j)) cp)<|ao (.slice (some ⟨c,0,none⟩) (i+(n - j)) cp)<|p (bM o6 aa aa)<|p mv<|p (Ue pY aa aa aa ab) ?_
 exact e<|MA o6 Wl aa ad (by simp) aa ab fun aq ac ae=>nl<|V<|ak fun Y=>ao (.slice (some ⟨c,0,none⟩) (i+(n - j)) cp)<|p (bV (.slice (some ⟨c,0,none⟩) (i+(n - j)) cp) aa)<|nl<|Y<|rt<|a6 aa<|⟨aa,by rw [uo]; exact ae,Md.trans (A.mono fun _ _ h=>h.elim)<|Md.trans Z<|ac.mono fun q _ h=>by simpa [Value.ownBlock] using h.symm⟩
end Go.Hb.oI
section
namespace Go.Hb
open Go.Hb.oI
theorem Ca {s:List UInt8} {k:Nat} (h:(s.drop k).idxOf 93 < (s.drop k).length):eG (gV s k) [94]≠[]↔(s.drop k).idxOf 93≠0∧¬((s.drop k).idxOf 93=1∧(s.drop k).getD 0 0=94):=by
 unfold gV eG
 generalize A:s.drop k=l at*
 cases l with
 | nil=>simp at h
 | cons b r=>
   generalize hm:(b::r).idxOf 93=m at*
   cases m with
   | zero=>simp
   | succ m=>
     simp only [bU] at h
     simp only [r8,ic,oC,ma,tS,tT]
     by_cases c:b=94
     · subst c
       rw [if_pos rfl]
       cases m with
       | zero=>simp
       | succ m=>
         cases r with
         | nil=>simp at h
         | cons x r=>simp
     · rw [if_neg (by simpa using c)]
       simp [c]
theorem Kf {s:List UInt8} {k:Nat} (h:(s.drop k).idxOf 93 < (s.drop k).length) (E:(s.drop k).idxOf 93≠0):oL s k=eY (91::(s.drop k).take ((s.drop k).idxOf 93 +1)):=by
 funext x
 unfold oL gV eG eY
 generalize I:s.drop k=l at*
 cases l with
 | nil=>simp at h
 | cons b r=>
   generalize hm:(b::r).idxOf 93=m at*
   cases m with
   | zero=>exact absurd rfl E
   | succ m=>
     simp only [bU] at h
     have G:(91::qC (m+1 +1) (b::r)).length=m+3:=by simp only [bU,dB]; omega
     rw [G,if_neg (show ¬m+3=1 by omega)]
     have A:(91::qC (m+1 +1) (b::r)).getD 1 0=b:=rfl
     have C:qC (m+3 - 1) (91::qC (m+1 +1) (b::r))=91::qC (m+1) (b::r):=by
      show qC (m+2) (91::qC (m+2) (b::r))=_
      rw [r8,List.take_take,Nat.min_eq_left ab]
     rw [A,C]
     simp only [r8,oC,tS,tT,ic]
     by_cases c:b=94
     · subst c; simp
     · simp [c]
theorem N4:(fun x:UInt8=> !(fun _:UInt8=>false) x)=eY [46]:=by funext x; simp [eY]
theorem Sq {c:UInt8} (h:c≠46):(fun x:UInt8=>(fun _:UInt8=>false) x || decide (x=c))=eY [c]:=by
 funext x
 simp only [eY,ic,if_true,Bool.false_or,ma]
 exact decide_eq_decide.2 ⟨fun h1=> .inr h1.symm,fun h1=>(h1.resolve_left h).symm⟩
theorem C9 {ps:List (List UInt8)} (h:0 < ps.length):j5 ps≠[]:=yX (f:=fun t=>dJ<|eY t) (m:=4) (fun _=>rfl) ay h
theorem C8 {h:Array Obj} {a:Option Addr} {ps:List (List UInt8)} {i:Nat} (c:aG h a (j5 ps)) (hi:i < ps.length):∀ j,j < 4→Hb.aM h (bk a) (fo a+i*4 +j)=(dJ<|eY<|ps.getD i [])[j]? :=by
 have :=gY (f:=fun t=>dJ<|eY t) (m:=4) (fun _=>rfl) c<|bZ hi
 rw [cM,bZ hi]; exact this
theorem E2 {b:UInt8} (h:(b.toNat:Int)=91):b=91:=pE.1 (by have :(91:UInt8).toNat=91:=rfl; omega)
theorem zX {b:UInt8} (h:¬(b.toNat:Int)=91):b≠91:=by rintro rfl; exact h rfl
theorem E1 {b:UInt8} (h:(b.toNat:Int)=46):b=46:=pE.1 (by have :(46:UInt8).toNat=46:=rfl; omega)
theorem FY {b:UInt8} (h:¬(b.toNat:Int)=46):b≠46:=by rintro rfl; exact h rfl
theorem F4 {w:World} {B:Nat} {v:Value} {l:List (List UInt8)} {x:List UInt8} (h:w.ownsRow B 321 4 v (l.length+1) (j5 l++dJ (eY x))):w.ownsRow B 321 4 v (l++ [x]).length (j5<|l++ [x]):=by
 rw [bK,MC]; simpa [j5] using h
theorem NM (l:List UInt8) (i j:Nat) (A C:Int) (B n cp c:Nat) (w:World) (hO:bm w B 5 1 (.slice (some ⟨c,0,none⟩) n cp) n (U8 l)) (E:i < j∧j≤n) (I:n≤1048576) (hi:A=(i:Nat)) (G:C=(j:Nat)):
 ba au 283 (aX [.slice (some ⟨c,0,none⟩) n cp,.int .i64 A,.int .i64 C]) w (fun v w'=>v= .slice (some ⟨c,0,none⟩) (i+(n - j)) cp∧bm w' B 5 1 (.slice (some ⟨c,0,none⟩) (i+(n - j)) cp) (i+(n - j)) (U8<|l.take i++l.drop j)∧Md (fun q=>q=c) w w'):=by
 subst hi G; exact NL l i j B n cp c w hO E I
theorem T8 (f:UInt8→Bool) (w:World):
 ba au 266 (aX [.agg (dJ<|f).toArray]) w (fun v w'=>v=str (kR f)∧Wk w w'):=by
 have bW:(bytesOf f).length≤256:=sx f 256
 have bX:(bytesOf fun x=> !f x).length≤256:=sx _ 256
 refine enter func266 aa ntmps266 aa<|ak fun a9=>e<|iQ aa fun bg aL av ag aO=>aw<|a9<|ak fun bb=>p (cK jF aa (aa) fun j aY=>by rw [fK]; exact (aO).aM j)<|e<|cl CG (Ce f _) aa fun v6 a3 bx=> ?_
 obtain ⟨aj,aq⟩:=bx
 obtain ⟨C,A,rfl⟩:=cQ aj
 have I:=(aU aj).2
 have ae:Wk w a3:=Md.trans ag.md aq
 have aP:=aq.B aO
 refine aw<|bb<|az fun bc=>aE<|ak fun bd=>ao (.slice C (bytesOf f).length A)<|p (bM o6 aa aa)<|p (cg aa aa)<|aw<|bd<|cd aa (fun bA=> ?_) fun bA=> ?_
 exact ak fun J=>aw<|J<|rt<|br<|tr<|a6 aa<|⟨by unfold kR; rw [if_pos (show (bytesOf f).length=256 by omega)]; rfl,ae⟩
 refine eV (fun am a4=> ∃ (an:Bool),(an=decide ((bytesOf f).length=1∧(bytesOf f).getD 0 0≠46∧(bytesOf f).getD 0 0≠91))∧(a4=a3)∧(am 1=aV bg)∧(am 3= .slice C (bytesOf f).length A)∧(am 11= .bool an)) ?_ ?_
 refine rg aa<|ao (.slice C (bytesOf f).length A)<|p (bM o6 aa aa)<|p (cg aa aa)<|p mv<|gs (t:=15) aa (fun bB=> ?_) fun bB=> ?_
 refine aK aa (aH (.slice C (bytesOf f).length A) aa)<|aK aa (a7 pY aa aa ab<|aG.ok (I)<|AU ab)<|aK aa (ld xX aa<|AS (i:=0) I ab)<|aK aa (gu aa aa)<|p (bN aa)<|p mv<|gs (t:=21) aa (fun aW=> ?_) fun aW=> ?_
 exact aK aa (aH (.slice C (bytesOf f).length A) aa)<|aK aa (a7 pY aa aa ab<|aG.ok (I)<|AU ab)<|aK aa (ld xX aa<|AS (i:=0) I ab)<|aK aa (gu aa aa)<|p (bN aa)<|p aC<|nl<|tn<|⟨_,(by first | exact decide_eq_decide.2 ⟨fun h=>⟨ab,by first | exact FY ab | exact fun h=>by omega,by first | exact zX ab | exact fun h=>by omega⟩,fun h=>by have h1:=h.2.2; exact fun h2=>h1<|E2 h2⟩ | rfl),aa,aa,aa,aa⟩
 exact aJ aa<|aJ aa<|aJ aa<|aJ aa<|p (bH aa)<|p aC<|nl<|tn<|⟨false,((decide_eq_false fun h=>h.2.1<|E1<|Decidable.of_not_not aW).symm),aa,aa,aa,aa⟩
 exact aJ aa<|aJ aa<|aJ aa<|aJ aa<|p (bH aa)<|p mv<|aJ aa<|aJ aa<|aJ aa<|aJ aa<|p (bH aa)<|p aC<|nl<|tn<|⟨false,((decide_eq_false fun h=>by omega).symm),aa,aa,aa,aa⟩
 rintro am a4 ⟨an,av,bp,bG,bJ,bI⟩
 refine fx 1 bG<|fx 3 bJ<|fx 11 bI ?_
 subst bp
 refine cb aa (fun ax=> ?_) fun ax=> ?_
 have al:(bytesOf f).length=1∧(bytesOf f).getD 0 0≠46∧(bytesOf f).getD 0 0≠91:=of_decide_eq_true<|av ▸ ax
 exact ak fun J=>ao (.slice C (bytesOf f).length A)<|p (yA x8 aa (I)<|by simp)<|aw<|J<|rt<|br<|tr<|a6 aa<|⟨by unfold kR; rw [if_neg (show ¬(bytesOf f).length=256 by omega),if_pos al]; rfl,ae⟩
 have al:¬((bytesOf f).length=1∧(bytesOf f).getD 0 0≠46∧(bytesOf f).getD 0 0≠91):=of_decide_eq_false<|av ▸ ax
 refine ak fun J=>p (cK jF aa (aa) fun j aY=>by rw [fK]; exact (aP).aM j)<|e<|cl ym (EN f 93 _ _ rfl) aa fun v31 b2 bs=> ?_
 obtain ⟨rfl,E⟩:=bs
 refine aw<|J<|cb aa (fun aA=> ?_) fun aA=> ?_
 refine ak fun O=>p (cK jF aa (aa) fun j aY=>by rw [fK]; exact (E.B aP).aM j)<|e<|cl yl (Ac f _) aa fun v33 b3 bt=> ?_
 obtain ⟨rfl,bi⟩:=bt
 refine e<|cl CG (Ce (fun x=> !f x) _) aa fun b0 b4 bu=> ?_
 obtain ⟨a0,bj⟩:=bu
 obtain ⟨bR,bT,rfl⟩:=cQ a0
 exact p (yA x8 aa ((aU a0).2)<|aa)<|p (cc aa aa<|by simp only [bU,gz]; omega)<|p (cc aa aa<|by simp only [bU,gz,bK]; omega)<|aw<|O<|rt<|br<|tr<|a6 aa<|⟨by unfold kR; rw [if_neg (show ¬(bytesOf f).length=256 by omega),if_neg al,if_pos aA]; rfl,Md.trans ae<|Md.trans E<|Md.trans bi bj⟩
 refine aQ<|bn<|bc ?_
 refine eV (fun a5 aN=> ∃ (V:Option Addr) (G Y:Nat),(((bytesOf f).filter (fun b=>decide (b≠94))++(if 94∈(bytesOf f) then [94] else [])).length=G)∧(bm aN aL.heap.size 5 1 (.slice V G Y) G<|U8<|(bytesOf f).filter (fun b=>decide (b≠94))++(if 94∈(bytesOf f) then [94] else []))∧(Wk w aN)∧(G≤300)∧(a5 3= .slice V G Y)) ?_ ?_
 refine ak fun O=>ao (.slice C (bytesOf f).length A)<|e<|cl Lf (Qp (bytesOf f) C _ A 94 _ (I.wk E) aa ab) aa fun v39 bO bv=> ?_
 obtain ⟨rfl,ac⟩:=bv
 have aR:Wk w bO:=Md.trans ae<|Md.trans E ac
 refine aw<|O<|ak fun bf=>p mv<|p (ge aa aa)<|nl<|bf<|cd aa (fun bz=> ?_) fun bz=> ?_
 have aB:=rj (c:=94) (l:=bytesOf f) ab
 have aD:=a8 (a8 aj E) ac
 obtain ⟨Z,rfl⟩:=SF aD ab
 refine rg aa<|ao (.slice (some ⟨Z,0,none⟩) (bytesOf f).length A)<|p mv<|p mv<|p (ad aa aa<|cH ab)<|e<|cl Lg (NM (bytesOf f) ((bytesOf f).idxOf 94) ((bytesOf f).idxOf 94 +1) _ _ aL.heap.size _ A Z _ aD ab ab ab ab) aa fun v46 bP bw=> ?_
 obtain ⟨rfl,aF,aT⟩:=bw
 have bk:Wk w bP:=Md.trans' aR aT fun k hk h=>by have :=dd aD (show (bD (some ⟨Z,0,none⟩) _ A).ownBlock=some Z from rfl); have :=ag.md.size; omega
 have bC:=AT aF
 refine e<|kG qj aa aa fun bS b5 bV ah bh=>e<|ap qj (a8 aF ah.md) aa (by have :=ag.md.size; have :=aq.size; have :=E.size; have :=ac.size; have :=aT.size; have :=ah.md.size; omega) aa (aG.fO bh) (aa) (aa) ab ab fun b1 bQ aI bq bZ bY=> ?_
 have bl:=Wk.own (Md.trans bk ah.md) (a8 aF ah.md) bq ag.md.size
 rw [Ql (Kk f) aB.2] at bC aI
 obtain ⟨a2,c2,rfl⟩:=cQ aI
 have a1:bm bQ aL.heap.size 5 1 (.slice a2 (((bytesOf f).idxOf 94 +((bytesOf f).length - ((bytesOf f).idxOf 94 +1)))+1) c2) (((bytesOf f).idxOf 94 +((bytesOf f).length - ((bytesOf f).idxOf 94 +1)))+1) (U8<|(bytesOf f).filter (fun b=>decide (b≠94))++ [94]):=by rw [uo]; exact aI
 exact p aC<|nl<|tn<|⟨a2,_,c2,(by have :=AT a1; rw [if_pos (xE.1 aB.2)]; exact this),(by rw [if_pos (xE.1 aB.2)]; exact a1),bl,(ab),aa⟩
 have ai:¬(94:UInt8)∈bytesOf f:=fun h=>by have h1:eb 94 (bytesOf f)=(bytesOf f).idxOf 94:=if_pos (xE.2 h); omega
 exact aQ<|tn<|⟨C,(bytesOf f).length,A,(by rw [if_neg ai,FN ai,eM]),(by rw [if_neg ai,FN ai,eM]; exact a8 (a8 aj E) ac),aR,(ab),aa⟩
 rintro a5 aN ⟨V,G,Y,aZ,bF,bo,bE,bL⟩
 refine fx 3 bL ?_
 have aS:((bytesOf f).filter (fun b=>decide (b≠94))++(if 94∈(bytesOf f) then [94] else [])).length≤300:=by rw [aZ]; exact bE
 exact ak fun O=>ao (.slice V G Y)<|p (yA x8 aa ((aU bF).2)<|aZ)<|p (cc aa aa<|dZ (IT aS _) ay)<|p (cc aa aa<|by rw [bK]; exact dZ (Nat.add_le_add_right (IT aS _) _) ay)<|p aC<|nl<|O<|rt<|a6 aa<|⟨by unfold kR; rw [if_neg (show ¬(bytesOf f).length=256 by omega),if_neg al,if_neg (show ¬f 93=true from by rw [aA]; exact dA)]; rfl,bo⟩
theorem Dh (s:List UInt8) (w:World) (hs:s.length≤1048576):
 ba au 164 (aX [str s]) w (fun v w'=>(∃ a,v= .tuple #[.agg [a].toArray,aj ((dP s).2)]∧bm w' w.heap.size 321 4 (a) ((dP s).1).length (j5<|(dP s).1))∧Wk w w'):=by
 refine enter func164 aa ntmps164 aa<|ak fun b4=>e<|iq wY fun aL dX dB ag ax=>aw<|b4<|az fun b9=>az fun bw=>rg aa<|ao (str s)<|p (iS aa aa)<|p mv<|gs (t:=10) aa (fun Y=> ?_) fun Y=> ?_
 refine aJ aa<|aJ aa<|aJ aa<|p (bN aa)<|nl<|bw<|ct aa<|az fun an=>rg aa<|p (c7 (ps:= []) (L:= [.slice none 0 0]) tu aa<|aa)<|e<|gw oO aa (vs:= [.slice none 0 0]) aa aa aa ax ay fun G A C=> ?_
 have E:Wk w G:=Md.trans' ag.md A fun k hk h=>by omega
 exact aw<|an<|rt<|tr<|eU aa (dN (cs:= [.slice none 0 0]) aa lK aa fun j I=>by cases j with | zero=>exact (bj C).trans aa | succ j=>omega) ek<|⟨⟨.slice none 0 0,by unfold dP; rw [if_pos (.inl Y)]; rfl,by unfold dP; rw [if_pos (.inl Y)]; exact dM _ _ _ _⟩,E⟩
 refine aK aa (aH (str s) aa)<|aK aa (dv u9 aa aa)<|aK aa (gt aa aa)<|p (bH aa)<|nl<|bw<|cd aa (fun cZ=> ?_) fun cZ=> ?_
 refine ak fun an=>p (c7 (ps:= []) (L:= [.slice none 0 0]) tu aa<|aa)<|e<|gw oO aa (vs:= [.slice none 0 0]) aa aa aa ax ay fun G A C=> ?_
 have E:Wk w G:=Md.trans' ag.md A fun k hk h=>by omega
 exact aw<|an<|rt<|tr<|eU aa (dN (cs:= [.slice none 0 0]) aa lK aa fun j I=>by cases j with | zero=>exact (bj C).trans aa | succ j=>omega) ek<|⟨⟨.slice none 0 0,by unfold dP; rw [if_pos (.inr ab)]; rfl,by unfold dP; rw [if_pos (.inr ab)]; exact dM _ _ _ _⟩,E⟩
 refine aQ<|b9<|az fun an=>ak fun ca=>ao (str s)<|p (iS aa aa)<|nl<|ca<|cd aa (fun ah=> ?_) fun ah=> ?_
 refine ak fun a9=>p (c7 (ps:= []) (L:= [.slice none 0 0]) tu aa<|aa)<|e<|gw oO aa (vs:= [.slice none 0 0]) aa aa aa ax ay fun G A C=> ?_
 have E:Wk w G:=Md.trans' ag.md A fun k hk h=>by omega
 refine aw<|a9<|rt<|tr<|eU aa (dN (cs:= [.slice none 0 0]) aa lK aa fun j I=>by cases j with | zero=>exact (bj C).trans aa | succ j=>omega) ek ?_
 have bW:¬(s= []∨512 < s.length):=fun h=>h.elim Y fun h=>by omega
 exact ⟨⟨.slice none 0 0,by unfold dP; rw [if_neg bW,if_pos ah]; rfl,by unfold dP; rw [if_neg bW,if_pos ah]; exact dM _ _ _ _⟩,E⟩
 refine aQ<|an<|ak fun a9=>e<|iq wY fun aq dy dD bT cq=> ?_
 have cR:Wk w dy:=Md.trans ag.md bT.md
 have dC:=(cY.1 ax).1
 have cp:=bT.md.aE ax
 have hs:=hs
 refine nl<|a9<|az fun cc=>ak fun ce=>aw<|ce<|aE<|lp (fun bx aI ac=> ∃ (i:Nat) (c:List (List UInt8)) (aF:Value),(i≤s.length∧c.length≤i)∧(kj s i c)∧(ac.heap[aq]? =some (.cells [aF].toArray 275 (0,0)))∧(ac.heap[aL]? =some (.cells [.slice none 0 0].toArray 275 (0,0)))∧(bm ac w.heap.size 321 4 (aF) (c).length<|j5<|c)∧(Wk w ac)∧(aI 0=str s)∧(aI 2=aV aL)∧(aI 4=aV aq)∧(aI 5=aj i)∧(s.length - i=bx)) _ ⟨0,[],.slice none 0 0,(by simp),(kj.start s),cq,cp,(dM _ _ _ _),cR,aa,aa,aa,(by first | rfl | exact iv<|if_neg aD),aa⟩ ?_
 rintro bx aI ac ⟨i,c,aF,hi,a0,aO,aA,Z,ad,da,db,dc,de,rfl⟩
 refine fx 0 da<|fx 2 db<|fx 4 dc<|fx 5 de<|az fun cf=>ak fun b5=>ao (aj i)<|ao (str s)<|p (dv u9 aa aa)<|p (lt aa aa)<|nl<|b5<|cd aa (fun c0=> ?_) fun c0=> ?_
 refine aQ<|cf<|aE<|ak fun a4=>e<|al qo fun av b3 bU aW cA=> ?_
 have aN:bE b3.heap av (dJ fun _=>false):=by rw [yz]; exact cA
 have bi:Wk w b3:=Md.trans ad aW.md
 have bg:=aW.md.aE aO
 have bh:=aW.md.aE aA
 have bu:=a8 Z aW.md
 have bU:av=ac.heap.size:=bU
 have dA:=(cY.1 aO).1
 have dz:=(cY.1 aA).1
 have bs:=drop_cons (l:=s) (i:=i) 0 ab
 refine nl<|a4<|ak fun a5=>aw<|a5 ?_
 refine eV (fun am ai=>(s.getD i 0≠91)∧(bE ai.heap av<|dJ<|eY [s.getD i 0])∧(ai.heap[aq]? =some (.cells [aF].toArray 275 (0,0)))∧(ai.heap[aL]? =some (.cells [.slice none 0 0].toArray 275 (0,0)))∧(bm ai w.heap.size 321 4 (aF) (c).length<|j5<|c)∧(Wk w ai)∧(am 0=str s)∧(am 2=aV aL)∧(am 4=aV aq)∧(am 5=aj i)∧(am 6=aV av)) ?_ ?_
 refine ak fun O=>ao (str s)<|ao (aj i)<|p (jL u9 aa aa ab)<|nl<|O<|aE<|ak fun b6=>p (cg aa aa)<|aw<|b6<|cd aa (fun aY=> ?_) fun aY=> ?_
 refine az fun a6=>ak fun b7=>ao (str s)<|ao (aj i)<|p (bG ((i+1:Nat):Int) aa aa<|bf ab ab)<|e<|cl KP (Kb s (i+1) _ hs ab) aa fun dV dx cW=> ?_
 obtain ⟨⟨cj,rfl,c2⟩,hE36⟩:=cW
 have cP:Wk w dx:=Md.trans bi hE36
 have bV:=E2 aY
 refine p mv<|p (xt aa aa)<|p (xt aa aa)<|p (xt aa aa)<|e<|cG n5 aa (vs:=dJ cj) aa aa aa (hE36.B aN) ay fun dr aP bz=> ?_
 have bQ:Wk w dr:=Md.trans' cP aP fun k hk h=>by have :=ad.size; omega
 have dL:=hE36.size
 have bA:=aP.aE (hE36.aE bg) fun h=>by omega
 have bL:=aP.aE (hE36.aE bh) fun h=>by omega
 have c4:=cz (a8 bu hE36) aP fun k hk h=>by have :=dd Z hk; omega
 have dG:(s.drop<|i+1).length=s.length - (i+1):=gy
 refine p aC<|aw<|b7<|ak fun b8=>p mv<|p (no aa)<|nl<|b8<|cb aa (fun V=> ?_) fun V=> ?_
 have aB:jJ (s.drop i)=none:=by
  rw [bs,bV]
  refine Me aa fun h=> ?_
  have dk:¬eb 93 (s.drop<|i+1) < 0:=by rw [show eb 93 (s.drop<|i+1)=(s.drop<|i+1).idxOf 93 from if_pos h.1]; omega
  have dl:=(Ca (s:=s) (k:=i+1) h.1).2 h.2
  rw [decide_eq_false dk,decide_eq_true dl] at V; cases V
 have aZ:=a0.bad ab aB
 refine ak fun a7=>p (c7 (ps:= []) (L:= [.slice none 0 0]) tu aa<|aa)<|e<|gw oO aa (vs:= [.slice none 0 0]) aa aa aa bL ay fun G A C=> ?_
 have E:Wk w G:=Md.trans' bQ A fun k hk h=>by omega
 refine aw<|a7<|rt<|tr<|br<|tr<|br<|tr<|br<|tr<|eU aa (dN (cs:= [.slice none 0 0]) aa lK aa fun j I=>by cases j with | zero=>exact (bj C).trans aa | succ j=>omega) ek ?_
 have J:dP s=([],41):=by unfold dP; rw [if_neg (fun h=>h.elim Y fun h=>by omega),if_neg ah,aZ]
 exact ⟨⟨.slice none 0 0,by rw [J]; rfl,by rw [J]; exact dM _ _ _ _⟩,E⟩
 have aD:¬eb 93 (s.drop<|i+1) < 0:=fun h=>by rw [decide_eq_true h] at V; cases V
 have dn:eG (gV s<|i+1) [94]≠[]:=fun h=>by rw [h] at V; simp at V
 have a1:=rj aD
 have bv:=(Ca (s:=s) (k:=i+1) a1.2).1 dn
 obtain rfl :=c2 aD
 rw [Kf a1.2 bv.1] at bz
 have aB:jJ (s.drop i)=some (91::(s.drop<|i+1).take ((s.drop<|i+1).idxOf 93 +1),(s.drop<|i+1).drop ((s.drop<|i+1).idxOf 93 +1)):=by rw [bs,bV]; exact Mg rfl a1.2 bv.1 bv.2
 have bt:=a0.step (j:=i+1 +(s.drop<|i+1).idxOf 93 +1) aB<|by rw [List.drop_drop]; rfl
 have dK:(s.drop<|i+1).idxOf 93 < s.length - (i+1):=by have :=a1.2; omega
 refine aQ<|a6<|ak fun a7=>p (fa lh aa)<|p (ld mm aa<|(bj bA).trans aa)<|p (cK jF aa (aa) fun j I=>by rw [fK]; exact (bz).aM j)<|e<|oN vX aa aa aa fun ch b1 dE aT cu=> ?_
 have cv:bE b1.heap ch (dJ<|eY (91::(s.drop<|i+1).take ((s.drop<|i+1).idxOf 93 +1))):=cu
 have bR:Wk w b1:=Md.trans bQ aT.md
 have a2:=a8 c4 aT.md
 have bB:=aT.md.aE bA
 have bO:=aT.md.aE bL
 refine e<|ap vX (a2) aa (by have :=bR.size; omega) aa (aG.fO cv) (aa) (Da _) ab ab fun dp dY bX bo dR dH=> ?_
 have bY:=F4 bX
 have bC:=bo.aE bB fun h=>dS a2 bB ay h
 have cH:=bo.aE bO fun h=>dS a2 bO ay h
 have cS:=Wk.own bR a2 bo<|cw _
 refine p (fa lh aa)<|e<|dQ Dn aa aa (eQ bX) bC (by simp) fun ds bk ck=> ?_
 have cL:Wk w ds:=Md.trans' cS bk fun k hk h=>by have :=ag.md.size; omega
 exact nl<|a7<|ext<|na ay<|bc<|be<|tn<|⟨_,ab,i+1 +(s.drop<|i+1).idxOf 93 +1,c++ [91::(s.drop<|i+1).take ((s.drop<|i+1).idxOf 93 +1)],dp,(by rw [bK,ic]; omega),bt,ck,(bk.aE cH fun h=>by omega),(cz bY bk fun k hk h=>dS bY bC ay<|h ▸ hk),cL,aa,aa,aa,(by first | rfl | exact iv<|if_neg aD),aa⟩
 refine ak fun a6=>p (cg aa aa)<|aw<|a6<|cd aa (fun bq=> ?_) fun bq=> ?_
 refine rg aa<|p (cK jF aa (aa) fun j I=>by rw [fK]; exact (aN).aM j)<|e<|cl yl (Ac (fun _=>false) _) aa fun dW dZ cX=> ?_
 obtain ⟨rfl,ae⟩:=cX
 refine e<|cG n5 aa (vs:=dJ fun x=> !(fun _:UInt8=>false) x) aa aa aa (ae.B aN) ay fun dt aR cm=> ?_
 have dO:=ae.size
 have cM:Wk w dt:=Md.trans' (Md.trans bi ae) aR fun k hk h=>by have :=ad.size; omega
 have cC:=aR.aE (ae.aE bg) fun h=>by omega
 have cE:=aR.aE (ae.aE bh) fun h=>by omega
 have c5:=cz (a8 bu ae) aR fun k hk h=>by have :=dd Z hk; omega
 exact nl<|bn<|tn<|⟨(zX aY),(by rw [E1 bq,← N4]; exact cm),cC,cE,c5,cM,aa,aa,aa,aa,aa⟩
 refine rg aa<|ao (str s)<|ao (aj i)<|p (jL u9 aa aa ab)<|e<|cl CA (Gc av (s.getD i 0) _ _ aN) aa fun dU dw cV=> ?_
 obtain ⟨rfl,co,aS⟩:=cV
 have cO:Wk w dw:=Md.trans' bi aS fun k hk h=>by have :=ad.size; omega
 have cD:=aS.aE bg fun h=>by omega
 have cF:=aS.aE bh fun h=>by omega
 have c6:=cz bu aS fun k hk h=>by have :=dd Z hk; omega
 exact nl<|bn<|tn<|⟨(zX aY),(by rw [← Sq (FY bq)]; exact co),cD,cF,c6,cO,aa,aa,aa,aa,aa⟩
 rintro am ai ⟨c3,cB,bJ,cJ,c9,cU,df,dg,dh,di,dj⟩
 refine fx 0 df<|fx 2 dg<|fx 4 dh<|fx 5 di<|fx 6 dj<|ak fun O=>p (fa lh aa)<|p (ld mm aa<|(bj bJ).trans aa)<|p (cK jF aa (aa) fun j I=>by rw [fK]; exact (cB).aM j)<|e<|oN vX aa aa aa fun ci b2 dF aU cx=> ?_
 have cy:bE b2.heap ci (dJ<|eY [s.getD i 0]):=cx
 have bS:Wk w b2:=Md.trans cU aU.md
 have a3:=a8 c9 aU.md
 have bF:=aU.md.aE bJ
 have bP:=aU.md.aE cJ
 refine e<|ap vX (a3) aa (by have :=bS.size; omega) aa (aG.fO cy) (aa) (Da _) ab ab fun dq d0 bZ bp dT dI=> ?_
 have b0:=F4 bZ
 have bI:=bp.aE bF fun h=>dS a3 bF ay h
 have cI:=bp.aE bP fun h=>dS a3 bP ay h
 have cT:=Wk.own bS a3 bp<|cw _
 have aB:jJ (s.drop i)=some ([s.getD i 0],s.drop (i+1)):=by rw [bs]; exact Mf c3
 have bt:=a0.step (j:=i+1) aB rfl
 refine p (fa lh aa)<|e<|dQ Dn aa aa (eQ bZ) bI (by simp) fun du bl cn=> ?_
 have cN:Wk w du:=Md.trans' cT bl fun k hk h=>by have :=ag.md.size; omega
 exact nl<|O<|rg aa<|ao (aj i)<|p (bG ((i+1:Nat):Int) aa aa<|bf ab ab)<|p aC<|nl<|bn<|tn<|⟨_,ab,i+1,c++ [[s.getD i 0]],dq,(by rw [bK,ic]; omega),bt,cn,(bl.aE cI fun h=>by omega),(cz b0 bl fun k hk h=>dS b0 bI ay<|h ▸ hk),cN,aa,aa,aa,(by first | rfl | exact iv<|if_neg aD),aa⟩
 refine ext<|bc<|bc<|be<|cc<|az fun a4=>az fun a5=> ?_
 obtain ⟨bb,bd,rfl⟩:=cQ Z
 have aZ:=a0.done ab
 refine rg aa<|p (fa lh aa)<|p (ld mm aa<|(bj aO).trans aa)<|p (bM o7 aa aa)<|p (gt aa aa)<|nl<|a5<|cd aa (fun c1=> ?_) fun c1=> ?_
 refine ak fun O=>p (c7 (ps:= []) (L:= [.slice none 0 0]) tu aa<|aa)<|e<|gw oO aa (vs:= [.slice none 0 0]) aa aa aa aA ay fun G A C=> ?_
 have E:Wk w G:=Md.trans' ad A fun k hk h=>by omega
 refine aw<|O<|rt<|tr<|eU aa (dN (cs:= [.slice none 0 0]) aa lK aa fun j I=>by cases j with | zero=>exact (bj C).trans aa | succ j=>omega) ek ?_
 have J:dP s=([],42):=by unfold dP; rw [if_neg (fun h=>h.elim Y fun h=>by omega),if_neg ah,aZ]; exact if_pos ab
 exact ⟨⟨.slice none 0 0,by rw [J]; rfl,by rw [J]; exact dM _ _ _ _⟩,E⟩
 refine aQ<|a4<|ak fun O=>p (cK lK aa (aa) (show ∀ j,j < 1→Hb.aM ac.heap aq (0 +j)= [bD bb c.length bd][j]? from fun j I=>by cases j with | zero=>exact (bj aO).trans aa | succ j=>omega))<|e<|gw oO aa (vs:= [.slice bb c.length bd]) aa aa aa aA ay fun G A C=> ?_
 have E:Wk w G:=Md.trans' ad A fun k hk h=>by omega
 have c8:=cz Z A fun k hk h=>dS Z aA ay<|h ▸ hk
 refine aw<|O<|rt<|eU aa (dN (cs:= [.slice bb c.length bd]) aa lK aa fun j I=>by cases j with | zero=>exact (bj C).trans aa | succ j=>omega) ek ?_
 have J:dP s=(c,0):=by unfold dP; rw [if_neg (fun h=>h.elim Y fun h=>by omega),if_neg ah,aZ]; exact if_neg ab
 exact ⟨⟨_,by rw [J]; rfl,by rw [J]; exact c8⟩,E⟩
theorem S8 (ps:List (List UInt8)) (a:Option Addr) (c:Nat) (w:World) (Z:aG w.heap a (j5 ps)) (hn:ps.length≤4096):
 ba au 239 (aX [.agg [.slice a ps.length c].toArray]) w (fun v w'=>v=str (o0 ps)∧Wk w w'):=by
 refine enter func239 aa ntmps239 aa<|ak fun ae=>e<|iQ aa fun aP ac aS E Y=>aw<|ae<|az fun ah=>az fun ai=>rg aa<|p (fa lh aa)<|p (ld mm aa<|Y.aM 0)<|p (bM o7 aa aa)<|p (cg aa aa)<|nl<|ai<|cd aa (fun J=> ?_) fun J=> ?_
 exact ak fun G=>aw<|G<|rt<|tr<|a6 aa<|⟨by unfold o0; rw [if_pos (fR ab)]; rfl,E.md⟩
 refine aQ<|ah<|ak fun G=>aw<|G<|az fun am=>ak fun an=>p (fa lh aa)<|p (ld mm aa<|Y.aM 0)<|p (bM o7 aa aa)<|p mv<|nl<|an<|aE<|lp (fun V C O=> ∃ (i:Nat),(i≤ps.length)∧(Wk ac O)∧(((ps.take i).flatMap fun t=>kR<|eY t).length≤i*300)∧(C 3=str ((ps.take i).flatMap fun t=>kR<|eY t))∧(C 11= .slice a ps.length c)∧(C 12=aj (ps.length))∧(C 13=aj i)∧(ps.length - i=V)) _ ⟨0,ab,(Md.refl _ _),(by simp),(by first | rfl | (rw [kT ps i [] ab,tU,tV]; rfl)),aa,aa,aa,aa⟩ ?_
 rintro V C O ⟨i,hi,A,hlen,aN,aJ,aK,aL,rfl⟩
 refine fx 3 aN<|fx 11 aJ<|fx 12 aK<|fx 13 aL<|ak fun ap=>p (lt aa aa)<|nl<|ap<|az fun aq=>cd aa (fun aI=> ?_) fun aI=> ?_
 refine aQ<|aq<|az fun I=>aE<|ak fun ag=>p (a7 DK aa aa ab<|aG.ok (Z.wk<|Md.trans E.md A)<|C9 ab)<|p (cK jF aa (aa) (show ∀ j,j < 4→Hb.aM O.heap (bk a) (fo a+i*4 +j)=(dJ<|eY<|ps.getD i [])[j]? from C8 (Z.wk<|Md.trans E.md A) ab))<|e<|al qo fun aR aZ aT aF av=>e<|cG n5 aa (vs:=dJ<|eY<|ps.getD i []) aa aa aa av ay fun aO aD ax=> ?_
 have aB:Wk ac aO:=Md.trans' (Md.trans A aF.md) aD fun k hk h=>by have :=A.size; omega
 refine nl<|ag<|rg aa<|ao (str<|(ps.take i).flatMap fun t=>kR<|eY t)<|p (cK jF aa (aa) fun j aU=>by rw [fK]; exact (ax).aM j)<|e<|cl Ld (T8 (eY<|ps.getD i []) _) aa fun aW aY aH=> ?_
 obtain ⟨rfl,aA⟩:=aH
 have aV:=GB<|eY<|ps.getD i []
 exact p (cc aa aa ab)<|p aC<|nl<|bn<|I<|rg aa<|p (ad aa aa<|cH ab)<|p mv<|nl<|tn<|⟨_,ab,i+1,ab,(Md.trans aB aA),(by rw [kT ps i [] ab,tU,tV,bK]; omega),(by first | rfl | (rw [kT ps i [] ab,tU,tV]; rfl)),aa,aa,aa,aa⟩
 exact ext<|bc<|bc<|be<|am<|ak fun I=>ao (str<|(ps.take i).flatMap fun t=>kR<|eY t)<|p (bV (str<|(ps.take i).flatMap fun t=>kR<|eY t) aa)<|nl<|I<|rt<|a6 aa<|⟨by unfold o0; rw [if_neg (fun h=>by rw [h] at J; exact J aa),show ps.take i=ps from eN ab]; rfl,Md.trans E.md A⟩
end Go.Hb
end
section
namespace Go.Hb.eH
open Go.Hb.oI
theorem Ea {kind:Nat} {al:List (List Nat)} {s:Tx} (h:al= []):fM kind al s=kq kind s:=if_pos h
theorem Pc {kind:Nat} {al:List (List Nat)} {s:Tx} {e:Nat} (h:al≠[]) (h1:ei s al.length= .error e):fM kind al s= .error 13:=by unfold fM; rw [if_neg h,h1]
theorem Pf {kind:Nat} {al:List (List Nat)} {s:Tx} (h:al≠[]) (h1:ei s al.length= .ok 0):fM kind al s= .error 13:=by unfold fM; rw [if_neg h,h1]; rfl
theorem Pd {kind n:Nat} {al:List (List Nat)} {s:Tx} (h:al≠[]) (h1:ei s al.length= .ok n) (c:n≠0):fM kind al s= .ok (al.getD (n - 1) []):=by unfold fM; rw [if_neg h,h1]; exact if_neg c
theorem Ev {kind:Nat} {s:Tx} (h:(eO kind s).2=0):kq kind s= .ok (eO kind s).1:=if_neg fun h2=>h2 h
theorem Es {kind:Nat} {s:Tx} (h:(eO kind s).2≠0):kq kind s= .error (eO kind s).2:=if_pos h
theorem Gq {kind ln:Nat} {al:List (List Nat)} {c:dI} {r:List Tx} (h:r.length≠4) (h1:r.length≠5):iV kind al c ln r= .error 111:=by unfold iV; rw [if_pos ⟨h,h1⟩]
theorem oZ {kind ln:Nat} {al:List (List Nat)} {c:dI} {r:List Tx} (h:r.length=4∨r.length=5):iV kind al c ln r=(match fJ true (r.getD 2 []) with
 | .error e=> .error e
 | .ok st=>match kF (bA<|r.getD 3 []) with
   | .error e=> .error e
   | .ok ad=>match mG kind al c.kind (bA<|r.getD 3 []) with
     | .error e=> .error e
     | .ok nx=>match lP r with
       | .error e=> .error e
       | .ok cd=> .ok ⟨c.kind,c.flag,c.fX,st,ad,cd,nx,ln⟩):=by unfold iV; rw [if_neg ab]; rfl
theorem Jh {r:k0} (h:r.2.2.2≠0):kF r= .error r.2.2.2:=if_pos h
theorem Jl {r:k0} (h:r.2.2.2=0) (h1:r.1= [48]):kF r= .ok []:=by unfold kF; rw [if_neg (fun h2=>h2 h),if_pos h1]
theorem Ji {r:k0} (h:r.2.2.2=0) (h1:r.1≠[48]) (h2:gR r.1≠0):kF r= .error (gR r.1):=by unfold kF; rw [if_neg (fun h2=>h2 h),if_neg h1,if_pos h2]
theorem Jj {r:k0} (h:r.2.2.2=0) (h1:r.1≠[48]) (h2:gR r.1=0):kF r= .ok r.1:=by unfold kF; rw [if_neg (fun h2=>h2 h),if_neg h1,if_neg (fun h3=>h3 h2)]
theorem R6 {kind c:Nat} {al:List (List Nat)} {r:k0} (h:r.2.2.1=false):mG kind al c r= .ok []:=by unfold mG; rw [if_neg (by rw [h]; exact dA)]
theorem R5 {kind c:Nat} {al:List (List Nat)} {r:k0} (h:r.2.2.1=true) (h1:c=1):mG kind al c r= .error 118:=by unfold mG; rw [if_pos h,if_pos h1]
theorem FL {kind c:Nat} {al:List (List Nat)} {r:k0} (h:r.2.2.1=true) (h1:c≠1):mG kind al c r=fM kind al r.2.1:=by unfold mG; rw [if_pos h,if_neg h1]
theorem MZ {r:List Tx} (h:r.length≠5):lP r= .ok [46]:=if_neg h
theorem MV {r:List Tx} (h:r.length=5) (h1:gO (r.getD 4 [])=false):lP r= .error 21:=by unfold lP; rw [if_pos h,if_pos h1]
theorem MW {r:List Tx} (h:r.length=5) (h1:gO (r.getD 4 [])=true) (h2:(dP<|r.getD 4 []).2≠0):lP r= .error (dP<|r.getD 4 []).2:=by unfold lP; rw [if_pos h,if_neg (by rw [h1]; exact dA),if_pos h2]
theorem MX {r:List Tx} (h:r.length=5) (h1:gO (r.getD 4 [])=true) (h2:(dP<|r.getD 4 []).2=0):lP r= .ok (o0 (dP<|r.getD 4 []).1):=by unfold lP; rw [if_pos h,if_neg (by rw [h1]; exact dA),if_neg (fun h3=>h3 h2)]
theorem M8 (s:Tx):(dP s).1.length≤16:=by
 unfold dP
 split
 · simp
 · split
   · simp
   · split
     · simp
     · split
       · simp
       · rename_i h; exact Nat.le_of_not_lt h
theorem DU (B fb mc:Nat) (F:aB) (V:dU) (s:Tx) (w:World) (E:cV w B fb mc F V) (hk:F.kind=1∨F.kind=2∨F.kind=3) (aH:∀ l∈F.aliases,l.length≤64∧l.Pairwise (· < ·)) (aP:F.aliases.length≤70000) (hs:s.length≤1048576):
 ba au 140 (aX [aV fb,str s]) w (fun v w'=>((∃ a l,v= .tuple #[a,.int .i64 0]∧fM F.kind F.aliases s= .ok l∧bm w' w.heap.size 95 1 a l.length (l.map aT))∨(∃ a e,v= .tuple #[a,aj e]∧e≠0∧fM F.kind F.aliases s= .error e))∧Wk w w'):=by
 obtain ⟨ax,kH,ah⟩:=cQ E.gG
 have Z:=E.gG
 rw [ah] at Z
 have O:Hb.aM w.heap fb 10=some (.slice ax F.aliases.length kH):=by rw [← ah]; exact (bj E.cells).trans rfl
 refine enter func140 aa ntmps140 aa<|ak fun ai=>p aC<|aw<|ai<|az fun am=>az fun an=>rg aa<|ao (aV fb)<|p (lf tx aa aa)<|nl<|an<|cf (aa)<|aQ<|am<|az fun ap=>ak fun aq=>ao (aV fb)<|p (nc aa)<|p (fa fI aa)<|p (fa n9 aa)<|p (ld pM aa<|O)<|p (bM wP aa aa)<|p (cg aa aa)<|nl<|aq<|cd aa (fun Y=> ?_) fun Y=> ?_
 have A:F.aliases= []:=fR ab
 refine ak fun I=>ao (aV fb)<|p (nc aa)<|p (fa fI aa)<|p (fa q8 aa)<|p (ld bR aa<|(bj E.cells).trans aa)<|ao (str s)<|e<|cl Cv (Ex F.kind s _ hk hs) aa fun v23 aY aD=> ?_
 obtain ⟨⟨a23,rfl,aO⟩,hE23⟩:=aD
 refine p (xt aa aa)<|p (xt aa aa)<|p aC<|aw<|I<|rt<|tr<|f2 aa aa aa ?_
 refine ⟨?_,hE23⟩
 by_cases h:(eO F.kind s).2=0
 exact .inl ⟨a23,_,by rw [h]; rfl,by rw [Ea A]; exact Ev h,aO⟩
 exact .inr ⟨a23,_,aa,h,by rw [Ea A]; exact Es h⟩
 have A:F.aliases≠[]:=fun h=>by rw [h] at Y; exact Y rfl
 refine aQ<|ap<|ak fun I=>ao (str s)<|ao (aV fb)<|p (nc aa)<|p (fa fI aa)<|p (fa n9 aa)<|p (ld pM aa<|O)<|p (bM wP aa aa)<|e<|cl uG (vI s (F.aliases.length:Nat) _ hs ab) aa fun aS aZ aE=> ?_
 obtain ⟨rfl,c⟩:=aE
 refine p mv<|p (xt aa aa)<|p (xt aa aa)<|p aC<|aw<|I<|az fun av=>ak fun ad=>p mv<|p (gu aa aa)<|p mv<|gs (t:=39) aa (fun aN=> ?_) fun aN=> ?_
 exact aJ aa<|aJ aa<|p (bN aa)<|nl<|ad<|ct aa<|ak fun C=>p aC<|aw<|C<|rt<|tr<|f2 aa aa aa<|⟨.inr ⟨.slice none 0 0,13,aa,ay,Pc A (vG ab).1⟩,c⟩
 refine aK aa mv<|aK aa (cg aa aa)<|p (bH aa)<|nl<|ad<|cd aa (fun aL=> ?_) fun aL=> ?_
 refine ak fun C=>p aC<|aw<|C<|rt<|tr<|f2 aa aa aa ?_
 have G:=vH (by omega :(fj s (F.aliases.length:Nat)).2=0)
 rw [show (fj s (F.aliases.length:Nat)).1=0 from by omega] at G
 exact ⟨.inr ⟨.slice none 0 0,13,aa,ay,Pf A G⟩,c⟩
 refine aQ<|av<|az fun C=> ?_
 have G:=vH (by omega :(fj s (F.aliases.length:Nat)).2=0)
 have aR:=vF s (F.aliases.length:Nat) ab
 have ae:(fj s (F.aliases.length:Nat)).1 - 1 < F.aliases.length:=ab
 obtain ⟨v51,ac,J⟩:=dw.get (E.al.wk c) ae
 obtain ⟨a51,Lz,rfl⟩:=J.slice
 have aI:=aH _<|fg (d:= []) ae
 refine rg aa<|ao (aV fb)<|p (nc aa)<|p (fa fI aa)<|p (fa n9 aa)<|p (ld pM aa<|Wk.aM c O)<|p mv<|p (c6 (((fj s (F.aliases.length:Nat)).1 - 1:Nat):Int) aa aa<|bf ab ab)<|p (a7 yO aa aa ab<|aG.ok ((aU<|a8 Z c).2) fun h=>by rw [h] at ac; cases ac)<|p (ld lL aa<|aG.iD (aU<|a8 Z c).2 ac)<|e<|cl Cy (F1 (F.aliases.getD ((fj s (F.aliases.length:Nat)).1 - 1) []) _ _ _ J.dy.2 (fun h=>Tg.ry J (by simp) h) ab) aa fun aW a0 aF=> ?_
 obtain ⟨ag,aA⟩:=aF
 rw [Sm aI.2] at ag
 exact p aC<|aw<|C<|rt<|f2 aa aa aa<|⟨.inl ⟨_,_,aa,Pd A G ab,fk ag c.size⟩,c.trans aA⟩
theorem vP (B:Nat) (H:cj) (F:aB) (V:dU) (R:fT) (rows:List Rw) (ln:Nat) (seen:List Tx) (c:dI) (r:List Tx) (b1:Nat) (ar:Option Addr) (cr:Nat) (w:World) (E:cV w B H.fb H.mc F V) (C:cx w B H F R rows ln seen) (a1:jz F rows seen) (d5:c.kind=1∨c.kind=2) (av:Tg w b1 9 r.length (.slice ar r.length cr) (r.map str)) (bi:r.length≤70000∧∀ x∈r,x.length≤70000):
 ez au 201 (aX [.pointer (some ⟨H.rb,0,none⟩),.agg (my c).toArray,.slice ar r.length cr]) w (fun v w'=> ∃ q,iV F.kind F.aliases c ln r= .ok q∧q.line=ln∧(∃ vn,v= .agg (dG (q,vn)).toArray∧Tg w' B 95 q.next.length vn (q.next.map aT))∧Wk w w') (fun ak w'=> ∃ e,iV F.kind F.aliases c ln r= .error e∧ak=gZ 45 ln (e:Nat)∧Wk w w'):=by
 have d0:=av.dy
 have ea:=(cY.1 C.cells).1
 have d6:=C.lo.1
 refine ja func201 aa ntmps201 aa<|sq fun dO cA=>rg aa<|e<|iQ aa fun a0 ey d2 bw ch=>e<|al ou fun ad aY d3 aO ci=> ?_
 have aI:Wk w aY:=bw.md.trans aO.md
 have bP:=Wk.aM aI C.dX
 have ef:=bw.size
 have eh:=aO.size
 refine nl<|tn<|cA _ _ ?_
 refine eV (fun aD bY=>(r.length=4∨r.length=5)∧(bY=aY)∧(aD 0= .pointer (some ⟨H.rb,0,none⟩))∧(aD 2= .slice ar r.length cr)∧(aD 4= .pointer (some ⟨a0,0,none⟩))∧(aD 6= .pointer (some ⟨ad,0,none⟩))) ?_ ?_
 refine rg aa<|p (aH (.pointer<|some ⟨H.rb,0,none⟩) aa)<|p (aH (.slice ar r.length cr) aa)<|p (bM e8 aa aa)<|p (cg aa aa)<|p mv<|gs (t:=20) aa (fun da=> ?_) fun da=> ?_
 refine sk aa aa aa aa<|sk aa aa aa aa<|sk aa aa aa aa<|p (bN aa)<|eP aa (cU gj (gr H.rb ln _ 111 aY bP ay) aa fun v25 dE bd=> ?_) fun c w' A Y E=>by first | exact absurd A.2.1 ay | exact ⟨111,Gq ab (by have :=of_decide_eq_false A.2.1; omega),A.1,by rw [A.2.2]; exact aI⟩
 obtain ⟨rfl,bQ,rfl⟩:=bd
 exact nl<|tn<|⟨(.inl ab),aa,aa,aa,aa,aa⟩
 refine pg aa aa aa (aH (.slice ar r.length cr) aa)<|pg aa aa aa (bM e8 aa aa)<|pg aa aa aa (cg aa aa)<|p (bH aa)<|eP aa (cU gj (gr H.rb ln _ 111 aY bP ay) aa fun v25 dE bd=> ?_) fun c w' A Y E=>by first | exact absurd A.2.1 ay | exact ⟨111,Gq ab (by have :=of_decide_eq_false A.2.1; omega),A.1,by rw [A.2.2]; exact aI⟩
 obtain ⟨rfl,bQ,rfl⟩:=bd
 exact nl<|tn<|⟨(.inr<|by have :=of_decide_eq_true bQ; omega),aa,aa,aa,aa,aa⟩
 rintro aD bY ⟨hlen,ct,dc,de,df,dg⟩
 refine fx 0 dc<|fx 2 de<|fx 4 df<|fx 6 dg ?_
 subst ct
 have aV:=aO.md.B ch
 refine sq fun dQ cC=>rg aa<|p (fa sU aa)<|p (ld bR aa<|(aV.aM 1).trans aa)<|p (fa y8 aa)<|p (ld bW aa<|(aV.aM 0).trans aa)<|p (fa En aa)<|p (ld oJ aa<|(aV.aM 2).trans aa)<|p (c7 (ps:= [(0,.int .i64 (c.kind:Nat)),(1,aT c.flag),(2,.bool c.fX),(5,str [46])]) (L:= [.int .i64 (c.kind:Nat),aT c.flag,.bool c.fX,.string ⟨⟨[]⟩⟩,.string ⟨⟨[]⟩⟩,str [46],.slice none 0 0]) AE aa<|aa)<|e<|al ou fun G eB d4 aP ck=> ?_
 have ej:=aP.size
 refine e<|cG mA aa aa aa aa (ck) (by simp) fun bZ aK ce=> ?_
 have aJ:Wk w bZ:=(aI.trans aP.md).trans' aK fun k hk h=>by omega
 have c0:=aK.B (aP.md.B aV) fun h=>by omega
 have c2:=aK.B (aP.md.B ci) fun h=>by omega
 have ek:=aK.size
 have bz:=(av.wk aJ).dy
 have d7:(r.getD 2 []).length≤70000:=bi.2 _<|fg ab
 have d8:(r.getD 3 []).length≤70000:=bi.2 _<|fg ab
 refine nl<|tn<|cC _ _<|sq fun dR cE=>rg aa<|p (aH (.pointer<|some ⟨H.rb,0,none⟩) aa)<|p (aH (.slice ar r.length cr) aa)<|p (a7 c8 aa aa ab<|aG.ok (bz.2)<|cX ab)<|p (ld cB aa<|dt.get (i:=2) bz.2 ab)<|eP aa (cU Cu (F6 H.rb ln (r.getD 2 []) bZ (Wk.aM aJ C.dX) ab) aa fun v37 ex cJ=> ?_) fun c w' A Y E=>by obtain ⟨e,he,h,h2⟩:=A; exact ⟨e,by rw [oZ hlen,he],h,aJ.trans h2⟩
 obtain ⟨stx,cD,rfl,an⟩:=cJ
 refine p (fa oR aa)<|e<|st oP aa aa (aa) (an.B ce) (by simp) fun b0 aL cf=> ?_
 have br:bE b0.heap G [.int .i64 (c.kind:Nat),aT c.flag,.bool c.fX,str stx,str [],str [46],.slice none 0 0]:=cf
 have bs:Wk w b0:=(aJ.trans an).trans' aL fun k hk h=>by omega
 have ee:=an.size
 have bG:=aL.B (an.B c0) fun h=>by omega
 have bI:=aL.B (an.B c2) fun h=>by omega
 have bx:=(av.wk bs).dy
 have ed:=aL.size
 refine nl<|tn<|cE _ _<|sq fun dS cF=>rg aa<|p (aH (.slice ar r.length cr) aa)<|p (a7 c8 aa aa ab<|aG.ok (bx.2)<|cX ab)<|p (ld cB aa<|dt.get (i:=3) bx.2 ab)<|e<|cl yc (A2 (r.getD 3 []) _ ab) aa fun eq dF cL=> ?_
 obtain ⟨rfl,I⟩:=cL
 have ag:=bs.trans I
 have eb:=wX<|r.getD 3 []
 refine p mv<|p (xt aa aa)<|p (xt aa aa)<|p (xt aa aa)<|p (xt aa aa)<|p aC<|p aC<|p aC<|p aC<|nl<|tn<|cF _ _<|sq fun dT cH=>rg aa<|p (aH (.pointer<|some ⟨H.rb,0,none⟩) aa)<|p mv<|eP aa (cU nb (nq H.rb ln ((bA<|r.getD 3 []).2.2.2:Nat) dF<|Wk.aM ag C.dX) aa fun v50 dH cM=> ?_) fun c w' A Y E=>⟨_,by rw [oZ hlen,cD,Jh (show (bA<|r.getD 3 []).2.2.2≠0 by have :=A.2.1; omega)],A.1,by rw [A.2.2]; exact ag⟩
 obtain ⟨rfl,aW,rfl⟩:=cM
 have aW:(bA<|r.getD 3 []).2.2.2=0:=ab
 refine nl<|tn<|cH _ _ ?_
 refine eV (fun Z aj=> ∃ (ac:Tx),(kF (bA<|r.getD 3 [])= .ok ac)∧(bE aj.heap G [.int .i64 (c.kind:Nat),aT c.flag,.bool c.fX,str stx,str ac,str [46],.slice none 0 0])∧(bE aj.heap a0<|my c)∧(∃ L,L.length=7∧bE aj.heap ad L)∧(Wk w aj)∧(Z 0= .pointer (some ⟨H.rb,0,none⟩))∧(Z 2= .slice ar r.length cr)∧(Z 4= .pointer (some ⟨a0,0,none⟩))∧(Z 6= .pointer (some ⟨ad,0,none⟩))∧(Z 7= .pointer (some ⟨G,0,none⟩))∧(Z 9=str (bA<|r.getD 3 []).2.1)∧(Z 10= .bool (bA<|r.getD 3 []).2.2.1)) ?_ ?_
 refine sq fun aZ ae=>rg aa<|p mv<|p (rv aa aa)<|nl<|tn<|ae _ _<|cd aa (fun aS=> ?_) fun aS=> ?_
 refine rg aa<|p (aH (.pointer<|some ⟨H.rb,0,none⟩) aa)<|p mv<|eP aa (cU CB (Ge H.rb ln (bA<|r.getD 3 []).1 dH (Wk.aM ag C.dX) ab) aa fun v55 eA cN=> ?_) fun c w' A Y E=>⟨_,by rw [oZ hlen,cD,Ji aW aS A.2.1],A.1,ag.trans A.2.2⟩
 obtain ⟨rfl,dz,ao⟩:=cN
 refine p (fa sQ aa)<|e<|st oP aa aa (aa) (Wk.B (I.trans ao) br) (by simp) fun dM bc cm=> ?_
 have cu:Wk w dM:=(ag.trans ao).trans' bc fun k hk h=>by omega
 have eg:=(I.trans ao).size
 exact nl<|tn<|⟨(bA<|r.getD 3 []).1,(Jj aW aS dz),cm,(bc.B (Wk.B (I.trans ao) bG) fun h=>by omega),(⟨_,aa,bc.B (Wk.B (I.trans ao) bI) fun h=>by omega⟩),cu,aa,aa,aa,aa,aa,aa,aa⟩
 exact aQ<|tn<|⟨[],(Jl aW<|l6.1 aS),(I.B br),(I.B bG),(⟨_,aa,I.B bI⟩),ag,aa,aa,aa,aa,aa,aa,aa⟩
 rintro Z aj ⟨ac,aw,aF,c1,bJ,J,dh,dj,dk,dl,dn,dp,di⟩
 refine fx 0 dh<|fx 2 dj<|fx 4 dk<|fx 6 dl<|fx 7 dn<|fx 9 dp<|fx 10 di ?_
 skip
 refine eV (fun aE O=> ∃ (nx:List Nat) (vn:Value),(mG F.kind F.aliases c.kind (bA<|r.getD 3 [])= .ok nx)∧(bE O.heap G [.int .i64 (c.kind:Nat),aT c.flag,.bool c.fX,str stx,str ac,str [46],vn])∧(Tg O (G+1) 95 nx.length vn<|nx.map aT)∧(∃ L,L.length=7∧bE O.heap ad L)∧(Wk w O)∧(aE 0= .pointer (some ⟨H.rb,0,none⟩))∧(aE 2= .slice ar r.length cr)∧(aE 6= .pointer (some ⟨ad,0,none⟩))∧(aE 7= .pointer (some ⟨G,0,none⟩))) ?_ ?_
 refine sq fun aZ ae=>rg aa<|p (aH (.bool (bA<|r.getD 3 []).2.2.1) aa)<|nl<|tn<|ae _ _<|cb aa (fun ax=> ?_) fun ax=> ?_
 skip
 refine sq fun b2 a5=>rg aa<|p (aH (.pointer<|some ⟨H.rb,0,none⟩) aa)<|p (fa sU aa)<|p (ld bR aa<|(c1.aM 1).trans aa)<|p (cg aa aa)<|eP aa (cU gj (gr H.rb ln _ 118 aj (Wk.aM J C.dX) ay) aa fun er bV cO=> ?_) fun ak w' A Y E=>by have dZ:=of_decide_eq_false A.2.1; exact ⟨118,by rw [oZ hlen,cD]; simp only; rw [aw]; simp only; rw [R5 ax ab],A.1,by rw [A.2.2]; exact J⟩
 obtain ⟨rfl,bS,rfl⟩:=cO
 have bS:=of_decide_eq_true bS
 refine nl<|tn<|a5 _ _<|sq fun b3 a6=>rg aa<|p (aH (.pointer<|some ⟨H.rb,0,none⟩) aa)<|p (nc aa)<|p (fa fY aa)<|p (ld eT aa<|Wk.aM J<|(bj C.cells).trans aa)<|p (aH (str (bA<|r.getD 3 []).2.1) aa)<|e<|cl Cl (DU B H.fb H.mc F V (bA<|r.getD 3 []).2.1 _ (E.wk J) a1.kd a1.al (by have :=a1.len; omega)<|by have :=wX (r.getD 3 []); omega) aa fun dC bX cP=> ?_
 obtain ⟨c6,ah⟩:=cP
 obtain ⟨bo,bq,rfl,bL⟩:∃ a,∃ e:Nat,dC= .tuple #[a,.int .i64 (e:Nat)]∧((e=0∧∃ l,fM F.kind F.aliases (bA<|r.getD 3 []).2.1= .ok l∧bm bX bV.heap.size 95 1 a l.length (l.map aT))∨(e≠0∧fM F.kind F.aliases (bA<|r.getD 3 []).2.1= .error e)):=by
  rcases c6 with ⟨a,l,h1,h2,h3⟩ | ⟨a,e,h1,h2,h3⟩
  exact ⟨a,0,h1,.inl ⟨aa,l,h2,h3⟩⟩
  exact ⟨a,e,h1,.inr ⟨h2,h3⟩⟩
 refine p mv<|p (xt aa aa)<|p (xt aa aa)<|p aC<|p aC<|nl<|tn<|a6 _ _<|sq fun b4 a8=>rg aa<|p (aH (.pointer<|some ⟨H.rb,0,none⟩) aa)<|p mv ?_
 refine eP aa (cU nb (nq H.rb ln (bq:Nat) bX<|Wk.aM (J.trans ah) C.dX) aa fun es dJ cR=> ?_) (fun ak w' A Y E=>by
  rcases bL with ⟨h,_⟩ | ⟨h,h1⟩
  exact absurd ab A.2.1
  exact ⟨bq,by rw [oZ hlen,cD]; simp only; rw [aw]; simp only; rw [FL ax ab,h1],A.1,by rw [A.2.2]; exact J.trans ah⟩)
 obtain ⟨rfl,ec,rfl⟩:=cR
 obtain ⟨nx,az,bf⟩:∃ l,fM F.kind F.aliases (bA<|r.getD 3 []).2.1= .ok l∧bm dJ bV.heap.size 95 1 bo l.length (l.map aT):=by
  rcases bL with ⟨_,h⟩ | ⟨h,_⟩
  exact h
  exact absurd ab h
 refine nl<|tn<|a8 _ _<|rg aa<|p mv<|p (fa oS aa)<|e<|st qW aa aa (eQ bf) (ah.B aF) (by simp) fun dK ba b7=> ?_
 have co:Wk w dK:=(J.trans ah).trans' ba fun k hk h=>by omega
 have ei:=ah.size
 exact nl<|tn<|⟨nx,bo,(by rw [FL ax ab]; exact az),b7,((Tg.kg<|cz bf ba fun k hk h=>by have :=dd bf hk; have :=aF.lt; omega).mono aF.lt),(by obtain ⟨L,a9,aR⟩:=bJ; exact ⟨L,a9,ba.B (ah.B aR) fun h=>by omega⟩),co,aa,aa,aa,aa⟩
 exact aQ<|tn<|⟨[],.slice none 0 0,(R6<|by simpa using ax),aF,(⟨none,0,aa,cw _,.inl aa⟩),bJ,J,aa,aa,aa,aa⟩
 rintro aE O ⟨nx,vn,az,a2,bF,bK,aq,dq,dr,ds,du⟩
 refine fx 0 dq<|fx 2 dr<|fx 6 ds<|fx 7 du ?_
 refine eV (fun bn aA=> ∃ (am:Tx),(lP r= .ok am)∧(bE aA.heap G [.int .i64 (c.kind:Nat),aT c.flag,.bool c.fX,str stx,str ac,str am,vn])∧(Tg aA (G+1) 95 nx.length vn<|nx.map aT)∧(∃ L,L.length=7∧bE aA.heap ad L)∧(Wk w aA)∧(bn 6= .pointer (some ⟨ad,0,none⟩))∧(bn 7= .pointer (some ⟨G,0,none⟩))) ?_ ?_
 refine sq fun aZ ae=>rg aa<|p (aH (.slice ar r.length cr) aa)<|p (bM e8 aa aa)<|p (cg aa aa)<|nl<|tn<|ae _ _<|cd aa (fun c5=> ?_) fun c5=> ?_
 have bh:r.length=5:=ab
 have d9:(r.getD 4 []).length≤70000:=bi.2 _<|fg ab
 have bB:=(av.wk aq).dy
 refine sq fun b2 a5=>rg aa<|p (aH (.pointer<|some ⟨H.rb,0,none⟩) aa)<|p (aH (.slice ar r.length cr) aa)<|p (a7 c8 aa aa ab<|aG.ok (bB.2)<|cX ab)<|p (ld cB aa<|dt.get (i:=4) bB.2 ab)<|eP aa (cU yf (Ah H.rb ln (r.getD 4 []) O (Wk.aM aq C.dX) ab) aa fun et eC cS=> ?_) fun ak w' A Y E=>⟨21,by rw [oZ hlen,cD]; simp only; rw [aw]; simp only; rw [az]; simp only; rw [MV bh A.2.1],A.1,aq.trans A.2.2⟩
 obtain ⟨rfl,bT,a4⟩:=cS
 have bt:=aq.trans a4
 have bC:=(av.wk bt).dy
 refine nl<|tn<|a5 _ _<|sq fun b3 a6=>rg aa<|p (aH (.slice ar r.length cr) aa)<|p (a7 c8 aa aa ab<|aG.ok (bC.2)<|cX ab)<|p (ld cB aa<|dt.get (i:=4) bC.2 ab)<|e<|cl Co (Dh (r.getD 4 []) _ ab) aa fun eu eD cT=> ?_
 obtain ⟨⟨dW,rfl,bg⟩,hE89⟩:=cT
 obtain ⟨dA,dB,rfl⟩:=cQ bg
 have bu:=bt.trans hE89
 refine p mv<|p (xt aa aa)<|p (xt aa aa)<|e<|al wY fun dY dD d1 aN b8=> ?_
 have cp:=bu.trans aN.md
 refine e<|cG oO aa aa aa aa (b8) (by simp) fun bl ai b9=> ?_
 have a3:Wk w bl:=cp.trans' ai fun k hk h=>by have :=bu.size; omega
 have bk:Wk O dD:=(a4.trans hE89).trans aN.md
 have em:=a4.size
 have en:=hE89.size
 have eo:=aN.size
 have ep:=ai.size
 have dx:Wk O bl:=bk.trans' ai fun k hk h=>by omega
 refine p aC<|nl<|tn<|a6 _ _<|sq fun b4 a8=>rg aa<|p (aH (.pointer<|some ⟨H.rb,0,none⟩) aa)<|p mv<|eP aa (cU nb (nq H.rb ln ((dP<|r.getD 4 []).2:Nat) bl<|Wk.aM a3 C.dX) aa fun ev eE cW=> ?_) fun ak w' A Y E=>⟨_,by rw [oZ hlen,cD]; simp only; rw [aw]; simp only; rw [az]; simp only; rw [MW bh bT (by have :=A.2.1; omega)],A.1,by rw [A.2.2]; exact a3⟩
 obtain ⟨rfl,bU,rfl⟩:=cW
 have bU:(dP<|r.getD 4 []).2=0:=ab
 refine nl<|tn<|a8 _ _<|rg aa<|p (cK lK aa (aa) fun j bO=>b9.bp j)<|e<|cl KW (S8 (dP<|r.getD 4 []).1 dA dB _ (aG.md (aG.wk (aU bg).2 aN.md) ai fun db h=>by have :=SD bg db; omega)<|by have :=M8 (r.getD 4 []); omega) aa fun ew eF cZ=> ?_
 obtain ⟨rfl,ap⟩:=cZ
 have cv:=a3.trans ap
 have el:=ap.size
 refine p (fa Ej aa)<|e<|st oP aa aa (aa) (ap.B<|ai.B (bk.B a2) fun h=>by have :=a2.lt; omega) (by simp) fun dL bb ca=> ?_
 have cq:Wk w dL:=cv.trans' bb fun k hk h=>by omega
 exact nl<|tn<|⟨o0 (dP<|r.getD 4 []).1,(MX bh bT bU),ca,(Tg.FA (Tg.wk bF<|dx.trans ap) bb fun k hk=>by omega),(by obtain ⟨L,a9,aR⟩:=bK; exact ⟨L,a9,bb.B (ap.B<|ai.B (bk.B aR) fun h=>by have :=aR.lt; omega) fun h=>by omega⟩),cq,aa,aa⟩
 exact aQ<|tn<|⟨[46],(MZ ab),a2,bF,bK,aq,aa,aa⟩
 rintro bn aA ⟨am,c9,cn,bD,c3,cy,dv,dw⟩
 refine fx 6 dv<|fx 7 dw ?_
 obtain ⟨dV,cI,c4⟩:=c3
 obtain ⟨b5,b6,rfl⟩:=bD.slice
 exact sq fun aZ ae=>rg aa<|p (cK j0 aa (aa) fun j bO=>cn.bp j)<|e<|cG mA aa aa aa aa (c4) (by rw [cI]; decide) fun eG bv cc=>nl<|tn<|ae _ _<|rt<|iG<|sL aa (dN (cs:=dG (⟨c.kind,c.flag,c.fX,stx,ac,am,nx,ln⟩,.slice b5 nx.length b6)) aa j0 aa fun j bO=>by rw [cc.bp j,kX ab,eM]; rfl)<|⟨⟨c.kind,c.flag,c.fX,stx,ac,am,nx,ln⟩,by rw [oZ hlen,cD]; simp only; rw [aw]; simp only; rw [az]; simp only; rw [c9],aa,⟨_,aa,(Tg.FA bD bv fun k hk=>by have :=aO.size; omega).mono ab⟩,cy.trans' bv fun k hk h=>by omega⟩
end Go.Hb.eH
end
section
namespace Go.Hb.mX
open Go.Hb.eH Go.Hb.oI
theorem cV.JK {w E J:World} {B fb mc:Nat} {F:aB} {V:dU} {v:Value} {x:Tx×Tx} (h:cV w B fb mc F V) (hm:Md (fun k=>V.v9.ownBlock=some k) w E) (Z:bm E B 189 2 v (F.dj++ [x]).length (mI<|F.dj++ [x])) (c:Md (fun k=>k=fb) E J) (aa:J.heap[fb]? =some (.cells (nk {F with dj:=F.dj++ [x]} {V with v9:=v} mc).toArray 164 (0,0))):cV J B fb mc {F with dj:=F.dj++ [x]} {V with v9:=v} :=by
 have A:TF w [191] (fun k=>V.v9.ownBlock=some k):=TF.own h.o9 ay
 have I:=hm.jH A h.cells ay
 have G:TF E [166] (fun k=>k=fb):=TF.eq (dO I) ay
 have O:∀ k,V.v9.ownBlock=some k→∀ cur z,w.heap[k]?≠some (.cells cur 95 z):=jd h.o9 ay
 have Y:∀ k,k=fb→∀ cur z,E.heap[k]?≠some (.cells cur 95 z):=gW I ay
 obtain ⟨f,C,ab⟩:=h.cm
 have ac:=dD<|C.md hm<|A.no (dD C) ay
 exact ⟨aa,cz Z c (fun k hk C=>dS Z I ay<|C ▸ hk),c5 (c5 h.gG hm A ay) c G ay,(h.al.md hm O).md c Y,c5 (c5 h.fN hm A ay) c G ay,c5 (c5 h.ej hm A ay) c G ay,(h.nx.md hm O).md c Y,⟨f,(C.md hm<|A.no (dD C) ay).md c (G.no ac ay),ab⟩,h.lo,h.js⟩
theorem cV.JH {w E Y:World} {B fb mc:Nat} {F:aB} {V:dU} {v:Value} {x:List Nat} {vx:Value} (h:cV w B fb mc F V) (ad:Tg w B 95 x.length vx (x.map aT)) (hm:Md (fun k=>V.v10.ownBlock=some k) w E) (Z:bm E B 51 1 v (F.aliases++ [x]).length (V.sa++ [vx])) (c:Md (fun k=>k=fb) E Y) (aa:Y.heap[fb]? =some (.cells (nk {F with aliases:=F.aliases++ [x]} {V with v10:=v,sa:=V.sa++ [vx]} mc).toArray 164 (0,0))):cV Y B fb mc {F with aliases:=F.aliases++ [x]} {V with v10:=v,sa:=V.sa++ [vx]} :=by
 have A:TF w [53] (fun k=>V.v10.ownBlock=some k):=TF.own h.gG ay
 have I:=hm.jH A h.cells ay
 have G:TF E [166] (fun k=>k=fb):=TF.eq (dO I) ay
 have J:∀ k,V.v10.ownBlock=some k→∀ cur z,w.heap[k]?≠some (.cells cur 95 z):=jd h.gG ay
 have O:∀ k,k=fb→∀ cur z,E.heap[k]?≠some (.cells cur 95 z):=gW I ay
 obtain ⟨f,C,ab⟩:=h.cm
 have ac:=dD<|C.md hm<|A.no (dD C) ay
 exact ⟨aa,c5 (c5 h.o9 hm A ay) c G ay,cz Z c (fun k hk C=>dS Z I ay<|C ▸ hk),((h.al.md hm J).md c O).snoc ((ad.md hm J).md c O),c5 (c5 h.fN hm A ay) c G ay,c5 (c5 h.ej hm A ay) c G ay,(h.nx.md hm J).md c O,⟨f,(C.md hm<|A.no (dD C) ay).md c (G.no ac ay),ab⟩,h.lo,h.js⟩
theorem cV.JJ {w E Y:World} {B fb mc:Nat} {F:aB} {V:dU} {v:Value} {x:cC} {vx:Value} (h:cV w B fb mc F V) (ad:Tg w B 95 x.next.length vx (x.next.map aT)) (hm:Md (fun k=>V.v12.ownBlock=some k) w E) (Z:bm E B 134 7 v (F.rules++ [x]).length (fP<|(F.rules++ [x]).zip<|V.rn++ [vx])) (c:Md (fun k=>k=fb) E Y) (aa:Y.heap[fb]? =some (.cells (nk {F with rules:=F.rules++ [x]} {V with v12:=v,rn:=V.rn++ [vx]} mc).toArray 164 (0,0))):cV Y B fb mc {F with rules:=F.rules++ [x]} {V with v12:=v,rn:=V.rn++ [vx]} :=by
 have A:TF w [136] (fun k=>V.v12.ownBlock=some k):=TF.own h.ej ay
 have I:=hm.jH A h.cells ay
 have G:TF E [166] (fun k=>k=fb):=TF.eq (dO I) ay
 have J:∀ k,V.v12.ownBlock=some k→∀ cur z,w.heap[k]?≠some (.cells cur 95 z):=jd h.ej ay
 have O:∀ k,k=fb→∀ cur z,E.heap[k]?≠some (.cells cur 95 z):=gW I ay
 obtain ⟨f,C,ab⟩:=h.cm
 have ac:=dD<|C.md hm<|A.no (dD C) ay
 exact ⟨aa,c5 (c5 h.o9 hm A ay) c G ay,c5 (c5 h.gG hm A ay) c G ay,(h.al.md hm J).md c O,c5 (c5 h.fN hm A ay) c G ay,cz Z c (fun k hk C=>dS Z I ay<|C ▸ hk),(by rw [gA]; exact ((h.nx.md hm J).md c O).snoc<|(ad.md hm J).md c O),⟨f,(C.md hm<|A.no (dD C) ay).md c (G.no ac ay),ab⟩,h.lo,h.js⟩
theorem cx.own {w w':World} {B:Nat} {H:cj} {F:aB} {R:fT} {rows:List Rw} {ln:Nat} {seen:List Tx} {B' e s n:Nat} {v:Value} {xs:List Value} (h:cx w B H F R rows ln seen) (G:bm w B' e s v n xs) (hm:Md (fun k=>v.ownBlock=some k) w w') (A:([e+2].contains 169 || [e+2].contains 183 || [e+2].contains 11 || [e+2].contains 5)=false):cx w' B H F R rows ln seen:=by
 have c:TF w [e+2] (fun k=>v.ownBlock=some k):=TF.own G<|by simp
 obtain ⟨f,C,_⟩:=h.sm
 obtain ⟨g,E,_⟩:=h.tm
 exact h.md hm c A (c.no (dD C)<|by simp)<|c.no (dD E)<|by simp
theorem cx.vb {w w':World} {B:Nat} {H:cj} {F:aB} {R:fT} {rows:List Rw} {ln:Nat} {seen:List Tx} {cs:Array Value} {z:Nat×Nat} (h:cx w B H F R rows ln seen) (A:w.heap[H.fb]? =some (.cells cs 164 z)) (hm:Md (fun k=>k=H.fb) w w'):cx w' B H F R rows ln seen:=by
 have c:TF w [166] (fun k=>k=H.fb):=TF.eq (dO A) ay
 obtain ⟨f,C,G⟩:=h.sm
 obtain ⟨g,E,I⟩:=h.tm
 exact h.md hm c ay (c.no (dD C) ay)<|c.no (dD E) ay
theorem Tg.z1 {w:World} {b e n:Nat} {L:List Value} {z:Nat×Nat} (h:w.heap[b]? =some (.cells L.toArray e z)) (hn:n=L.length):Tg w b e n (.slice (some ⟨b,0,none⟩) n n) L:=⟨_,_,rfl,cw _,.inr ⟨b,_,_,rfl,cw _,h,fun j u hu=>by simpa using hu⟩⟩
theorem jz.qZ {F:aB} {q:Rw} {rest:List Rw} {seen:List Tx} (h:jz F (q::rest) seen):jz F rest seen:=⟨by have :=h.len; simp only [bU] at this; omega,by have :=h.sl; simp only [bU] at this; omega,fun c h2=>h.row c (List.mem_cons_of_mem _ h2),h.kd,h.al⟩
theorem Tv {eof ln e:Nat} {F:aB} {rows:List Rw} {r:List Tx} (h:ei (r.getD 1 []) 256= .error e):kh eof F rows ln r= .error (ln,e):=by unfold kh; rw [h]
theorem tj {eof ln n:Nat} {F:aB} {rows:List Rw} {r:List Tx} {e:Nat×Nat} (h:ei (r.getD 1 []) 256= .ok n) (h1:group [jb] lW eof n rows= .error e):kh eof F rows ln r= .error e:=by unfold kh; rw [h]; simp only; rw [h1]
theorem Tw {eof ln n:Nat} {F:aB} {rows:List Rw} {r:List Tx} {q:List (Tx×Tx)×List Rw} (h:ei (r.getD 1 []) 256= .ok n) (h1:group [jb] lW eof n rows= .ok q):kh eof F rows ln r= .ok ({F with dj:=F.dj++q.1},q.2):=by unfold kh; rw [h]; simp only; rw [h1]
theorem zW {s:Tx} {most:Int} {n:Nat} (h:ei s most= .ok n):(n:Int)≤most:=by
 unfold ei at h
 split at h
 · cases h
 · rename_i c; cases h; exact vF s most<|l6.1 c
theorem Jw {eof ln:Nat} {F:aB} {hs:List Tx} {rows:List Rw} {r:List Tx} (h:iK∈hs∨du∈hs):jG eof F hs rows ln r= .error (ln,113):=if_pos h
theorem Jx {eof ln e:Nat} {F:aB} {hs:List Tx} {rows:List Rw} {r:List Tx} (c:¬(iK∈hs∨du∈hs)) (h:ei (r.getD 1 []) 1024= .error e):jG eof F hs rows ln r= .error (ln,e):=by unfold jG; rw [if_neg c,h]
theorem ux {eof ln n:Nat} {F:aB} {hs:List Tx} {rows:List Rw} {r:List Tx} {e:Nat×Nat} (c:¬(iK∈hs∨du∈hs)) (h:ei (r.getD 1 []) 1024= .ok n) (h1:group [iH] (lM F.kind) eof n rows= .error e):jG eof F hs rows ln r= .error e:=by unfold jG; rw [if_neg c,h]; simp only; rw [h1]
theorem Jy {eof ln n:Nat} {F:aB} {hs:List Tx} {rows:List Rw} {r:List Tx} {q:List (List Nat)×List Rw} (c:¬(iK∈hs∨du∈hs)) (h:ei (r.getD 1 []) 1024= .ok n) (h1:group [iH] (lM F.kind) eof n rows= .ok q):jG eof F hs rows ln r= .ok ({F with aliases:=F.aliases++q.1},q.2):=by unfold jG; rw [if_neg c,h]; simp only; rw [h1]
theorem Js {kind ln:Nat} {r:List Tx} (h:r.length≠2):lM kind ln r= .error 111:=if_pos h
theorem BU {kind ln:Nat} {r:List Tx} (h:r.length=2):lM kind ln r=kq kind (r.getD 1 []):=if_neg ab
theorem Er {kind:Nat} {s:Tx} (h:(eO kind s).2=0):(eO kind s).1.length≤64∧(eO kind s).1.Pairwise (· < ·):=by
 unfold eO at h ⊢
 split
 · simp
 · split
   · simp
   · split
     · simp
     · rename_i h3
       exact ⟨by have :=Sl ((ee kind s).map<|eD kind); rw [eX] at this; exact dZ this ab,zZ _⟩
theorem Tq {ln:Nat} {r:List Tx} (h:r.length≠3):lW ln r= .error 111:=if_pos h
theorem Tr {ln e:Nat} {r:List Tx} (h:r.length=3) (h1:fJ false (r.getD 1 [])= .error e):lW ln r= .error e:=by unfold lW; rw [if_neg ab,h1]
theorem Ts {ln e:Nat} {r:List Tx} {a:Tx} (h:r.length=3) (h1:fJ false (r.getD 1 [])= .ok a) (h2:fJ true (r.getD 2 [])= .error e):lW ln r= .error e:=by unfold lW; rw [if_neg ab,h1]; simp only; rw [h2]
theorem Tt {ln:Nat} {r:List Tx} {a b:Tx} (h:r.length=3) (h1:fJ false (r.getD 1 [])= .ok a) (h2:fJ true (r.getD 2 [])= .ok b):lW ln r= .ok (a,b):=by unfold lW; rw [if_neg ab,h1]; simp only; rw [h2]
theorem Ty (B:Nat) (H:cj) (F:aB) (rows:List Rw) (ln:Nat) (seen:List Tx) (r:List Tx) (bg:Nat) (ar:Option Addr) (cr:Nat) (w:World) (I:St w B H F rows ln seen) (bG:Tg w bg 9 r.length (.slice ar r.length cr) (r.map str)) (ck:r.length=2) (bP:∀ x∈r,x.length≤70000):
 ez au 132 (aX [.pointer (some ⟨H.rb,0,none⟩),.slice ar r.length cr]) w (il B H seen (kh H.eof F rows ln r) w) (ik B H (kh H.eof F rows ln r) w):=by
 obtain ⟨V,R,ai,aP,aY⟩:=I
 have a9:=bG.dy
 have cl:(r.getD 1 []).length≤70000:=bP _<|fg ab
 have ch:=aP.lo
 have cb:=aY.len
 refine ja func132 aa ntmps132 aa<|sq fun b0 bq=>rg aa<|p (aH (.pointer<|some ⟨H.rb,0,none⟩) aa)<|p (aH (.slice ar r.length cr) aa)<|p (a7 c8 aa aa ab<|aG.ok (a9.2)<|cX ab)<|p (ld cB aa<|dt.get (i:=1) a9.2 ab)<|eP aa (cU uJ (vL H.rb ln (r.getD 1 []) 256 w aP.dX ab ab) aa fun v10 cp bA=> ?_) fun c w' E aI ai=>by obtain ⟨e,he,h,h2⟩:=E; exact ⟨ln,e,Tv he,h,Wk.mw h2⟩
 obtain ⟨n,ac,rfl,aK⟩:=bA
 have ci:=zW ac
 refine p mv<|nl<|tn<|bq _ _<|aE<|lp (fun aW aJ av=> ∃ (i:Nat) (xs:List (Tx×Tx)) (rows':List Rw) (aF:Nat) (C:dU) (R':fT),(i≤n)∧(gM [jb] lW H.eof (group [jb] lW H.eof n rows) xs (n - i) rows')∧(xs.length=i)∧(cV av B H.fb H.mc {F with dj:=F.dj++xs} C)∧(cx av B H F R' rows' aF seen)∧(jz {F with dj:=F.dj++xs} rows' seen)∧(ew B H w av)∧(aJ 0= .pointer (some ⟨H.rb,0,none⟩))∧(aJ 10= .int .i64 (n:Nat))∧(aJ 11= .int .i64 (i:Nat))∧(n - i=aW)) _ ⟨0,[],rows,ln,V,R,ab,gM.start,aa,(by rw [eM]; exact ai.wk aK),(aP.wk aK),(by rw [eM]; exact aY),(Wk.mw aK),aa,aa,aa,aa⟩ ?_
 rintro aW aJ av ⟨i,xs,rows',aF,C,R',hi,J,bV,aZ,ao,am,a0,bQ,bR,bS,rfl⟩
 refine fx 0 bQ<|fx 10 bR<|fx 11 bS<|sq fun b1 br=>rg aa<|p (lt aa aa)<|nl<|tn<|br _ _<|sq fun b2 bs=>cd aa (fun bI=> ?_) fun bI=> ?_
 refine aQ<|tn<|bs _ _<|sq fun b3 bt=>aE<|sq fun b4 bu=>rg aa<|p (aH (.pointer<|some ⟨H.rb,0,none⟩) aa)<|e<|pQ (L:= [str jb]) jP aa aa aa aa fun bi bd b9 bz bk=> ?_
 have ah:Wk av bd:=bz.md
 have a1:=a0.trans<|Wk.mw ah
 refine eP aa (cU yh (zl B H F R' rows' aF seen [jb] bi 1 _ _ bd (ao.wk ah) (Tg.z1 bk aa) aa ay fun q bO=>(am.row q bO).2.1) aa fun cn bW bB=> ?_) (fun c w' E aI ai=>by
  obtain ⟨h1,h2⟩:=E
  have hm:=a1.trans<|ew.rb (ao.wk ah) h2
  rcases h1 with ⟨rfl,h3⟩ | ⟨ak,Z,rest,rfl,h4,h3⟩
  exact ⟨_,_,tj ac (J.ends ab),h3,hm⟩
  exact ⟨_,_,tj ac (J.other ab h4),h3,hm⟩)
 obtain ⟨ak,Z,rest,rfl,aD,⟨bh,aR⟩,hT15,hM15⟩:=bB
 obtain ⟨b7,pS,rfl⟩:=hT15.slice
 have bp:=(aZ.wk ah).rb (ao.wk ah) hM15
 have aO:=a1.trans<|ew.rb (ao.wk ah) hM15
 have bc:Z≠[]∧Z.length≤70000∧∀ x∈Z,x.length≤70000:=am.row (ak,Z)<|by simp
 have aw:=jz.qZ am
 have a6:=hT15.dy
 have bH:=am.len
 simp only [bU,bK] at bH
 refine p aC<|nl<|tn<|bu _ _<|sq fun b5 bv=>rg aa<|p (aH (.pointer<|some ⟨H.rb,0,none⟩) aa)<|p mv<|p (bM e8 aa aa)<|p (cg aa aa)<|eP aa (cU gj (gr H.rb ak _ 111 bW aR.dX ay) aa fun v20 bX bC=> ?_) fun c w' E aI ai=>⟨_,_,tj ac (J.bad ab aD<|Tq<|by have :=of_decide_eq_false E.2.1; omega),E.1,by rw [E.2.2]; exact aO⟩
 obtain ⟨rfl,bT,rfl⟩:=bC
 have aV:Z.length=3:=by have :=of_decide_eq_true bT; omega
 have ce:=bc.2.2 _<|fg (d:= []) (i:=1) ab
 have cf:=bc.2.2 _<|fg (d:= []) (i:=2) ab
 refine nl<|tn<|bv _ _<|sq fun b6 bw=>rg aa<|p (aH (.pointer<|some ⟨H.rb,0,none⟩) aa)<|p mv<|p (a7 c8 aa aa ab<|aG.ok (a6.2)<|cX ab)<|p (ld cB aa<|dt.get (i:=1) a6.2 ab)<|eP aa (cU Ct (F8 H.rb ak (Z.getD 1 []) bX aR.dX ab) aa fun v25 ae bD=> ?_) fun c w' E aI ai=>by obtain ⟨e,he,h,h2⟩:=E; exact ⟨_,_,tj ac (J.bad ab aD<|Tr aV he),h,aO.trans<|Wk.mw h2⟩
 obtain ⟨O,bb,rfl,ax⟩:=bD
 have aj:=bp.wk ax
 have aq:=aR.wk ax
 have a8:=hT15.wk ax
 have a2:=aO.trans<|Wk.mw ax
 have aU:¬(C.v9.ownBlock=some H.rb):=dS aj.o9 aq.cells ay
 have bJ:¬(C.v9.ownBlock=some H.fb):=dS aj.o9 aj.cells ay
 refine p aC<|nl<|tn<|bw _ _ ?_
 have A:(fun w'=>Md (fun k=>C.v9.ownBlock=some k) ae w') ae.drew:=(Md.refl _ _).drew
 refine eF (fun w'=>Md (fun k=>C.v9.ownBlock=some k) ae w') 24 aa wide A<|cy 0 aa ag (fun _=>aH (.pointer<|some ⟨H.rb,0,none⟩) aa) (fun _=>A)<|cy 1 aa ag (fun _=>nc aa) (fun _=>A)<|cy 2 aa ag (fun _=>fa fY aa) (fun _=>A)<|jq 3 aa ag (fun w' I=>ld eT aa<|Md.aM I ((bj aq.cells).trans aa) aU) A<|cy 4 aa ag (fun _=>aH (.pointer<|some ⟨H.rb,0,none⟩) aa) (fun _=>A)<|cy 5 aa ag (fun _=>nc aa) (fun _=>A)<|cy 6 aa ag (fun _=>fa fY aa) (fun _=>A)<|jq 7 aa ag (fun w' I=>ld eT aa<|Md.aM I ((bj aq.cells).trans aa) aU) A<|cy 8 aa ag (fun _=>nc aa) (fun _=>A)<|cy 9 aa ag (fun _=>fa fI aa) (fun _=>A)<|cy 10 aa ag (fun _=>fa vk aa) (fun _=>A)<|jq 11 aa ag (fun w' I=>ld BT aa<|Md.aM I ((bj aj.cells).trans aa) bJ) A<|cy 12 aa ag (fun _=>mv) (fun _=>A)<|cy 13 aa ag (fun _=>aH (.pointer<|some ⟨H.rb,0,none⟩) aa) (fun _=>A)<|cy 14 aa ag (fun _=>mv) (fun _=>A) ?_
 refine cy 15 aa ag (fun _=>a7 c8 aa aa ab<|aG.ok (a8.dy.2)<|cX ab) (fun _=>A)<|jq 16 aa ag (fun w' I=>ld cB aa<|dt.get (i:=2) (a8.md I<|jd aj.o9 ay).dy.2 ab) A<|Fh 17 aa ag aa (cU Cu (F6 H.rb ak (Z.getD 2 []) ae.drew (Md.aM A aq.dX aU) ab) aa fun co bY bE=> ?_) fun c w' E aI ai=>by obtain ⟨e,he,h,h2⟩:=E; exact ⟨_,_,tj ac (J.bad ab aD<|Ts aV bb he),h,a2.trans<|Wk.mw<|iN h2⟩
 obtain ⟨Y,bN,rfl,az⟩:=bE
 have az:=iN az
 have aS:(fun w'=>Md (fun k=>C.v9.ownBlock=some k) ae w') bY:=Md.mono az fun _ _ h=>h.elim
 refine ⟨aS,?_⟩
 refine cy 18 aa ag (fun _=>c7 (ps:= [(0,str O),(1,str Y)]) (L:= [str O,str Y]) Uz aa<|aa) (fun _=>aS)<|iL 19 aa ag<|oN wa aa aa aa fun b8 bZ ca a3 bl=> ?_
 have aL:=az.trans a3.md
 have G:=aj.wk aL
 have a4:=aq.wk aL
 have a5:(fun w'=>Md (fun k=>C.v9.ownBlock=some k) ae w') bZ:=aS.trans' a3.md fun _ _ h=>h.elim
 refine ⟨a5,?_⟩
 refine iL 20 aa ag<|ap wa (G.o9) aa (by have :=(cY.1 a4.cells).1; omega) aa (aG.fO bl) (aa) (aa) (by simp only [bK]; omega) (by simp only [bK]; omega) fun v46 bf ba an cm cc=> ?_
 have bx:=(a2.trans<|Wk.mw aL).trans<|Mw.of an (TF.own G.o9 ay) fun k hk=>(dd G.o9 hk).1
 have bF:=cx.own a4 G.o9 an ay
 have aT:=an.aE G.cells<|dS G.o9 G.cells ay
 have bL:bm bf B 189 2 v46 ((F.dj++xs)++ [(O,Y)]).length (mI<|(F.dj++xs)++ [(O,Y)]):=by rw [show mI ((F.dj++xs)++ [(O,Y)])=mI (F.dj++xs)++ [str O,str Y] from by simp [mI],bK]; exact ba
 have aA:(fun w'=>Md (fun k=>C.v9.ownBlock=some k) ae w') bf:=a5.trans' an fun _ _ h=>h
 refine ⟨aA,?_⟩
 exact cy 21 aa ag (fun _=>nc aa) (fun _=>aA)<|cy 22 aa ag (fun _=>fa fI aa) (fun _=>aA)<|cy 23 aa ag (fun _=>fa vk aa) (fun _=>aA)<|db 24 aa ag ag<|dQ Dq aa aa (v:=v46) (eQ ba) aT (by show _ < 14; omega) fun cq aN bo=>eE ag<|bn<|tn<|bt _ _<|rg aa<|p (ad aa aa<|cH ab)<|p mv<|nl<|tn<|⟨_,ab,i+1,xs++ [(O,Y)],rest,ak,{C with v9:=v46},bh,ab,(by rw [show n - (i+1)=n - i - 1 by omega]; exact J.step ab aD<|Tt aV bb bN),(by rw [bK,bV]; rfl),(by rw [← ib]; exact cV.JK (x:=(O,Y)) G an bL aN bo),(cx.vb bF aT aN),(⟨by simp only [bK,ic]; omega,aw.sl,aw.row,aw.kd,aw.al⟩),(bx.trans<|Mw.of aN (TF.eq (dO aT) ay) fun k hk=>hk ▸ G.lo.1),aa,aa,aa,aa⟩
 refine ext<|te _<|te _<|be<|iG<|f0 aa ?_
 rw [show n - i=0 by omega] at J
 exact ⟨aa,_,rows',aF,Tw ac J.done,⟨C,R',aZ,ao.congr aa (fun _=>rfl),am⟩,a0⟩
theorem Jv (B:Nat) (H:cj) (F:aB) (rows:List Rw) (ln:Nat) (seen:List Tx) (r:List Tx) (bv:Nat) (ar:Option Addr) (cr:Nat) (w:World) (A:St w B H F rows ln seen) (bg:Tg w bv 9 r.length (.slice ar r.length cr) (r.map str)) (cR:r.length=2) (cb:∀ x∈r,x.length≤70000):
 ez au 133 (aX [.pointer (some ⟨H.rb,0,none⟩),.slice ar r.length cr]) w (il B H seen (jG H.eof F seen rows ln r) w) (ik B H (jG H.eof F seen rows ln r) w):=by
 obtain ⟨V,R,aj,Z,aL⟩:=A
 have cG:=bg.dy
 have cS:(r.getD 1 []).length≤70000:=cb _<|fg ab
 have cP:=Z.lo
 have cK:=aL.len
 obtain ⟨cZ,bp,bq⟩:=Z.sm
 have cL:=r4 (a:=iK) (l:=seen)
 have cM:=r4 (a:=du) (l:=seen)
 have cT:=aL.sl
 refine ja func133 aa ntmps133 aa<|sq fun cp bD=> ?_
 have C:(fun w'=>Wk w w') w.drew:=(Md.refl _ _).drew
 refine cD (fun w'=>Wk w w') aa wide C<|hp 0 aa ag (fun _ _=>aH (.pointer<|some ⟨H.rb,0,none⟩) aa) C<|hp 1 aa ag (fun _ _=>aH (.pointer<|some ⟨H.rb,0,none⟩) aa) C<|hp 2 aa ag (fun _ _=>nc aa) C<|hp 3 aa ag (fun _ _=>fa ra aa) C<|hp 4 aa ag (fun w' A=>ld qK aa<|Wk.aM A<|(bj Z.cells).trans aa) C<|hp 5 aa ag (fun w' A=>kN o5 l5 gE (bQ.md (bp) A id) aa aa (⟨_,aa⟩)<|bq iK) C<|hp 6 aa ag (fun _ _=>aH (.pointer<|some ⟨H.rb,0,none⟩) aa) C<|hp 7 aa ag (fun _ _=>nc aa) C<|hp 8 aa ag (fun _ _=>fa ra aa) C<|hp 9 aa ag (fun w' A=>ld qK aa<|Wk.aM A<|(bj Z.cells).trans aa) C<|hp 10 aa ag (fun w' A=>kN o5 l5 gE (bQ.md (bp) A id) aa aa (⟨_,aa⟩)<|bq du) C<|hp 11 aa ag (fun _ _=>bG ((seen.count iK+seen.count du:Nat):Int) aa aa<|bf ab ab) C<|hp 12 aa ag (fun _ _=>cg aa aa) C ?_
 refine ri 13 aa ag aa (cU gj (gr H.rb ln _ 113 w.drew (Wk.aM C Z.dX) ay) aa fun v20 a2 bX=> ?_) (fun c w' E aS aj=>⟨ln,113,Jw (Classical.byContradiction fun h2=>by
  have h1:=pw.2 fun h=>h2<|Or.inl h
  have h3:=pw.2 fun h=>h2<|Or.inr h
  exact of_decide_eq_false E.2.1 ab),E.1,by rw [E.2.2]; exact Wk.mw C⟩)
 obtain ⟨rfl,ci,br⟩:=bX
 have aN:Wk w a2:=by rw [br]; exact (Md.refl _ _).drew
 have an:¬(iK∈seen∨du∈seen):=by
  have cF:=of_decide_eq_true ci
  rintro (h | h)
  have :=xz.2 h; omega
  have :=xz.2 h; omega
 have bV:=Z.wk aN
 have bh:=(bg.wk aN).dy
 have b3:(fun w'=>Wk w w') a2:=by rw [br]; exact C
 refine ⟨b3,?_⟩
 refine hn ag<|tn<|bD _ _<|sq fun cq bE=>rg aa<|p (aH (.pointer<|some ⟨H.rb,0,none⟩) aa)<|p (aH (.slice ar r.length cr) aa)<|p (a7 c8 aa aa ab<|aG.ok (bh.2)<|cX ab)<|p (ld cB aa<|dt.get (i:=1) bh.2 ab)<|eP aa (cU uJ (vL H.rb ln (r.getD 1 []) 1024 a2 bV.dX ab ab) aa fun v25 c2 bY=> ?_) fun c w' E aS aj=>by obtain ⟨e,he,h,h2⟩:=E; exact ⟨ln,e,Jx an he,h,Wk.mw<|aN.trans h2⟩
 obtain ⟨n,ao,rfl,aq⟩:=bY
 have cQ:=zW ao
 have aq:=aN.trans aq
 refine p mv<|nl<|tn<|bE _ _<|aE<|lp (fun a3 aT aJ=> ∃ (i:Nat) (xs:List (List Nat)) (rows':List Rw) (aR:Nat) (I:dU) (R':fT),(i≤n)∧(gM [iH] (lM F.kind) H.eof (group [iH] (lM F.kind) H.eof n rows) xs (n - i) rows')∧(xs.length=i)∧(cV aJ B H.fb H.mc {F with aliases:=F.aliases++xs} I)∧(cx aJ B H F R' rows' aR seen)∧(jz {F with aliases:=F.aliases++xs} rows' seen)∧(ew B H w aJ)∧(aT 0= .pointer (some ⟨H.rb,0,none⟩))∧(aT 25= .int .i64 (n:Nat))∧(aT 26= .int .i64 (i:Nat))∧(n - i=a3)) _ ⟨0,[],rows,ln,V,R,ab,gM.start,aa,(by rw [eM]; exact aj.wk aq),(Z.wk aq),(by rw [eM]; exact aL),(Wk.mw aq),aa,aa,aa,aa⟩ ?_
 rintro a3 aT aJ ⟨i,xs,rows',aR,I,R',hi,ac,cm,a4,az,ae,a6,ce,cf,ch,rfl⟩
 refine fx 0 ce<|fx 25 cf<|fx 26 ch<|sq fun cs bF=>rg aa<|p (lt aa aa)<|nl<|tn<|bF _ _<|sq fun ct bH=>cd aa (fun b6=> ?_) fun b6=> ?_
 refine aQ<|tn<|bH _ _<|sq fun cu bI=>aE<|sq fun cv bJ=>rg aa<|p (aH (.pointer<|some ⟨H.rb,0,none⟩) aa)<|e<|pQ (L:= [str iH]) jP aa aa aa aa fun bx bs cI bS bz=> ?_
 have ah:Wk aJ bs:=bS.md
 have a9:=a6.trans<|Wk.mw ah
 refine eP aa (cU yh (zl B H F R' rows' aR seen [iH] bx 1 _ _ bs (az.wk ah) (Tg.z1 bz aa) aa ay fun q ca=>(ae.row q ca).2.1) aa fun c0 cn bW=> ?_) (fun c w' E aS aj=>by
  obtain ⟨h1,h2⟩:=E
  have hm:=a9.trans<|ew.rb (az.wk ah) h2
  rcases h1 with ⟨rfl,h3⟩ | ⟨aD,O,rest,rfl,h4,h3⟩
  exact ⟨_,_,ux an ao (ac.ends ab),h3,hm⟩
  exact ⟨_,_,ux an ao (ac.other ab h4),h3,hm⟩)
 obtain ⟨aD,O,rest,rfl,aZ,⟨bw,aO⟩,hT15,hM15⟩:=bW
 obtain ⟨cC,pS,rfl⟩:=hT15.slice
 have a5:=(a4.wk ah).rb (az.wk ah) hM15
 have ba:=a9.trans<|ew.rb (az.wk ah) hM15
 have cc:O≠[]∧O.length≤70000∧∀ x∈O,x.length≤70000:=ae.row (aD,O)<|by simp
 have aU:=jz.qZ ae
 have bi:=hT15.dy
 have b5:=ae.len
 simp only [bU,bK] at b5
 refine p aC<|nl<|tn<|bJ _ _<|sq fun cw bL=>rg aa<|p (aH (.pointer<|some ⟨H.rb,0,none⟩) aa)<|p mv<|p (bM e8 aa aa)<|p (cg aa aa)<|eP aa (cU gj (gr H.rb aD _ 111 cn aO.dX ay) aa fun v35 aF bZ=> ?_) fun c w' E aS aj=>⟨_,_,ux an ao (ac.bad ab aZ<|Js<|by have :=of_decide_eq_false E.2.1; omega),E.1,by rw [E.2.2]; exact ba⟩
 obtain ⟨rfl,ck,rfl⟩:=bZ
 have bo:O.length=2:=by have :=of_decide_eq_true ck; omega
 have cO:=cc.2.2 _<|fg (d:= []) (i:=1) ab
 refine nl<|tn<|bL _ _<|sq fun cz bN=> ?_
 have J:(fun w'=>Wk aF w') aF.drew:=(Md.refl _ _).drew
 refine cD (fun w'=>Wk aF w') aa wide J<|hp 0 aa ag (fun _ _=>aH (.pointer<|some ⟨H.rb,0,none⟩) aa) J<|hp 1 aa ag (fun _ _=>nc aa) J<|hp 2 aa ag (fun _ _=>fa fY aa) J<|hp 3 aa ag (fun w' A=>ld eT aa<|Wk.aM A<|(bj aO.cells).trans aa) J<|hp 4 aa ag (fun _ _=>nc aa) J<|hp 5 aa ag (fun _ _=>fa fI aa) J<|hp 6 aa ag (fun _ _=>fa q8 aa) J<|hp 7 aa ag (fun w' A=>ld bR aa<|Wk.aM A<|(bj a5.cells).trans aa) J<|hp 8 aa ag (fun _ _=>mv) J<|hp 9 aa ag (fun _ _=>a7 c8 aa aa ab<|aG.ok (bi.2)<|cX ab) J<|hp 10 aa ag (fun w' A=>ld cB aa<|Wk.aM A<|dt.get (i:=1) bi.2 ab) J<|he 11 aa ag<|cl Cv (Ex F.kind (O.getD 1 []) _ aL.kd ab) aa fun c1 bt b0=> ?_
 obtain ⟨⟨aK,rfl,aY⟩,ai⟩:=b0
 have ai:=iN ai
 have aw:=a5.wk ai
 have aA:=aO.wk ai
 have bb:=ba.trans<|Wk.mw ai
 have bk:¬(I.v10.ownBlock=some H.rb):=dS aw.gG aA.cells ay
 have b8:¬(I.v10.ownBlock=some H.fb):=dS aw.gG aw.cells ay
 have bC:B≤aF.heap.size:=by have :=(cY.1 aO.cells).1; omega
 have ak:(fun w'=>Wk aF w') bt:=ai
 refine ⟨ak,?_⟩
 refine hp 12 aa ag (fun _ _=>mv) ak<|hp 13 aa ag (fun _ _=>xt aa aa) ak<|hp 14 aa ag (fun _ _=>xt aa aa) ak<|hp 15 aa ag (fun _ _=>aC) ak<|hp 16 aa ag (fun _ _=>aC) ak<|hn ag<|tn<|bN _ _<|sq fun cA bO=>rg aa<|p (aH (.pointer<|some ⟨H.rb,0,none⟩) aa)<|p mv<|eP aa (cU nb (nq H.rb aD ((eO F.kind<|O.getD 1 []).2:Nat) bt aA.dX) aa fun v53 aI b2=> ?_) fun c w' E aS aj=>⟨_,_,ux an ao (ac.bad ab aZ<|by rw [BU bo]; exact Es<|by have :=E.2.1; omega),E.1,by rw [E.2.2]; exact bb⟩
 obtain ⟨rfl,a0,rfl⟩:=b2
 have a0:(eO F.kind<|O.getD 1 []).2=0:=ab
 have b7:=Er a0
 refine nl<|tn<|bO _ _ ?_
 have G:(fun w'=>Md (fun k=>I.v10.ownBlock=some k) aI w') aI.drew:=(Md.refl _ _).drew
 refine eF (fun w'=>Md (fun k=>I.v10.ownBlock=some k) aI w') 18 aa wide G<|cy 0 aa ag (fun _=>aH (.pointer<|some ⟨H.rb,0,none⟩) aa) (fun _=>G)<|cy 1 aa ag (fun _=>nc aa) (fun _=>G)<|cy 2 aa ag (fun _=>fa fY aa) (fun _=>G)<|jq 3 aa ag (fun w' A=>ld eT aa<|Md.aM A ((bj aA.cells).trans aa) bk) G<|cy 4 aa ag (fun _=>aH (.pointer<|some ⟨H.rb,0,none⟩) aa) (fun _=>G)<|cy 5 aa ag (fun _=>nc aa) (fun _=>G)<|cy 6 aa ag (fun _=>fa fY aa) (fun _=>G)<|jq 7 aa ag (fun w' A=>ld eT aa<|Md.aM A ((bj aA.cells).trans aa) bk) G<|cy 8 aa ag (fun _=>nc aa) (fun _=>G)<|cy 9 aa ag (fun _=>fa fI aa) (fun _=>G)<|cy 10 aa ag (fun _=>fa n9 aa) (fun _=>G)<|jq 11 aa ag (fun w' A=>ld pM aa<|Md.aM A ((bj aw.cells).trans aa) b8) G<|cy 12 aa ag (fun _=>mv) (fun _=>G)<|iL 13 aa ag<|kG wc aa (eQ aY) fun cE co cJ bT bA=> ?_
 have av:=iN bT.md
 have Y:=aw.wk av
 have bc:=aA.wk av
 have b4:=(Tg.kg<|a8 aY av).mono bC
 have bd:(fun w'=>Md (fun k=>I.v10.ownBlock=some k) aI w') co:=Md.mono av fun _ _ h=>h.elim
 refine ⟨bd,?_⟩
 refine iL 14 aa ag<|ap wc (Y.gG) aa (by have :=(cY.1 bc.cells).1; omega) aa (aG.fO bA) (aa) (by show List.all [aK] Value.oneCell'=true; simp only [List.all_cons,List.all_nil,eQ aY,Bool.and_self]) (by simp only [bK]; omega) (by simp only [bK]; omega) fun a1 bu bl ax cW cN=> ?_
 have bP:=(bb.trans<|Wk.mw av).trans<|Mw.of ax (TF.own Y.gG ay) fun k hk=>(dd Y.gG hk).1
 have b1:=cx.own bc Y.gG ax ay
 have aW:=ax.aE Y.cells<|dS Y.gG Y.cells ay
 have b9:bm bu B 51 1 a1 ((F.aliases++xs)++ [(eO F.kind<|O.getD 1 []).1]).length (I.sa++ [aK]):=by rw [bK]; exact bl
 have aP:(fun w'=>Md (fun k=>I.v10.ownBlock=some k) aI w') bu:=bd.trans' ax fun _ _ h=>h
 refine ⟨aP,?_⟩
 exact cy 15 aa ag (fun _=>nc aa) (fun _=>aP)<|cy 16 aa ag (fun _=>fa fI aa) (fun _=>aP)<|cy 17 aa ag (fun _=>fa n9 aa) (fun _=>aP)<|db 18 aa ag ag<|dQ Dr aa aa (v:=a1) (eQ bl) aW (by show _ < 14; omega) fun c3 aV bB=>eE ag<|bn<|tn<|bI _ _<|rg aa<|p (ad aa aa<|cH ab)<|p mv<|nl<|tn<|⟨_,ab,i+1,xs++ [(eO F.kind<|O.getD 1 []).1],rest,aD,{I with v10:=a1,sa:=I.sa++ [aK]},bw,ab,(by rw [show n - (i+1)=n - i - 1 by omega]; exact ac.step ab aZ<|by rw [BU bo]; exact Ev a0),(by rw [bK,cm]; rfl),(by rw [← ib]; exact cV.JH (x:=(eO F.kind<|O.getD 1 []).1) (vx:=aK) Y b4 ax b9 aV bB),(cx.vb b1 aW aV),(⟨by simp only [bK,ic]; omega,aU.sl,aU.row,aU.kd,by intro l am; rw [← ib] at am; rcases kY.1 am with am | am; exact ae.al l am; rw [iX.1 am]; exact b7⟩),(bP.trans<|Mw.of aV (TF.eq (dO aW) ay) fun k hk=>hk ▸ Y.lo.1),aa,aa,aa,aa⟩
 refine ext<|te _<|te _<|be<|iG<|f0 aa ?_
 rw [show n - i=0 by omega] at ac
 exact ⟨aa,_,rows',aR,Jy an ao ac.done,⟨I,R',a4,az.congr aa (fun _=>rfl),ae⟩,a6⟩
end Go.Hb.mX
end
section
namespace Go.Hb.pF
open Go.Hb.eH Go.Hb.mX Go.Hb.oI
structure mY (w:World) (B fb:Nat) (mc:Nat) (F:aB) (V:dU):Prop where
 cells:w.heap[fb]? =some (.cells (nk F V mc).toArray 164 (0,0))
 o9:bm w B 189 2 V.v9 F.dj.length (mI F.dj)
 gG:bm w B 51 1 V.v10 F.aliases.length V.sa
 al:dw w B 95 V.sa F.aliases
 fN:bm w B 192 5 V.v11 F.bz.length (lO F.bz)
 ej:bm w B 134 7 V.v12 F.rules.length (fP<|F.rules.zip V.rn)
 nx:dw w B 95 V.rn (F.rules.map (·.next))
 lo:B≤fb∧B≤mc
 js:F.sp.length=5
theorem mY.md {G:Nat→Prop} {w w':World} {B fb mc:Nat} {F:aB} {V:dU} (h:mY w B fb mc F V) (hm:Md G w w') {L:List Nat} (c:TF w L G) (A:(L.contains 166 || L.contains 191 || L.contains 53 || L.contains 97 || L.contains 194 || L.contains 136)=false):mY w' B fb mc F V:=by
 simp only [pd] at A
 obtain ⟨⟨⟨⟨⟨h1,h2⟩,h3⟩,h4⟩,h5⟩,h6⟩:=A
 have C:∀ k,G k→∀ cur z,w.heap[k]?≠some (.cells cur 95 z):=fun k hk cur z E=>c.no (dO E) h4 hk
 exact ⟨hm.jH c h.cells h1,c5 h.o9 hm c h2,c5 h.gG hm c h3,h.al.md hm C,c5 h.fN hm c h5,c5 h.ej hm c h6,h.nx.md hm C,h.lo,h.js⟩
theorem mY.wk {w w':World} {B fb mc:Nat} {F:aB} {V:dU} (h:mY w B fb mc F V) (hm:Wk w w'):mY w' B fb mc F V:=h.md (L:= []) hm (fun _ hk=>hk.elim) rfl
theorem OM {w:World} {B fb mc:Nat} {F:aB} {V:dU} (h:cV w B fb mc F V):mY w B fb mc F V:=⟨h.cells,h.o9,h.gG,h.al,h.fN,h.ej,h.nx,h.lo,h.js⟩
theorem mY.JI {w G O:World} {B fb mc:Nat} {F:aB} {V:dU} {v:Value} {x:dI} {f:Value→Option Value} (h:mY w B fb mc F V) (E:bQ w.heap mc (jn .u16) f) (ac:∀ y:Nat,f (aT y)=((F.bz++ [x]).findIdx? fun c=>decide (c.flag=y)).map fun i:Nat=>ff .i64 i) (hm:Md (fun k=>V.v11.ownBlock=some k) w G) (aa:bm G B 192 5 v (F.bz++ [x]).length (lO<|F.bz++ [x])) (A:Md (fun k=>k=fb) G O) (ab:O.heap[fb]? =some (.cells (nk {F with bz:=F.bz++ [x]} {V with v11:=v} mc).toArray 164 (0,0))):cV O B fb mc {F with bz:=F.bz++ [x]} {V with v11:=v} :=by
 have C:TF w [194] (fun k=>V.v11.ownBlock=some k):=TF.own h.fN ay
 have J:=hm.jH C h.cells ay
 have I:TF G [166] (fun k=>k=fb):=TF.eq (dO J) ay
 have Y:∀ k,V.v11.ownBlock=some k→∀ cur z,w.heap[k]?≠some (.cells cur 95 z):=jd h.fN ay
 have Z:∀ k,k=fb→∀ cur z,G.heap[k]?≠some (.cells cur 95 z):=gW J ay
 have ad:=dD<|E.md hm<|C.no (dD E) ay
 exact ⟨ab,c5 (c5 h.o9 hm C ay) A I ay,c5 (c5 h.gG hm C ay) A I ay,(h.al.md hm Y).md A Z,cz aa A (fun k hk E=>dS aa J ay<|E ▸ hk),c5 (c5 h.ej hm C ay) A I ay,(h.nx.md hm Y).md A Z,⟨f,(E.md hm<|C.no (dD E) ay).md A (I.no ad ay),ac⟩,h.lo,h.js⟩
theorem cx.R9 {w E I:World} {B:Nat} {H:cj} {F F':aB} {R:fT} {rows:List Rw} {ln:Nat} {seen:List Tx} {v:Value} {q:cC} (h:cx w B H F R rows ln seen) (hm:Md (fun k=>R.vn.ownBlock=some k) w E) (Z:bm E B 3 1 v (F.rules++ [q]).length ((F.rules++ [q]).map fun r=>ff .i64 (r.line:Nat))) (c:Md (fun k=>k=H.rb) E I) (aa:I.heap[H.rb]? =some (.cells (ti H {R with vn:=v} ln).toArray 167 (0,0))) (ad:F'.rules=F.rules++ [q]) (hd:∀ x,ea F' x=ea F x):cx I B H F' {R with vn:=v} rows ln seen:=by
 have G:TF w [5] (fun k=>R.vn.ownBlock=some k):=TF.own h.on ay
 have A:=hm.jH G h.cells ay
 have J:TF E [169] (fun k=>k=H.rb):=TF.eq (dO A) ay
 obtain ⟨f,C,ab⟩:=h.sm
 obtain ⟨g,V,ac⟩:=h.tm
 have O:=C.md hm<|G.no (dD C) ay
 have Y:=V.md hm<|G.no (dD V) ay
 exact ⟨aa,(h.rws.md hm<|jd h.on ay).md c (gW A ay),(h.rt.md hm<|jd h.on ay).md c (gW A ay),⟨f,O.md c (J.no (dD O) ay),ab⟩,⟨g,Y.md c (J.no (dD Y) ay),fun x ae=>by rw [hd]; exact ac x ae⟩,by rw [ad]; exact cz Z c (fun k hk C=>dS Z A ay<|C ▸ hk),h.lo,h.ne⟩
theorem yU {cs:List dI} {x:Nat} (h:(dE cs x).isSome=false):cs.findIdx? (fun c=>decide (c.flag=x))=none:=by
 rw [It]
 unfold dE at h
 rw [Option.isSome_eq_false_iff,Option.isNone_iff_eq_none,By] at h
 intro c A
 simpa using h c A
theorem NJ {F:aB} {c:dI} (y:Nat):ea {F with bz:=F.bz++ [c]} y=(decide (y=c.flag) || ea F y):=by
 have h1:(dE (F.bz++ [c]) y).isSome=((dE F.bz y).isSome || decide (y=c.flag)):=by
  unfold dE
  rw [List.find?_append,Option.isSome_or]
  congr 1
  by_cases h:c.flag=y
  · simp [h]
  · simp [h,Ne.symm h]
 unfold ea
 show (decide (y∈F.sp) || (dE (F.bz++ [c]) y).isSome)=_
 rw [h1]
 cases decide (y∈F.sp) <;> cases (dE F.bz y).isSome <;> cases decide (y=c.flag) <;> rfl
theorem MN {F:aB} {c:dI} {f:Value→Option Value} (hd:ea F c.flag=false) (A:∀ x:Nat,f (aT x)=(F.bz.findIdx? fun c=>decide (c.flag=x)).map fun i:Nat=>ff .i64 i) (y:Nat):bu f (aT c.flag) (.int .i64 (F.bz.length:Nat)) (aT y)=((F.bz++ [c]).findIdx? fun c=>decide (c.flag=y)).map fun i:Nat=>ff .i64 i:=by
 unfold ea at hd
 rw [pd] at hd
 rw [List.findIdx?_append]
 by_cases h:y=c.flag
 · subst h
   rw [lV,yU hd.2]
   simp
 · rw [ky (fun h2=>h<|G8 h2),A y]
   cases F.bz.findIdx? fun c=>decide (c.flag=y) <;> simp [Ne.symm h]
theorem C3 {eof ln e:Nat} {F:aB} {rows:List Rw} {r:List Tx} (h:iw F (r.getD 1 [])= .error e):gP eof F rows ln r= .error (ln,e):=by unfold gP; rw [h]
theorem C4 {eof ln x:Nat} {F:aB} {rows:List Rw} {r:List Tx} (h:iw F (r.getD 1 [])= .ok x) (h1:r.getD 2 []≠[89]) (h2:r.getD 2 []≠[78]):gP eof F rows ln r= .error (ln,114):=by unfold gP; rw [h]; exact if_pos ⟨h1,h2⟩
theorem Mi {eof ln x e:Nat} {F:aB} {rows:List Rw} {r:List Tx} (h:iw F (r.getD 1 [])= .ok x) (h1:r.getD 2 []= [89]∨r.getD 2 []= [78]) (h2:ei (r.getD 3 []) 1024= .error e):gP eof F rows ln r= .error (ln,e):=by
 unfold gP; rw [h]; simp only; rw [if_neg (fun h3=>h1.elim h3.1 h3.2),h2]
theorem Mj {eof ln x n:Nat} {F:aB} {rows:List Rw} {r:List Tx} (h:iw F (r.getD 1 [])= .ok x) (h1:r.getD 2 []= [89]∨r.getD 2 []= [78]) (h2:ei (r.getD 3 []) 1024= .ok n) (h3:1024 < F.rules.length+n):gP eof F rows ln r= .error (ln,117):=by
 unfold gP; rw [h]; simp only; rw [if_neg (fun h3=>h1.elim h3.1 h3.2),h2]; simp only; rw [if_pos h3]
theorem yw {eof ln x n:Nat} {F:aB} {rows:List Rw} {r:List Tx} {e:Nat×Nat} (h:iw F (r.getD 1 [])= .ok x) (h1:r.getD 2 []= [89]∨r.getD 2 []= [78]) (h2:ei (r.getD 3 []) 1024= .ok n) (h3:¬1024 < F.rules.length+n) (h4:group [r.getD 0 [],r.getD 1 []] (iV F.kind F.aliases (⟨x,(if r.getD 0 []=du then 2 else 1:Nat),(decide (r.getD 2 []= [89])),F.rules.length,n⟩:dI)) eof n rows= .error e):gP eof F rows ln r= .error e:=by
 unfold gP; rw [h]; simp only; rw [if_neg (fun h3=>h1.elim h3.1 h3.2),h2]; simp only; rw [if_neg h3,h4]
theorem Mk {eof ln x n:Nat} {F:aB} {rows:List Rw} {r:List Tx} {q:List cC×List Rw} (h:iw F (r.getD 1 [])= .ok x) (h1:r.getD 2 []= [89]∨r.getD 2 []= [78]) (h2:ei (r.getD 3 []) 1024= .ok n) (h3:¬1024 < F.rules.length+n) (h4:group [r.getD 0 [],r.getD 1 []] (iV F.kind F.aliases (⟨x,(if r.getD 0 []=du then 2 else 1:Nat),(decide (r.getD 2 []= [89])),F.rules.length,n⟩:dI)) eof n rows= .ok q):gP eof F rows ln r= .ok ({F with bz:=F.bz++ [(⟨x,(if r.getD 0 []=du then 2 else 1:Nat),(decide (r.getD 2 []= [89])),F.rules.length,n⟩:dI)],rules:=F.rules++q.1},q.2):=by
 unfold gP; rw [h]; simp only; rw [if_neg (fun h3=>h1.elim h3.1 h3.2),h2]; simp only; rw [if_neg h3,h4]
theorem C5 (B:Nat) (H:cj) (F:aB) (rows:List Rw) (ln:Nat) (seen:List Tx) (r:List Tx) (cF:Nat) (ar:Option Addr) (cr:Nat) (w:World) (A:St w B H F rows ln seen) (c6:Tg w cF 9 r.length (.slice ar r.length cr) (r.map str)) (gh:r.length=4) (cu:∀ x∈r,x.length≤70000) (f5:F.dj.length+F.aliases.length+F.bz.length+F.rules.length+rows.length < 70000):
 ez au 134 (aX [.pointer (some ⟨H.rb,0,none⟩),.slice ar r.length cr]) w (il B H seen (gP H.eof F rows ln r) w) (ik B H (gP H.eof F rows ln r) w):=by
 obtain ⟨V,R,O,ao,aJ⟩:=A
 have ah:=c6.dy
 have gi:(r.getD 1 []).length≤70000:=cu _<|fg ab
 have gk:(r.getD 2 []).length≤70000:=cu _<|fg ab
 have gl:(r.getD 3 []).length≤70000:=cu _<|fg ab
 have gf:=ao.lo
 have ga:=aJ.len
 have gm:=(cY.1 ao.cells).1
 obtain ⟨a12,dK,fz⟩:=cQ O.ej
 obtain ⟨cG,ko,dw⟩:=cQ O.fN
 have e0:Hb.aM w.heap H.fb 12=some (.slice a12 F.rules.length dK):=by rw [← fz]; exact (bj O.cells).trans rfl
 have gb:Hb.aM w.heap H.fb 11=some (.slice cG F.bz.length ko):=by rw [← dw]; exact (bj O.cells).trans rfl
 have e4:∀ b,w.heap.size≤b→¬(V.v11.ownBlock=some b):=fun b f4 h=>by have :=dd O.fN h; omega
 obtain ⟨tf,fy,ds⟩:=ao.tm
 refine ja func134 aa ntmps134 aa ?_
 refine eV (fun b2 cE=> ∃ (x J:Nat),(iw F (r.getD 1 [])= .ok x)∧(x≠0)∧(ea F x=false)∧(w.heap.size≤J)∧(cE.heap[J]? =some (.cells [aT x,.int .i64 (1:Nat),.bool false,.int .i64 (F.rules.length:Nat),.int .i64 (0:Nat)].toArray 192 (0,0)))∧(Wk w cE)∧(b2 0= .pointer (some ⟨H.rb,0,none⟩))∧(b2 1= .slice ar r.length cr)∧(b2 4= .pointer (some ⟨J,0,none⟩))) ?_ ?_
 have E:(fun w'=>Wk w w') w.drew:=(Md.refl _ _).drew
 refine cD (fun w'=>Wk w w') aa wide E<|hp 0 aa ag (fun _ _=>aH (.pointer<|some ⟨H.rb,0,none⟩) aa) E<|hp 1 aa ag (fun _ _=>aH (.slice ar r.length cr) aa) E<|hp 2 aa ag (fun _ _=>a7 c8 aa aa ab<|aG.ok (ah.2)<|cX ab) E<|hp 3 aa ag (fun w' A=>ld cB aa<|Wk.aM A<|dt.get (i:=1) ah.2 ab) E<|hp 5 aa ag (fun _ _=>aH (.pointer<|some ⟨H.rb,0,none⟩) aa) E<|hp 6 aa ag (fun _ _=>nc aa) E<|hp 7 aa ag (fun _ _=>fa fY aa) E<|hp 8 aa ag (fun w' A=>ld eT aa<|Wk.aM A<|(bj ao.cells).trans aa) E<|hp 9 aa ag (fun _ _=>nc aa) E<|hp 10 aa ag (fun _ _=>fa fI aa) E<|hp 11 aa ag (fun _ _=>fa mC aa) E<|hp 12 aa ag (fun w' A=>ld k5 aa<|Wk.aM A<|e0) E<|hp 13 aa ag (fun _ _=>bM o4 aa aa) E<|P9 (Pn:=fun c w'=> ∃ e,iw F (r.getD 1 [])= .error e∧c=gZ 45 ln (e:Nat)∧Wk w.drew w') 4 15 aa aa ag aa aa ?_ (fun c w' C aV O=>by obtain ⟨e,he,h,h2⟩:=C; exact ⟨ln,e,C3 he,h,Wk.mw<|Md.trans E h2⟩) ?_
 refine cU yg (zb B H F V R rows ln seen (r.getD 1 []) w.drew (O.wk E) (ao.wk E) aJ.kd ab) aa fun v10 bZ bl=> ?_
 obtain ⟨x,ai,bC,rfl,aU,bI⟩:=bl
 have aq:(fun w'=>Wk w w') bZ:=Md.trans E bI
 refine ⟨aq,?_⟩
 refine hp 14 aa ag (fun _ _=>c7 (ps:= [(0,aT x),(1,.int .i64 (1:Nat)),(3,.int .i64 (F.rules.length:Nat))]) (L:= [aT x,.int .i64 (1:Nat),.bool false,.int .i64 (F.rules.length:Nat),.int .i64 0]) AF aa<|aa) aq<|he 15 aa ag<|iq rS fun J b1 eU cb b5=> ?_
 have aD:(fun w'=>Wk w w') b1:=Md.trans aq cb.md
 refine ⟨aD,?_⟩
 refine he 16 aa ag<|gw pU aa aa aa aa b5 ay fun cz b9 b6=> ?_
 have br:(fun w'=>Wk w w') cz:=Md.trans' aD b9 fun k hk h=>by have h1:=Md.size aq; have h2:=Md.size E; omega
 refine ⟨br,?_⟩
 exact hn ag<|tn<|⟨x,J,ai,bC,aU,(by have h1:=Md.size aq; have h2:=Md.size E; omega),b6,br,aa,aa,aa⟩
 refine iq rS fun J b1 eU cb b5=> ?_
 have aD:(fun w'=>Wk w w') b1:=Md.trans E cb.md
 refine ⟨aD,?_⟩
 refine ri 4 aa ag aa (cU yg (zb B H F V R rows ln seen (r.getD 1 []) b1 (O.wk aD) (ao.wk aD) aJ.kd ab) aa fun v10 bZ bl=> ?_) fun c w' C aV O=>by obtain ⟨e,he,h,h2⟩:=C; exact ⟨ln,e,C3 he,h,Wk.mw<|Md.trans aD h2⟩
 obtain ⟨x,ai,bC,rfl,aU,bI⟩:=bl
 have aq:(fun w'=>Wk w w') bZ:=Md.trans aD bI
 refine ⟨aq,?_⟩
 refine hp 14 aa ag (fun _ _=>c7 (ps:= [(0,aT x),(1,.int .i64 (1:Nat)),(3,.int .i64 (F.rules.length:Nat))]) (L:= [aT x,.int .i64 (1:Nat),.bool false,.int .i64 (F.rules.length:Nat),.int .i64 0]) AF aa<|aa) aq<|he 16 aa ag<|gw pU aa aa aa aa (Wk.aE bI b5) ay fun cz b9 b6=> ?_
 have br:(fun w'=>Wk w w') cz:=Md.trans' aq b9 fun k hk h=>by have h1:=Md.size aq; have h2:=Md.size E; omega
 refine ⟨br,?_⟩
 exact hn ag<|tn<|⟨x,J,ai,bC,aU,(by have h1:=Md.size aq; have h2:=Md.size E; omega),b6,br,aa,aa,aa⟩
 rintro b2 cE ⟨x,J,ai,bC,aU,e9,dq,bF,fe,fh,fi⟩
 refine fx 0 fe<|fx 1 fh<|fx 4 fi ?_
 refine eV (fun b3 a3=>(a3.heap[J]? =some (.cells [aT x,.int .i64 ((if r.getD 0 []=du then 2 else 1:Nat):Nat),.bool false,.int .i64 (F.rules.length:Nat),.int .i64 (0:Nat)].toArray 192 (0,0)))∧(Wk w a3)∧(b3 0= .pointer (some ⟨H.rb,0,none⟩))∧(b3 1= .slice ar r.length cr)∧(b3 4= .pointer (some ⟨J,0,none⟩))) ?_ ?_
 refine sq fun dF b8=>rg aa<|p (aH (.slice ar r.length cr) aa)<|p (a7 c8 aa aa ab<|aG.ok (aG.wk ah.2 bF)<|cX ab)<|p (ld cB aa<|dt.get (i:=0) (aG.wk ah.2 bF) ab)<|p (iS aa aa)<|nl<|tn<|b8 _ _<|cd aa (fun cn=> ?_) fun cn=> ?_
 exact rg aa<|p (fa sU aa)<|e<|dQ j6 aa aa (v:= .int .i64 (2:Nat)) aa dq (by show _ < 5; decide) fun gE ee dR=>nl<|tn<|⟨(by rw [if_pos (show r.getD 0 []=du from cn)]; exact dR),(bF.trans' ee fun k hk h=>by omega),aa,aa,aa⟩
 exact aQ<|tn<|⟨(by rw [if_neg (show ¬r.getD 0 []=du from cn)]; exact dq),bF,aa,aa,aa⟩
 rintro b3 a3 ⟨e8,am,fj,fk,fl⟩
 refine fx 0 fj<|fx 1 fk<|fx 4 fl ?_
 refine eV (fun b4 dE=>(r.getD 2 []= [89]∨r.getD 2 []= [78])∧(dE=a3)∧(b4 0= .pointer (some ⟨H.rb,0,none⟩))∧(b4 1= .slice ar r.length cr)∧(b4 4= .pointer (some ⟨J,0,none⟩))) ?_ ?_
 refine rg aa<|p (aH (.pointer<|some ⟨H.rb,0,none⟩) aa)<|p (aH (.slice ar r.length cr) aa)<|p (a7 c8 aa aa ab<|aG.ok (aG.wk ah.2 am)<|cX ab)<|p (ld cB aa<|dt.get (i:=2) (aG.wk ah.2 am) ab)<|p (iS aa aa)<|p mv<|gs (t:=31) aa (fun bT=> ?_) fun bT=> ?_
 refine sk aa aa aa aa<|sk aa aa aa aa<|sk aa aa aa aa<|sk aa aa aa aa<|p (bN aa)<|eP aa (cU gj (gr H.rb ln _ 114 a3 (Wk.aM am ao.dX) ay) aa fun v37 fG cc=> ?_) fun c w' C aV O=>by first | exact absurd C.2.1 ay | exact ⟨ln,114,C4 ai bT (of_decide_eq_false C.2.1),C.1,by rw [C.2.2]; exact Wk.mw am⟩
 obtain ⟨rfl,dx,rfl⟩:=cc
 exact nl<|tn<|⟨(.inl bT),aa,aa,aa,aa⟩
 refine pg aa aa aa (aH (.slice ar r.length cr) aa)<|pg aa aa aa (a7 c8 aa aa ab<|aG.ok (aG.wk ah.2 am)<|cX ab)<|pg aa aa aa (ld cB aa<|dt.get (i:=2) (aG.wk ah.2 am) ab)<|pg aa aa aa (iS aa aa)<|p (bH aa)<|eP aa (cU gj (gr H.rb ln _ 114 a3 (Wk.aM am ao.dX) ay) aa fun v37 fG cc=> ?_) fun c w' C aV O=>by first | exact absurd C.2.1 ay | exact ⟨ln,114,C4 ai bT (of_decide_eq_false C.2.1),C.1,by rw [C.2.2]; exact Wk.mw am⟩
 obtain ⟨rfl,dx,rfl⟩:=cc
 exact nl<|tn<|⟨(.inr<|of_decide_eq_true dx),aa,aa,aa,aa⟩
 rintro b4 dE ⟨a0,fA,fo,fq,fr⟩
 refine fx 0 fo<|fx 1 fq<|fx 4 fr ?_
 subst fA
 refine sq fun dF b8=>rg aa<|p (aH (.slice ar r.length cr) aa)<|p (a7 c8 aa aa ab<|aG.ok (aG.wk ah.2 am)<|cX ab)<|p (ld cB aa<|dt.get (i:=2) (aG.wk ah.2 am) ab)<|p (iS aa aa)<|p (fa En aa)<|e<|dQ Dp aa aa (v:= .bool<|decide (r.getD 2 []= [89])) aa e8 (by show _ < 5; decide) fun fH ef dT=> ?_
 have bd:=am.trans' ef fun k hk h=>by omega
 refine nl<|tn<|b8 _ _<|sq fun fQ d5=>rg aa<|p (aH (.pointer<|some ⟨H.rb,0,none⟩) aa)<|p (aH (.slice ar r.length cr) aa)<|p (a7 c8 aa aa ab<|aG.ok (aG.wk ah.2 bd)<|cX ab)<|p (ld cB aa<|dt.get (i:=3) (aG.wk ah.2 bd) ab)<|eP aa (cU uJ (vL H.rb ln (r.getD 3 []) 1024 fH (Wk.aM bd ao.dX) ab ab) aa fun gB gD eB=> ?_) fun c w' C aV O=>by obtain ⟨e,he,h,h2⟩:=C; exact ⟨ln,e,Mi ai a0 he,h,Wk.mw<|bd.trans h2⟩
 obtain ⟨n,aZ,rfl,cJ⟩:=eB
 have gg:=zW aZ
 refine p (fa vq aa)<|e<|dQ j6 aa aa (v:= .int .i64 (n:Nat)) aa (Wk.aE cJ dT) (by show _ < 5; decide) fun dB eh dV=> ?_
 have aL:=(bd.trans cJ).trans' eh fun k hk h=>by omega
 have bv:dB.heap[J]? =some (.cells [aT x,.int .i64 ((if r.getD 0 []=du then 2 else 1:Nat):Nat),.bool (decide (r.getD 2 []= [89])),.int .i64 (F.rules.length:Nat),.int .i64 (n:Nat)].toArray 192 (0,0)):=dV
 refine nl<|tn<|d5 _ _<|sq fun fR d6=>rg aa<|p (aH (.pointer<|some ⟨H.rb,0,none⟩) aa)<|p (fa Eo aa)<|p (ld bR aa<|(bj bv).trans aa)<|p (fa vq aa)<|p (ld bR aa<|(bj bv).trans aa)<|p (bG ((F.rules.length+n:Nat):Int) aa aa<|bf ab ab)<|p (le aa aa)<|eP aa (cU gj (gr H.rb ln _ 117 dB (Wk.aM aL ao.dX) ay) aa fun gC cA eC=> ?_) fun c w' C aV O=>⟨ln,117,Mj ai a0 aZ (by have :=of_decide_eq_false C.2.1; omega),C.1,by rw [C.2.2]; exact Wk.mw aL⟩
 obtain ⟨rfl,fB,rfl⟩:=eC
 have bD:¬1024 < F.rules.length+n:=by have :=of_decide_eq_true fB; omega
 have bL:=ao.wk aL
 have dZ:=O.wk aL
 have bV:=fy.wk aL
 refine nl<|tn<|d6 _ _<|sq fun fS d7=> ?_
 have aw:(fun w'=>Wk cA w') cA.drew:=(Md.refl _ _).drew
 refine eF (fun w'=>Wk cA w') 8 aa wide aw<|lq 0 aa ag (fun _ _=>aH (.pointer<|some ⟨H.rb,0,none⟩) aa) aw<|lq 1 aa ag (fun _ _=>nc aa) aw<|lq 2 aa ag (fun _ _=>fa y5 aa) aw<|lq 3 aa ag (fun w' A=>ld sj aa<|Wk.aM A<|(bj bL.cells).trans aa) aw<|lq 4 aa ag (fun _ _=>fa y8 aa) aw<|lq 5 aa ag (fun w' A=>ld bW aa<|Wk.aM A<|(bj bv).trans aa) aw<|lq 6 aa ag (fun w' A=>kN ql l5 p9 (bQ.md (bV) A id) aa aa (⟨_,aa⟩) (show _=ff .i64 0 from (ds x bC).trans<|by rw [aU]; rfl)) aw<|lq 7 aa ag (fun _ _=>bG ((1:Nat):Int) aa aa<|bf ab ab) aw<|db 8 aa ag ag<|qn ql p9 (bV.wk aw) aa aa aa (⟨_,aa⟩) fun a4 eg et=> ?_
 have bi:=iN eg
 have bq:cx a4 B H {F with bz:=F.bz++ [(⟨x,(if r.getD 0 []=du then 2 else 1:Nat),(decide (r.getD 2 []= [89])),F.rules.length,n⟩:dI)]} R rows ln seen:=bL.ta bi et rfl (G0 aU ds fun y _=>NJ y)
 have bg:=dZ.ta bL bi
 have di:=bi.aE bv fun h=>bV.mF<|h ▸ bv
 have eN:=(c6.wk aL).md bi fun k hk cur z cq=>by subst hk; exact bV.mF cq
 have en:=(Wk.mw aL).trans<|ew.mt bL bi
 obtain ⟨cf,co,e1⟩:=bg.cm
 have eZ:Hb.aM a4.heap H.fb 11=some (.slice cG F.bz.length ko):=by rw [← dw]; exact (bj bg.cells).trans rfl
 refine eE ag<|tn<|d7 _ _<|sq fun fU d8=> ?_
 have G:(fun w'=>Wk a4 w') a4.drew:=(Md.refl _ _).drew
 refine eF (fun w'=>Wk a4 w') 18 aa wide G<|lq 0 aa ag (fun _ _=>aH (.pointer<|some ⟨H.rb,0,none⟩) aa) G<|lq 1 aa ag (fun _ _=>nc aa) G<|lq 2 aa ag (fun _ _=>fa fY aa) G<|lq 3 aa ag (fun w' A=>ld eT aa<|Wk.aM A<|(bj bq.cells).trans aa) G<|lq 4 aa ag (fun _ _=>nc aa) G<|lq 5 aa ag (fun _ _=>fa Ek aa) G<|lq 6 aa ag (fun w' A=>ld sj aa<|Wk.aM A<|(bj bg.cells).trans aa) G<|lq 7 aa ag (fun _ _=>fa y8 aa) G<|lq 8 aa ag (fun w' A=>ld bW aa<|Wk.aM A<|(bj di).trans aa) G<|lq 9 aa ag (fun _ _=>aH (.pointer<|some ⟨H.rb,0,none⟩) aa) G<|lq 10 aa ag (fun _ _=>nc aa) G<|lq 11 aa ag (fun _ _=>fa fY aa) G<|lq 12 aa ag (fun w' A=>ld eT aa<|Wk.aM A<|(bj bq.cells).trans aa) G<|lq 13 aa ag (fun _ _=>nc aa) G<|lq 14 aa ag (fun _ _=>fa fI aa) G ?_
 refine lq 15 aa ag (fun _ _=>fa q9 aa) G<|lq 16 aa ag (fun w' A=>ld uw aa<|Wk.aM A<|eZ) G<|lq 17 aa ag (fun _ _=>bM Hd aa aa) G<|db 18 aa ag ag<|qn ql p9 (co.wk G) aa aa aa (⟨_,aa⟩) fun a5 ei eu=> ?_
 have ev:bQ a5.heap H.mc (jn .u16) (bu cf (aT x)<|.int .i64 (F.bz.length:Nat)):=eu
 have bk:=iN ei
 have cg:TF a4 [1] (fun k=>k=H.mc):=TF.eq (dD co) ay
 have bt:=(OM bg).md (L:= [1]) bk cg ay
 have bO:=bq.md (L:= [1]) bk cg ay bq.ne.2.1 bq.ne.2.2
 have de:=bk.jH cg di ay
 have eO:=eN.md bk fun k hk cur z cq=>by subst hk; exact co.mF cq
 have ep:=en.trans<|bk.mono fun k _ hk=>⟨hk ▸ bg.lo.2,.inr<|.inr<|.inl hk⟩
 have dk:=e4 J e9
 have bB:¬(V.v11.ownBlock=some H.rb):=dS bt.fN bO.cells ay
 have cs:¬(V.v11.ownBlock=some H.fb):=dS bt.fN bt.cells ay
 refine eE ag<|tn<|d8 _ _<|sq fun fV d9=> ?_
 have Z:(fun w'=>Md (fun k=>V.v11.ownBlock=some k) a5 w') a5.drew:=(Md.refl _ _).drew
 refine eF (fun w'=>Md (fun k=>V.v11.ownBlock=some k) a5 w') 18 aa wide Z<|cy 0 aa ag (fun _=>aH (.pointer<|some ⟨H.rb,0,none⟩) aa) (fun _=>Z)<|cy 1 aa ag (fun _=>nc aa) (fun _=>Z)<|cy 2 aa ag (fun _=>fa fY aa) (fun _=>Z)<|jq 3 aa ag (fun w' A=>ld eT aa<|Md.aM A ((bj bO.cells).trans aa) bB) Z<|cy 4 aa ag (fun _=>aH (.pointer<|some ⟨H.rb,0,none⟩) aa) (fun _=>Z)<|cy 5 aa ag (fun _=>nc aa) (fun _=>Z)<|cy 6 aa ag (fun _=>fa fY aa) (fun _=>Z)<|jq 7 aa ag (fun w' A=>ld eT aa<|Md.aM A ((bj bO.cells).trans aa) bB) Z<|cy 8 aa ag (fun _=>nc aa) (fun _=>Z)<|cy 9 aa ag (fun _=>fa fI aa) (fun _=>Z)<|cy 10 aa ag (fun _=>fa q9 aa) (fun _=>Z)<|jq 11 aa ag (fun w' A=>ld uw aa<|Md.aM A ((bj bt.cells).trans aa) cs) Z<|jq 12 aa ag (fun w' A=>cK sn aa (aa) fun j e2=>bE.bp ⟨_,Md.aE A de dk⟩ j) Z<|iL 13 aa ag<|oN wg aa aa aa fun f3 fJ f9 cT dW=> ?_
 have aW:=iN cT.md
 have ax:=bt.wk aW
 have cZ:=bO.wk aW
 have gq:=(cY.1 cZ.cells).1
 have c5:(fun w'=>Md (fun k=>V.v11.ownBlock=some k) a5 w') fJ:=Z.trans' cT.md fun _ _ h=>h.elim
 refine ⟨c5,?_⟩
 refine iL 14 aa ag<|ap wg (ax.fN) aa ab aa (aG.fO dW) (aa) (aa) ab ab fun cv dC dp aR gv ge=> ?_
 have er:=(ep.trans<|Wk.mw aW).trans<|Mw.of aR (TF.own ax.fN ay) fun k hk=>(dd ax.fN hk).1
 have bl:=cx.own cZ ax.fN aR ay
 have bw:=aR.aE ax.cells<|dS ax.fN ax.cells ay
 have ch:=aR.aE (Wk.aE aW de) dk
 have eG:=(eO.wk aW).md aR<|jd ax.fN ay
 have e7:bm dC B 192 5 cv (F.bz++ [(⟨x,(if r.getD 0 []=du then 2 else 1:Nat),(decide (r.getD 2 []= [89])),F.rules.length,n⟩:dI)]).length (lO<|F.bz++ [(⟨x,(if r.getD 0 []=du then 2 else 1:Nat),(decide (r.getD 2 []= [89])),F.rules.length,n⟩:dI)]):=by rw [show lO (F.bz++ [(⟨x,(if r.getD 0 []=du then 2 else 1:Nat),(decide (r.getD 2 []= [89])),F.rules.length,n⟩:dI)])=lO F.bz++my (⟨x,(if r.getD 0 []=du then 2 else 1:Nat),(decide (r.getD 2 []= [89])),F.rules.length,n⟩:dI) from by simp [lO],bK]; exact dp
 have bS:(fun w'=>Md (fun k=>V.v11.ownBlock=some k) a5 w') dC:=c5.trans' aR fun _ _ h=>h
 refine ⟨bS,?_⟩
 refine cy 15 aa ag (fun _=>nc aa) (fun _=>bS)<|cy 16 aa ag (fun _=>fa fI aa) (fun _=>bS)<|cy 17 aa ag (fun _=>fa q9 aa) (fun _=>bS)<|db 18 aa ag ag<|dQ Ds aa aa (v:=cv) (eQ dp) bw (by show _ < 14; omega) fun a2 an b7=> ?_
 have dY:=mY.JI (x:=(⟨x,(if r.getD 0 []=du then 2 else 1:Nat),(decide (r.getD 2 []= [89])),F.rules.length,n⟩:dI)) ax (ev.wk aW) (MN (c:=(⟨x,(if r.getD 0 []=du then 2 else 1:Nat),(decide (r.getD 2 []= [89])),F.rules.length,n⟩:dI)) aU e1) aR e7 an b7
 have ex:=cx.vb bl bw an
 have df:=an.aE ch fun h=>by rw [h,bw] at ch; cases ch
 have eH:=eG.md an<|gW bw ay
 have ek:=er.trans<|Mw.of an (TF.eq (dO bw) ay) fun k hk=>hk ▸ ax.lo.1
 refine eE ag<|tn<|d9 _ _<|sq fun fW eb=>rg aa<|p (fa vq aa)<|p (ld bR aa<|(bj df).trans aa)<|p mv<|nl<|tn<|eb _ _<|aE<|lp (fun cI a6 aj=> ∃ (i:Nat) (xs:List cC) (rows':List Rw) (bX:Nat) (I:dU) (R':fT),(i≤n)∧(gM [r.getD 0 [],r.getD 1 []] (iV F.kind F.aliases (⟨x,(if r.getD 0 []=du then 2 else 1:Nat),(decide (r.getD 2 []= [89])),F.rules.length,n⟩:dI)) H.eof (group [r.getD 0 [],r.getD 1 []] (iV F.kind F.aliases (⟨x,(if r.getD 0 []=du then 2 else 1:Nat),(decide (r.getD 2 []= [89])),F.rules.length,n⟩:dI)) H.eof n rows) xs (n - i) rows')∧(xs.length=i)∧(cV aj B H.fb H.mc {F with bz:=F.bz++ [(⟨x,(if r.getD 0 []=du then 2 else 1:Nat),(decide (r.getD 2 []= [89])),F.rules.length,n⟩:dI)],rules:=F.rules++xs} I)∧(cx aj B H {F with bz:=F.bz++ [(⟨x,(if r.getD 0 []=du then 2 else 1:Nat),(decide (r.getD 2 []= [89])),F.rules.length,n⟩:dI)],rules:=F.rules++xs} R' rows' bX seen)∧(jz {F with bz:=F.bz++ [(⟨x,(if r.getD 0 []=du then 2 else 1:Nat),(decide (r.getD 2 []= [89])),F.rules.length,n⟩:dI)],rules:=F.rules++xs} rows' seen)∧(ew B H w aj)∧(aj.heap[J]? =some (.cells [aT x,.int .i64 ((if r.getD 0 []=du then 2 else 1:Nat):Nat),.bool (decide (r.getD 2 []= [89])),.int .i64 (F.rules.length:Nat),.int .i64 (n:Nat)].toArray 192 (0,0)))∧(Tg aj cF 9 r.length (.slice ar r.length cr)<|r.map str)∧(a6 0= .pointer (some ⟨H.rb,0,none⟩))∧(a6 1= .slice ar r.length cr)∧(a6 4= .pointer (some ⟨J,0,none⟩))∧(a6 102= .int .i64 (n:Nat))∧(a6 103= .int .i64 (i:Nat))∧(n - i=cI)) _ ⟨0,[],rows,ln,{V with v11:=cv},R,ab,gM.start,aa,(by rw [eM]; exact dY),(by rw [eM]; exact ex),(⟨by simp only [bK,ic,gz]; omega,aJ.sl,aJ.row,aJ.kd,aJ.al⟩),ek,df,eH,aa,aa,aa,aa,aa,aa⟩ ?_
 rintro cI a6 aj ⟨i,xs,rows',bX,I,R',hi,aY,fC,cL,az,bb,cO,dr,bs,fs,ft,fw,fu,fv,rfl⟩
 refine fx 0 fs<|fx 1 ft<|fx 4 fw<|fx 102 fu<|fx 103 fv<|sq fun fX ec=>rg aa<|p (lt aa aa)<|nl<|tn<|ec _ _<|sq fun fZ ed=>cd aa (fun eY=> ?_) fun eY=> ?_
 refine aQ<|tn<|ed _ _<|sq fun fK d2=>aE<|sq fun fL d3=> ?_
 have aA:(fun w'=>Md (fun k=>k=H.rb) aj w') aj.drew:=(Md.refl _ _).drew
 refine cD (fun w'=>Md (fun k=>k=H.rb) aj w') aa wide aA<|hp 0 aa ag (fun _ _=>aH (.pointer<|some ⟨H.rb,0,none⟩) aa) aA<|hp 1 aa ag (fun _ _=>aH (.slice ar r.length cr) aa) aA<|hp 2 aa ag (fun _ _=>a7 c8 aa aa ab<|aG.ok (bs.dy.2)<|cX ab) aA<|hp 3 aa ag (fun w' A=>ld cB aa<|dt.get (i:=0) (bs.md A<|gW az.cells ay).dy.2 ab) aA<|hp 4 aa ag (fun _ _=>aH (.slice ar r.length cr) aa) aA<|hp 5 aa ag (fun _ _=>a7 c8 aa aa ab<|aG.ok (bs.dy.2)<|cX ab) aA<|hp 6 aa ag (fun w' A=>ld cB aa<|dt.get (i:=1) (bs.md A<|gW az.cells ay).dy.2 ab) aA<|he 7 aa ag<|pQ (L:= [str (r.getD 0 []),str (r.getD 1 [])]) jP aa aa aa aa fun dJ cw f7 cS dN=> ?_
 have ak:Wk aj cw:=iN cS.md
 have cP:=cO.trans<|Wk.mw ak
 have c0:(fun w'=>Md (fun k=>k=H.rb) aj w') cw:=aA.trans' cS.md fun _ _ h=>h.elim
 refine ⟨c0,?_⟩
 refine ri 8 aa ag aa (cU yh (zl B H {F with bz:=F.bz++ [(⟨x,(if r.getD 0 []=du then 2 else 1:Nat),(decide (r.getD 2 []= [89])),F.rules.length,n⟩:dI)],rules:=F.rules++xs} R' rows' bX seen [r.getD 0 [],r.getD 1 []] dJ 2 _ _ cw (az.wk ak) (Tg.z1 dN aa) aa ay fun q ct=>(bb.row q ct).2.1) aa fun gy aF eA=> ?_) (fun c w' C aV O=>by
  obtain ⟨h1,h2⟩:=C
  have hm:=cP.trans<|ew.rb (az.wk ak) h2
  rcases h1 with ⟨rfl,h3⟩ | ⟨bY,a1,rest,rfl,h4,h3⟩
  exact ⟨_,_,yw ai a0 aZ bD (aY.ends ab),h3,hm⟩
  exact ⟨_,_,yw ai a0 aZ bD (aY.other ab h4),h3,hm⟩)
 obtain ⟨bY,a1,rest,rfl,dv,⟨aI,bo⟩,hT15,hM15⟩:=eA
 obtain ⟨dH,pS,rfl⟩:=hT15.slice
 have aN:=(cL.wk ak).rb (az.wk ak) hM15
 have cR:=cP.trans<|ew.rb (az.wk ak) hM15
 have fd:a1≠[]∧a1.length≤70000∧∀ x∈a1,x.length≤70000:=bb.row (bY,a1)<|by simp
 have ba:=jz.qZ bb
 have eW:=bb.len
 simp only [bU,bK] at eW
 have eI:=(bs.wk ak).md hM15<|gW (az.wk ak).cells ay
 have ci:=hM15.aE (Wk.aE ak dr) fun h=>by have h1:=(az.wk ak).cells; rw [← h,Wk.aE ak dr] at h1; cases h1
 have c1:(fun w'=>Md (fun k=>k=H.rb) aj w') aF:=c0.trans' hM15 fun _ _ h=>h
 refine ⟨c1,?_⟩
 refine hp 9 aa ag (fun _ _=>aC) c1<|hn ag<|tn<|d3 _ _<|sq fun fM d4=> ?_
 have bB:¬(I.v12.ownBlock=some H.rb):=dS aN.ej bo.cells ay
 have cs:¬(I.v12.ownBlock=some H.fb):=dS aN.ej aN.cells ay
 have e3:¬(I.v12.ownBlock=some J):=dS aN.ej ci ay
 have Y:(fun w'=>Md (fun k=>I.v12.ownBlock=some k) aF w') aF.drew:=(Md.refl _ _).drew
 refine eF (fun w'=>Md (fun k=>I.v12.ownBlock=some k) aF w') 21 aa wide Y<|cy 0 aa ag (fun _=>aH (.pointer<|some ⟨H.rb,0,none⟩) aa) (fun _=>Y)<|cy 1 aa ag (fun _=>nc aa) (fun _=>Y)<|cy 2 aa ag (fun _=>fa fY aa) (fun _=>Y)<|jq 3 aa ag (fun w' A=>ld eT aa<|Md.aM A ((bj bo.cells).trans aa) bB) Y<|cy 4 aa ag (fun _=>aH (.pointer<|some ⟨H.rb,0,none⟩) aa) (fun _=>Y)<|cy 5 aa ag (fun _=>nc aa) (fun _=>Y)<|cy 6 aa ag (fun _=>fa fY aa) (fun _=>Y)<|jq 7 aa ag (fun w' A=>ld eT aa<|Md.aM A ((bj bo.cells).trans aa) bB) Y<|cy 8 aa ag (fun _=>nc aa) (fun _=>Y)<|cy 9 aa ag (fun _=>fa fI aa) (fun _=>Y)<|cy 10 aa ag (fun _=>fa mC aa) (fun _=>Y)<|jq 11 aa ag (fun w' A=>ld k5 aa<|Md.aM A ((bj aN.cells).trans aa) cs) Y<|cy 12 aa ag (fun _=>aH (.pointer<|some ⟨H.rb,0,none⟩) aa) (fun _=>Y)<|jq 13 aa ag (fun w' A=>cK sn aa (aa) fun j e2=>bE.bp ⟨_,Md.aE A ci e3⟩ j) Y<|cy 14 aa ag (fun _=>mv) (fun _=>Y) ?_
 refine Fh 15 aa ag aa (cU KK (vP B H {F with bz:=F.bz++ [(⟨x,(if r.getD 0 []=du then 2 else 1:Nat),(decide (r.getD 2 []= [89])),F.rules.length,n⟩:dI)],rules:=F.rules++xs} I aI rest bY seen (⟨x,(if r.getD 0 []=du then 2 else 1:Nat),(decide (r.getD 2 []= [89])),F.rules.length,n⟩:dI) a1 B dH pS aF.drew (aN.wk (Md.refl _ _).drew) (bo.wk (Md.refl _ _).drew) ba (by show (if r.getD 0 []=du then 2 else 1)=1∨(if r.getD 0 []=du then 2 else 1)=2; split <;> simp) (hT15.wk (Md.refl _ _).drew) fd.2) aa fun gx fE ey=> ?_) fun c w' C aV O=>by obtain ⟨e,he,h,h2⟩:=C; exact ⟨_,_,yw ai a0 aZ bD (aY.bad ab dv he),h,cR.trans<|Wk.mw<|iN h2⟩
 obtain ⟨q,ct,fc,⟨vn,rfl,dc⟩,bJ⟩:=ey
 obtain ⟨a8,a9,rfl⟩:=dc.slice
 have bJ:=iN bJ
 have c2:(fun w'=>Md (fun k=>I.v12.ownBlock=some k) aF w') fE:=Md.mono bJ fun _ _ h=>h.elim
 refine ⟨c2,?_⟩
 refine iL 16 aa ag<|oN vV aa aa aa fun f1 fF f6 ca dM=> ?_
 have bc:=bJ.trans ca.md
 have ac:=aN.wk bc
 have cW:=bo.wk bc
 have eJ:=eI.wk bc
 have dg:=Wk.aE bc ci
 have eS:=dc.wk ca.md
 have gn:=(cY.1 cW.cells).1
 have c3:(fun w'=>Md (fun k=>I.v12.ownBlock=some k) aF w') fF:=c2.trans' ca.md fun _ _ h=>h.elim
 refine ⟨c3,?_⟩
 refine iL 17 aa ag<|ap vV (ac.ej) aa ab aa (aG.fO dM) (aa) (aa) (by simp only [bK]; omega) (by simp only [bK]; omega) fun v131 dz dl aO gt gc=> ?_
 have el:=(cR.trans<|Wk.mw bc).trans<|Mw.of aO (TF.own ac.ej ay) fun k hk=>(dd ac.ej hk).1
 have eD:=cx.own cW ac.ej aO ay
 have bx:=aO.aE ac.cells<|dS ac.ej ac.cells ay
 have ck:=aO.aE dg<|dS ac.ej dg ay
 have eK:=eJ.md aO<|jd ac.ej ay
 have e5:bm dz B 134 7 v131 ((F.rules++xs)++ [q]).length (fP<|((F.rules++xs)++ [q]).zip<|I.rn++ [.slice a8 q.next.length a9]):=by
  have fD:(F.rules++xs).length=I.rn.length:=by have :=ac.nx.1; rw [eX] at this; exact this.symm
  rw [List.zip_append fD,show fP ((F.rules++xs).zip I.rn++ [q].zip [.slice a8 q.next.length a9])=fP ((F.rules++xs).zip I.rn)++dG (q,.slice a8 q.next.length a9) from by simp [fP],bK]
  exact dl
 have bP:(fun w'=>Md (fun k=>I.v12.ownBlock=some k) aF w') dz:=c3.trans' aO fun _ _ h=>h
 refine ⟨bP,?_⟩
 refine cy 18 aa ag (fun _=>nc aa) (fun _=>bP)<|cy 19 aa ag (fun _=>fa fI aa) (fun _=>bP)<|cy 20 aa ag (fun _=>fa mC aa) (fun _=>bP)<|db 21 aa ag ag<|dQ Dj aa aa (v:=v131) (eQ dl) bx (by show _ < 14; omega) fun a2 an b7=> ?_
 have d0:=cV.JJ (x:=q) (vx:= .slice a8 q.next.length a9) ac eS aO e5 an b7
 have aS:=cx.vb eD bx an
 have dh:=an.aE ck fun h=>by rw [h,bx] at ck; cases ck
 have eL:=eK.md an<|gW bx ay
 have em:=el.trans<|Mw.of an (TF.eq (dO bx) ay) fun k hk=>hk ▸ ac.lo.1
 refine eE ag<|tn<|d4 _ _ ?_
 have av:(fun w'=>Md (fun k=>aI.vn.ownBlock=some k) a2 w') a2.drew:=(Md.refl _ _).drew
 refine eF (fun w'=>Md (fun k=>aI.vn.ownBlock=some k) a2 w') 13 aa wide av<|cy 0 aa ag (fun _=>aH (.pointer<|some ⟨H.rb,0,none⟩) aa) (fun _=>av)<|cy 1 aa ag (fun _=>aH (.pointer<|some ⟨H.rb,0,none⟩) aa) (fun _=>av)<|cy 2 aa ag (fun _=>nc aa) (fun _=>av)<|cy 3 aa ag (fun _=>fa y6 aa) (fun _=>av)<|jq 4 aa ag (fun w' A=>ld xY aa<|Md.aM A ((bj aS.cells).trans aa)<|dS aS.on aS.cells ay) av<|cy 5 aa ag (fun _=>aH (.pointer<|some ⟨H.rb,0,none⟩) aa) (fun _=>av)<|cy 6 aa ag (fun _=>nc aa) (fun _=>av)<|cy 7 aa ag (fun _=>fa sS aa) (fun _=>av)<|jq 8 aa ag (fun w' A=>ld bR aa<|Md.aM A ((bj aS.cells).trans aa)<|dS aS.on aS.cells ay) av<|iL 9 aa ag<|kG mK aa aa fun f2 dA f8 es dP=> ?_
 have aK:=iN es.md
 have ae:=aS.wk aK
 have cM:=d0.wk aK
 have gp:=(cY.1 ae.cells).1
 have c4:(fun w'=>Md (fun k=>aI.vn.ownBlock=some k) a2 w') dA:=Md.mono aK fun _ _ h=>h.elim
 refine ⟨c4,?_⟩
 refine iL 10 aa ag<|ap mK (ae.on) aa ab aa (aG.fO dP) (aa) (aa) (by simp only [bK]; omega) (by simp only [bK]; omega) fun v145 b0 dn aP gu gd=> ?_
 have eo:=(em.trans<|Wk.mw aK).trans<|Mw.of aP (TF.own ae.on ay) fun k hk=>(dd ae.on hk).1
 have da:TF dA [5] (fun k=>aI.vn.ownBlock=some k):=TF.own ae.on ay
 have cN:=cM.md aP da ay fun h=>by obtain ⟨f,cp,_⟩:=cM.cm; exact da.no (dD cp) ay h
 have bA:=aP.aE ae.cells<|dS ae.on ae.cells ay
 have cl:=aP.aE (Wk.aE aK dh)<|dS ae.on (Wk.aE aK dh) ay
 have eR:=(eL.wk aK).md aP<|jd ae.on ay
 have e6:bm b0 B 3 1 v145 ((F.rules++xs)++ [q]).length (((F.rules++xs)++ [q]).map fun r=>ff .i64 (r.line:Nat)):=by
  rw [gA,bK]
  show bm b0 B 3 1 v145 _ (_++ [ff .i64 (q.line:Nat)])
  rw [fc]
  exact dn
 have ce:(fun w'=>Md (fun k=>aI.vn.ownBlock=some k) a2 w') b0:=c4.trans' aP fun _ _ h=>h
 refine ⟨ce,?_⟩
 refine cy 11 aa ag (fun _=>nc aa) (fun _=>ce)<|cy 12 aa ag (fun _=>fa y6 aa) (fun _=>ce)<|db 13 aa ag ag<|dQ Nv aa aa (v:=v145) (eQ dn) bA (by show _ < 7; omega) fun bZ bh dL=> ?_
 have c9:TF b0 [169] (fun k=>k=H.rb):=TF.eq (dO bA) ay
 have d1:=cN.md bh c9 ay fun h=>by obtain ⟨f,cp,_⟩:=cN.cm; exact c9.no (dD cp) ay h
 exact eE ag<|bn<|tn<|d2 _ _<|rg aa<|p (ad aa aa<|cH ab)<|p mv<|nl<|tn<|⟨_,ab,i+1,xs++ [q],rest,bY,{I with v12:=v131,rn:=I.rn++ [.slice a8 q.next.length a9]},{aI with vn:=v145},ab,(by rw [show n - (i+1)=n - i - 1 by omega]; exact aY.step ab dv ct),(by rw [bK,fC]; rfl),(by rw [← ib]; exact d1),(by rw [← ib]; exact cx.R9 (q:=q) ae aP e6 bh dL aa fun _=>rfl),(⟨by simp only [bK,ic]; omega,ba.sl,ba.row,ba.kd,ba.al⟩),(eo.trans<|Mw.of bh (TF.eq (dO bA) ay) fun k hk=>hk ▸ ae.lo.1),(bh.aE cl fun h=>by rw [h,bA] at cl; cases cl),(eR.md bh<|gW bA ay),aa,aa,aa,aa,aa,aa⟩
 refine ext<|te _<|te _<|be<|iG<|f0 aa ?_
 rw [show n - i=0 by omega] at aY
 exact ⟨aa,_,rows',bX,Mk ai a0 aZ bD aY.done,⟨I,R',cL,az,bb⟩,cO⟩
end Go.Hb.pF
end
section
namespace Go.Hb
open Go.Hb.eH Go.Hb.mX Go.Hb.pF Go.Hb.oI
def qV:dI:=⟨0,0,false,0,0⟩
theorem OU {x:Nat} :∀ {cs:List dI} {i:Nat},cs.findIdx? (fun c=>decide (c.flag=x))=some i→∃ c,cs[i]? =some c∧dE cs x=some c:=by
 intro cs
 induction cs with
 | nil=>intro i h; simp at h
 | cons a l E=>
   intro i h
   rw [List.findIdx?_cons] at h
   unfold dE
   rw [Is]
   by_cases A:a.flag=x
   · simp only [A,decide_true,if_true] at h ⊢
     cases h
     exact ⟨a,aa,aa⟩
   · simp only [A,decide_false] at h ⊢
     simp only [Bool.false_eq_true,if_false,Option.map_eq_some_iff] at h
     obtain ⟨j,C,rfl⟩:=h
     obtain ⟨c,h1,h2⟩:=E C
     exact ⟨c,by simpa using h1,h2⟩
theorem Sn {F:aB} {x:Nat} (h:x=F.sp.getD 0 0):lT F x=true :=by unfold lT; rw [decide_eq_true h]; rfl
theorem Sp {F:aB} {x:Nat} (h:(dE F.bz x).isSome=true) (hk:((dE F.bz x).getD qV).kind=2):lT F x=true :=by
 unfold lT
 obtain ⟨c,A⟩:=nS.1 h
 rw [A] at hk ⊢
 simp only [I1] at hk
 simp [hk]
theorem z7 {F:aB} {x:Nat} (A:x≠F.sp.getD 0 0) (h:(dE F.bz x).isSome=true) (hk:((dE F.bz x).getD qV).kind≠2):lT F x=false :=by
 unfold lT
 obtain ⟨c,C⟩:=nS.1 h
 rw [C] at hk ⊢
 simp only [I1] at hk
 rw [decide_eq_false A]
 simp [hk]
theorem z8 {F:aB} {x:Nat} (A:x≠F.sp.getD 0 0) (h:(dE F.bz x).isSome=false):lT F x=false :=by
 unfold lT
 rw [decide_eq_false A]
 cases hc:dE F.bz x with
 | none=>rfl
 | some c=>rw [hc] at h; cases h
theorem qN {F:aB} {q:cC} {j:Nat} (c:j < q.next.length) (h:lT F (q.next.getD j 0)=false):mZ F q=true :=by
 unfold mZ
 rw [List.any_eq_true]
 exact ⟨_,fg c,by rw [h]; rfl⟩
theorem JX {F:aB} {q:cC} (h:∀ j,j < q.next.length→lT F (q.next.getD j 0)=true):mZ F q=false :=by
 unfold mZ
 rw [Il]
 intro x A
 obtain ⟨j,c,rfl⟩:=og 0 A
 rw [h j c]; simp
theorem q7 {p:cC→Bool} {q:cC} :∀ {l:List cC} {i:Nat},(∀ j c,j < i→l[j]? =some c→p c=false)→l[i]? =some q→p q=true→l.find? p=some q:=by
 intro l
 induction l with
 | nil=>intro i _ h; simp at h
 | cons a l E=>
   intro i A hi hp
   rw [Is]
   cases i with
   | zero=>simp only [List.getElem?_cons_zero,Option.some.injEq] at hi; subst hi; rw [hp]
   | succ i=>
     rw [A 0 a ab rfl]
     exact E (i:=i) (fun j c G C=>A (j+1) c ab<|by simpa using C) (by simpa using hi) hp
theorem OX {p:cC→Bool} {l:List cC} (h:∀ j A,j < l.length→l[j]? =some A→p A=false):l.find? p=none:=by
 rw [By]
 intro q C
 obtain ⟨j,c⟩:=List.getElem?_of_mem C
 rw [h j q (eu.1 c).1 c]; simp
theorem OV {x:Nat} {cs:List dI} (h:cs.findIdx? (fun c=>decide (c.flag=x))=none):dE cs x=none:=by
 rw [It] at h
 unfold dE
 rw [By]
 intro c A
 simpa using h c A
theorem yQ (B fb mc:Nat) (F:aB) (V:dU) (x:Nat) (w:World) (C:cV w B fb mc F V) (aR:F.bz.length≤70000):
 ba au 136 (aX [aV fb,aT x]) w (fun v w'=>v= .tuple #[.agg (my<|(dE F.bz x).getD qV).toArray,.bool (dE F.bz x).isSome]∧Wk w w'):=by
 obtain ⟨an,ko,ac⟩:=cQ C.fN
 have Y:=C.fN
 rw [ac] at Y
 have ay:Hb.aM w.heap fb 11=some (.slice an F.bz.length ko):=by rw [← ac]; exact (bj C.cells).trans rfl
 obtain ⟨f,aE,aF⟩:=C.cm
 obtain ⟨iv,ob,aH,aJ,J⟩:∃ (iv:Nat) (ob:Bool),(f<|aT x).getD (.int .i64 0)=aj iv∧(f<|aT x).isSome=ob∧((ob=false∧dE F.bz x=none)∨(ob=true∧∃ c,F.bz[iv]? =some c∧dE F.bz x=some c)):=by
  rw [aF x]
  cases hfi:F.bz.findIdx? (fun c=>decide (c.flag=x)) with
  | none=>exact ⟨0,false,rfl,rfl,.inl ⟨rfl,OV hfi⟩⟩
  | some i=>exact ⟨i,true,rfl,rfl,.inr ⟨rfl,OU hfi⟩⟩
 refine enter func136 aa ntmps136 aa<|ak fun ad=>e<|al rS fun aN aS aO A I=>aw<|ad<|az fun ae=>az fun ag=>rg aa<|ao (aV fb)<|p (lf tx aa aa)<|nl<|ag<|cf (aa)<|aQ<|ae<|ak fun ah=>ao (aV fb)<|p (nc aa)<|p (fa Ek aa)<|p (ld sj aa<|Wk.aM A.md<|(bj C.cells).trans aa)<|ao (aT x)<|p (Fq ql l5 p9 (aE.wk A.md) aa aa (⟨_,aa⟩) (aH)<|aJ)<|p mv<|p (xt aa aa)<|p (xt aa aa)<|p aC<|aw<|ah<|az fun ai=>ak fun am=>p mv<|p (no aa)<|nl<|am<|cb aa (fun G=> ?_) fun G=> ?_
 have aK:ob=false :=by simpa using G
 have aD:dE F.bz x=none:=by rcases J with ⟨_,h⟩ | ⟨h,_⟩; exact h; rw [aK] at h; cases h
 exact ak fun E=>p (c7 (ps:= []) (L:= [.int .u16 0,.int .i64 0,.bool false,.int .i64 0,.int .i64 0]) AF aa<|aa)<|e<|cG pU aa aa aa aa (I) (by simp) fun aW av ap=>aw<|E<|rt<|tr<|eU aa (dN (cs:=my qV) aa sn aa fun j aI=>ap.bp j) ek<|⟨by rw [aD]; rfl,A.md.trans' av fun k hk h=>by omega⟩
 have aL:ob=true :=by simpa using G
 obtain ⟨c,O,aA⟩:∃ c,F.bz[iv]? =some c∧dE F.bz x=some c:=by rcases J with ⟨h,_⟩ | ⟨_,h⟩; rw [aL] at h; cases h; exact h
 have aP:=(eu.1 O).1
 have Z:=a8 Y A.md
 exact aQ<|ai<|ak fun E=>ao (aV fb)<|p (nc aa)<|p (fa fI aa)<|p (fa q9 aa)<|p (ld uw aa<|Wk.aM A.md ay)<|p mv<|p (a7 OK aa aa ab<|aG.ok ((aU Z).2) fun h=>by have :=congrArg List.length h; rw [show (lO F.bz).length=F.bz.length*5 from lR (f:=my) (m:=5) (fun _=>rfl) _] at this; simp at this; omega)<|p (cK sn aa (aa)<|gY (f:=my) (m:=5) (fun _=>rfl) (aU Z).2 O)<|e<|cG pU aa aa aa aa (I) (by simp) fun aY ax aq=>aw<|E<|rt<|eU aa (dN (cs:=my c) aa sn aa fun j aI=>aq.bp j) ek<|⟨by rw [aA]; rfl,A.md.trans' ax fun k hk h=>by omega⟩
theorem L7 (B:Nat) (H:cj) (F:aB) (rows:List Rw) (ln:Nat) (seen:List Tx) (w:World) (bD:St w B H F rows ln seen) (bP:∀ q∈F.rules,q.next.length≤64):
 ez au 76 (aX [.pointer (some ⟨H.rb,0,none⟩)]) w (fun v w'=>v= .tuple #[]∧F.rules.find? (mZ F)=none∧(∃ V R' az,cV w' B H.fb H.mc F V∧cx w' B H F R' rows az seen)∧ew B H w w') (fun c w'=> ∃ q,F.rules.find? (mZ F)=some q∧c=gZ 45 q.line 118∧ew B H w w'):=by
 obtain ⟨V,R,Y,av,ba⟩:=bD
 obtain ⟨a12,aF,aW⟩:=cQ Y.ej
 have bQ:=Y.ej
 rw [aW] at bQ
 have bG:Hb.aM w.heap H.fb 12=some (.slice a12 F.rules.length aF):=by rw [← aW]; exact (bj Y.cells).trans rfl
 obtain ⟨vr,vs,vn⟩:=R
 obtain ⟨ao,cv,b9⟩:=cQ av.on
 obtain rfl :vn= .slice ao F.rules.length cv:=b9
 have cA:=ba.len
 have cB:=av.lo
 refine ja func76 aa ntmps76 aa<|sq fun ce bk=>rg aa<|p (aH (.pointer<|some ⟨H.rb,0,none⟩) aa)<|p (nc aa)<|p (fa fY aa)<|p (ld eT aa<|(bj av.cells).trans aa)<|p (nc aa)<|p (fa fI aa)<|p (fa mC aa)<|p (ld k5 aa<|bG)<|p (bM o4 aa aa)<|p mv<|nl<|tn<|bk _ _<|aE<|lp (fun ag an am=> ∃ (i az:Nat),(i≤F.rules.length)∧(∀ j q,j < i→F.rules[j]? =some q→mZ F q=false)∧(cV am B H.fb H.mc F V)∧(cx am B H F ⟨vr,vs,.slice ao F.rules.length cv⟩ rows az seen)∧(ew B H w am)∧(an 0= .pointer (some ⟨H.rb,0,none⟩))∧(an 15= .slice a12 F.rules.length aF)∧(an 16= .int .i64 (F.rules.length:Nat))∧(an 17= .int .i64 (i:Nat))∧(F.rules.length - i=ag)) _ ⟨0,ln,ab,(fun j q a3=>by omega),Y,av,(Md.refl _ _),aa,aa,aa,aa,aa⟩ ?_
 rintro ag an am ⟨i,az,hi,J,aq,aN,aZ,bU,bX,bY,b0,rfl⟩
 refine fx 0 bU<|fx 15 bX<|fx 16 bY<|fx 17 b0<|sq fun ck bo=>rg aa<|p (lt aa aa)<|nl<|tn<|bo _ _<|sq fun cm bp=>cd aa (fun bJ=> ?_) fun bJ=> ?_
 refine aQ<|tn<|bp _ _<|sq fun cn bq=>aE<|sq fun co br=> ?_
 have aR:=aq.ej
 rw [aW] at aR
 have a2:i < F.rules.length:=ab
 obtain ⟨vn,b8,aP⟩:=dw.get aq.nx (i:=i)<|by rw [eX]; exact a2
 obtain ⟨q,C⟩:∃ q,F.rules[i]? =some q:=⟨_,bZ a2⟩
 have bT:(F.rules.map (·.next)).getD i []=q.next:=by rw [cM,eR,C]; rfl
 rw [bT] at aP
 have cD:=bP q<|gB C
 obtain ⟨aD,aI,rfl⟩:=aP.slice
 have a4:(F.rules.zip V.rn)[i]? =some (q,.slice aD q.next.length aI):=by rw [List.getElem?_zip_eq_some]; exact ⟨C,b8⟩
 have a5:(fP<|F.rules.zip V.rn).length=(F.rules.zip V.rn).length*7:=lR (f:=dG) (m:=7) (fun _=>rfl) _
 have bO:(F.rules.map fun r=>ff .i64 (r.line:Nat))[i]? =some (.int .i64 (q.line:Nat)):=by rw [eR,C]; rfl
 refine rg aa<|p (aH (.int .i64 (i:Nat)) aa)<|p (a7 lg aa aa ab<|aG.ok ((aU aR).2) (fun h=>by rw [h] at a5; have h2:0=(F.rules.zip V.rn).length*7:=a5; have h3:=(eu.1 a4).1; omega)) ?_
 refine p (cK j0 aa (aa)<|gY (f:=dG) (m:=7) (fun _=>rfl) (aU aR).2 a4)<|e<|al ou fun cu cI cy a1 bc=> ?_
 skip
 refine p (bV (.int .i64 (i:Nat)) aa)<|e<|cG mA aa aa aa aa (bc) (by simp) fun cc bw bb=> ?_
 have ap:Wk am cc:=a1.md.trans' bw fun k hk h=>by omega
 have bh:=aq.wk ap
 have E:=aN.wk ap
 have cE:=a1.size
 have cC:=(cY.1 aN.cells).1
 refine nl<|tn<|br _ _<|sq fun cp bs=>rg aa<|p (aH (.pointer<|some ⟨H.rb,0,none⟩) aa)<|p (aH (.pointer<|some ⟨H.rb,0,none⟩) aa)<|p (nc aa)<|p (fa y6 aa)<|p (ld xY aa<|(bj E.cells).trans aa)<|p (aH (.int .i64 (i:Nat)) aa)<|p (a7 q6 aa aa ab<|aG.ok ((aU E.on).2)<|by simp; intro h; rw [h] at C; simp at C)<|p (ld bR aa<|aG.iD (aU E.on).2 bO)<|p (nc aa)<|p (fa sS aa)<|e<|dQ j6 aa aa (v:= .int .i64 (q.line:Nat)) aa E.cells (by show _ < 7; decide) fun cN ai bg=> ?_
 have bC:=E.dq (R':=⟨vr,vs,.slice ao F.rules.length cv⟩) (ln':=q.line) ai bg rfl E.rws E.rt
 have bi:=bh.rb E ai
 have bF:=ai.B bb fun h=>by omega
 have bE:=(aP.wk ap).md ai<|gW E.cells ay
 have bz:=(aZ.trans<|Wk.mw ap).trans<|ew.rb E ai
 refine nl<|tn<|bs _ _<|sq fun cq bt=>rg aa<|p (fa oS aa)<|p (ld lL aa<|(bF.aM 6).trans aa)<|p (bM nA aa aa)<|p mv<|nl<|tn<|bt _ _<|aE<|lp (fun ag O ae=> ∃ (j:Nat),(j≤q.next.length)∧(∀ ak,ak < j→lT F (q.next.getD ak 0)=true)∧(cV ae B H.fb H.mc F V)∧(cx ae B H F ⟨vr,vs,.slice ao F.rules.length cv⟩ rows q.line seen)∧(ew B H w ae)∧(Tg ae B 95 q.next.length (.slice aD q.next.length aI)<|q.next.map aT)∧(O 0= .pointer (some ⟨H.rb,0,none⟩))∧(O 15= .slice a12 F.rules.length aF)∧(O 16= .int .i64 (F.rules.length:Nat))∧(O 17= .int .i64 (i:Nat))∧(O 33= .slice aD q.next.length aI)∧(O 34= .int .i64 (q.next.length:Nat))∧(O 35= .int .i64 (j:Nat))∧(q.next.length - j=ag)) _ ⟨0,ab,(fun ak bL=>by omega),bi,bC,bz,bE,aa,aa,aa,aa,aa,aa,aa,aa⟩ ?_
 rintro ag O ae ⟨j,a3,aS,aK,aO,a0,aw,b1,b2,b3,b4,b5,b6,b7,rfl⟩
 refine fx 0 b1<|fx 15 b2<|fx 16 b3<|fx 17 b4<|fx 33 b5<|fx 34 b6<|fx 35 b7<|sq fun cs bu=>rg aa<|p (lt aa aa)<|nl<|tn<|bu _ _<|sq fun ct bv=>cd aa (fun bK=> ?_) fun bK=> ?_
 refine aQ<|tn<|bv _ _<|sq fun cf aL=>aE<|sq fun ch bl=> ?_
 have ca:(q.next.map aT)[j]? =some (aT<|q.next.getD j 0):=by rw [eR,cM,bZ (by omega :j < q.next.length)]; rfl
 refine rg aa<|p (a7 bI aa aa ab<|aG.ok (aw.dy.2)<|cX ab)<|p (ld bW aa<|aG.iD aw.dy.2 ca)<|p aC<|nl<|tn<|bl _ _<|sq fun ci bm=>rg aa<|p (aH (.pointer<|some ⟨H.rb,0,none⟩) aa)<|p (nc aa)<|p (fa fY aa)<|p (ld eT aa<|(bj aO.cells).trans aa)<|p mv<|e<|cl yb (yQ B H.fb H.mc F V (q.next.getD j 0) _ aK ab) aa fun v45 cJ bB=> ?_
 obtain ⟨rfl,aY⟩:=bB
 have cF:=aY.size
 refine p mv<|p (xt aa aa)<|p (xt aa aa)<|e<|al rS fun cw cL cz bA bd=>e<|cG pU aa aa aa aa (bd) (by simp) fun aA bx bf=> ?_
 have ah:Wk ae aA:=(aY.trans bA.md).trans' bx fun k hk h=>by omega
 have aJ:=aK.wk ah
 have ac:=aO.wk ah
 have G:=a0.trans<|Wk.mw ah
 refine p aC<|nl<|tn<|bm _ _<|rg aa<|p (aH (.pointer<|some ⟨H.rb,0,none⟩) aa)<|p mv<|p (aH (.pointer<|some ⟨H.rb,0,none⟩) aa)<|p (nc aa)<|p (fa fY aa)<|p (ld eT aa<|(bj ac.cells).trans aa)<|p (nc aa)<|p (fa fI aa)<|p (fa vj aa)<|p (lu su aa aa ab)<|p (ld bW aa<|(bj aJ.cells).trans aa)<|p (cg aa aa)<|p mv<|gs (t:=60) aa (fun Z=> ?_) fun Z=> ?_
 refine sk aa aa aa aa<|sk aa aa aa aa<|vU aa aa aa<|vU aa aa aa<|vU aa aa aa<|sk aa aa aa aa<|p (bN aa) ?_
 refine eP aa (cU gj (gr H.rb q.line _ 118 aA ac.dX ay) aa fun a6 a8 aj=> ?_) (fun c w' A a9 Y=>by
  first
   | exact absurd A.2.1 ay
   | exact ⟨q,q7 J C (qN (j:=j) ab<|z7 (fun h=>Z<|by rw [h]) I<|by have :=of_decide_eq_false A.2.1; omega),A.1,by rw [A.2.2]; exact G⟩
   | exact ⟨q,q7 J C (qN (j:=j) ab<|z8 (fun h=>Z<|by rw [h])<|by simpa using I),A.1,by rw [A.2.2]; exact G⟩)
 obtain ⟨rfl,ax,rfl⟩:=aj
 exact nl<|bn<|tn<|aL _ _<|rg aa<|p (ad aa aa<|cH ab)<|p mv<|nl<|tn<|⟨_,ab,j+1,ab,(fun k hk=>by rcases ig k j with h | h <;> first | exact aS k h | (rw [show k=j by omega]; exact Sn ab)),aJ,ac,G,(aw.wk ah),aa,aa,aa,aa,aa,aa,aa,aa⟩
 refine pg aa aa aa mv<|pg aa aa aa mv<|gb (t:=62) aa (fun I=> ?_) fun I=> ?_
 refine pg aa aa aa (fa sU aa)<|pg aa aa aa (ld bR aa<|(bf.aM 1).trans aa)<|pg aa aa aa (cg aa aa)<|pg aa aa aa (bN aa)<|p (bH aa) ?_
 refine eP aa (cU gj (gr H.rb q.line _ 118 aA ac.dX ay) aa fun a6 a8 aj=> ?_) (fun c w' A a9 Y=>by
  first
   | exact absurd A.2.1 ay
   | exact ⟨q,q7 J C (qN (j:=j) ab<|z7 (fun h=>Z<|by rw [h]) I<|by have :=of_decide_eq_false A.2.1; omega),A.1,by rw [A.2.2]; exact G⟩
   | exact ⟨q,q7 J C (qN (j:=j) ab<|z8 (fun h=>Z<|by rw [h])<|by simpa using I),A.1,by rw [A.2.2]; exact G⟩)
 obtain ⟨rfl,ax,rfl⟩:=aj
 exact nl<|bn<|tn<|aL _ _<|rg aa<|p (ad aa aa<|cH ab)<|p mv<|nl<|tn<|⟨_,ab,j+1,ab,(fun k hk=>by rcases ig k j with h | h <;> first | exact aS k h | (rw [show k=j by omega]; exact Sp I<|by have :=of_decide_eq_true ax; omega)),aJ,ac,G,(aw.wk ah),aa,aa,aa,aa,aa,aa,aa,aa⟩
 refine sk aa aa aa aa<|sk aa aa aa aa<|sk aa aa aa aa<|pg aa aa aa (bH aa)<|p (bH aa) ?_
 refine eP aa (cU gj (gr H.rb q.line _ 118 aA ac.dX ay) aa fun a6 a8 aj=> ?_) (fun c w' A a9 Y=>by
  first
   | exact absurd A.2.1 ay
   | exact ⟨q,q7 J C (qN (j:=j) ab<|z7 (fun h=>Z<|by rw [h]) I<|by have :=of_decide_eq_false A.2.1; omega),A.1,by rw [A.2.2]; exact G⟩
   | exact ⟨q,q7 J C (qN (j:=j) ab<|z8 (fun h=>Z<|by rw [h])<|by simpa using I),A.1,by rw [A.2.2]; exact G⟩)
 obtain ⟨rfl,ax,rfl⟩:=aj
 exact nl<|bn<|tn<|aL _ _<|rg aa<|p (ad aa aa<|cH ab)<|p mv<|nl<|tn<|absurd ax ay
 exact ext<|te _<|te _<|be<|bn<|tn<|bq _ _<|rg aa<|p (ad aa aa<|cH ab)<|p mv<|nl<|tn<|⟨_,ab,i+1,q.line,ab,(fun k cb hk aV=>by rcases ig k i with h | h <;> first | exact J k cb h aV | (rw [show k=i by omega,C] at aV; cases aV; exact JX fun ak bL=>aS ak ab)),aK,aO,a0,aa,aa,aa,aa,aa⟩
 refine ext<|te _<|te _<|be<|iG<|f0 aa ?_
 exact ⟨aa,OX (fun j q a3 bS=>J j q ab bS),⟨V,_,_,aq,aN⟩,aZ⟩
end Go.Hb
end
section
namespace Go.Hb
open Go.Hb.eH Go.Hb.mX
def Nx (F:aB):Prop :=(∀ l∈F.aliases,l.length≤64)∧∀ q∈F.rules,q.next.length≤64
theorem ze {α:Type} {hd:List Tx} {rd:Nat→List Tx→Except Nat α} {eof:Nat} :∀ (n:Nat) (rows:List Rw) (r:List α×List Rw),group hd rd eof n rows= .ok r→∀ x∈r.1,∃ ln row,rd ln row= .ok x:=by
 intro n
 induction n with
 | zero=>intro rows r h; simp only [group,qp] at h; subst h; intro x c; cases c
 | succ n A=>
   intro rows r h
   cases rows with
   | nil=>simp [group] at h
   | cons q rows=>
     obtain ⟨ln,row⟩:=q
     simp only [group] at h
     split at h
     · cases h
     · cases hr:rd ln row with
       | error e=>rw [hr] at h; cases h
       | ok y=>
         rw [hr] at h
         simp only at h
         cases hg:group hd rd eof n rows with
         | error e=>rw [hg] at h; cases h
         | ok C=>
           rw [hg] at h
           simp only [qp] at h
           subst h
           intro x c
           rcases dR.1 c with c | c
           · exact ⟨ln,row,by rw [c]; exact hr⟩
           · exact A rows C hg x c
theorem Eu {kind:Nat} {s:Tx} {l:List Nat} (h:kq kind s= .ok l):l.length≤64:=by
 unfold kq at h
 split at h
 · cases h
 · rename_i c
   cases h
   exact (Er<|l6.1 c).1
theorem Jt {kind ln:Nat} {row:List Tx} {l:List Nat} (h:lM kind ln row= .ok l):l.length≤64:=by
 unfold lM at h
 split at h
 · cases h
 · exact Eu h
theorem yV {kind:Nat} {al:List (List Nat)} {s:Tx} {l:List Nat} (c:∀ l∈al,l.length≤64) (h:fM kind al s= .ok l):l.length≤64:=by
 unfold fM at h
 split at h
 · exact Eu h
 · split at h
   · cases h
   · split at h
     · cases h
     · cases h
       rename_i n _ _
       rw [cM]
       cases hg:al[n - 1]? with
       | none=>simp
       | some x=>exact c x<|gB hg
theorem TO {kind ln:Nat} {al:List (List Nat)} {c:dI} {row:List Tx} {q:cC} (C:∀ l∈al,l.length≤64) (h:iV kind al c ln row= .ok q):q.next.length≤64:=by
 unfold iV at h
 split at h
 · cases h
 · split at h
   · cases h
   · split at h
     · cases h
     · split at h
       · cases h
       · rename_i nx A
         split at h
         · cases h
         · cases h
           unfold mG at A
           split at A
           · split at A
             · cases A
             · exact yV C A
           · cases A; simp
theorem zh {eof ln:Nat} {F F':aB} {hs:List Tx} {rows rows':List Rw} {row:List Tx} (h:Nx F) (c:bX eof F hs rows ln row= .ok (F',rows')):Nx F':=by
 unfold bX at c
 split at c
 · unfold jt at c
   split at c
   · cases c
   · cases c; exact h
 · split at c
   · unfold ke at c
     split at c
     · cases c
     · split at c
       · cases c
       · cases c; exact h
   · split at c
     · unfold l0 at c
       split at c
       · cases c
       · cases c; exact h
     · split at c
       · unfold l1 at c
         split at c
         · cases c
         · cases c; exact h
       · split at c
         · unfold kf at c
           split at c
           · cases c
           · split at c
             · cases c
             · cases c; exact h
         · split at c
           · unfold kh at c
             split at c
             · cases c
             · split at c
               · cases c
               · cases c; exact h
           · split at c
             · unfold jG at c
               split at c
               · cases c
               · split at c
                 · cases c
                 · split at c
                   · cases c
                   · rename_i r E
                     cases c
                     refine ⟨fun l A=> ?_,h.2⟩
                     rcases kY.1 A with A | A
                     · exact h.1 l A
                     · obtain ⟨_,_,h2⟩:=ze _ _ _ E l A
                       exact Jt h2
             · unfold gP at c
               split at c
               · cases c
               · split at c
                 · cases c
                 · split at c
                   · cases c
                   · split at c
                     · cases c
                     · split at c
                       · cases c
                       · rename_i r E
                         cases c
                         refine ⟨h.1,fun q C=> ?_⟩
                         rcases kY.1 C with C | C
                         · exact h.2 q C
                         · obtain ⟨_,_,h2⟩:=ze _ _ _ E q C
                           exact TO h.1 h2
theorem Qd {eof ln:Nat} {F F':aB} {hs:List Tx} {rows rows':List Rw} {row:List Tx} (A:row.getD 0 []∉fQ) (c:bX eof F hs rows ln row= .ok (F',rows')):F'.sp=F.sp:=by
 unfold bX at c
 rw [if_neg A] at c
 unfold ke l0 l1 kf kh jG gP at c
 repeat' split at c
 all_goals first
  | (cases c; done)
  | (cases c; rfl)
theorem ET {eof ln:Nat} {F F':aB} {seen:List Tx} {rows rows':List Rw} {row:List Tx} (h:jl F seen) (c:bX eof F seen rows ln row= .ok (F',rows')):jl F' (seen++ [row.getD 0 []]):=by
 intro k hk C
 rw [kY,iX] at C
 have G:k∉seen:=fun h=>C<|.inl h
 have I:k≠row.getD 0 []:=fun h=>C<|.inr h
 by_cases A:row.getD 0 []∈fQ
 · unfold bX at c
   rw [if_pos A] at c
   unfold jt at c
   split at c
   · cases c
   · cases c
     show (F.sp.set (fQ.idxOf<|row.getD 0 []) _).getD (fQ.idxOf k) 0=0
     rw [cM,List.getElem?_set,if_neg,← cM]
     · exact h k hk G
     · intro he
       have E:∀ a∈fQ,fQ.getD (fQ.idxOf a) []=a:=ay
       have h1:=E _ A
       have h2:=E _ hk
       rw [he] at h1
       exact I<|h2.symm.trans h1
 · rw [Qd A c]; exact h k hk G
end Go.Hb
end
namespace Go.Hb
def gn (s:Tx):Option Value:=if s=du then some (bw #[.int .i64 (4:Nat),.func (.func 134) #[] #[]]) else if s=iK then some (bw #[.int .i64 (4:Nat),.func (.func 134) #[] #[]]) else if s=iH then some (bw #[.int .i64 (2:Nat),.func (.func 133) #[] #[]]) else if s=jb then some (bw #[.int .i64 (2:Nat),.func (.func 132) #[] #[]]) else if s=lz then some (bw #[.int .i64 (2:Nat),.func (.func 131) #[] #[]]) else if s=kL then some (bw #[.int .i64 (2:Nat),.func (.func 130) #[] #[]]) else if s=kr then some (bw #[.int .i64 (2:Nat),.func (.func 130) #[] #[]]) else if s=ka then some (bw #[.int .i64 (2:Nat),.func (.func 130) #[] #[]]) else if s=jM then some (bw #[.int .i64 (2:Nat),.func (.func 130) #[] #[]]) else if s=jo then some (bw #[.int .i64 (2:Nat),.func (.func 130) #[] #[]]) else if s=jc then some (bw #[.int .i64 (2:Nat),.func (.func 129) #[] #[]]) else if s=iT then some (bw #[.int .i64 (2:Nat),.func (.func 128) #[] #[]]) else if s=iJ then some (bw #[.int .i64 (2:Nat),.func (.func 127) #[] #[]]) else none
def zF:Value→Option Value:=fun _=>none
def zG:Tx→Option Value:=fun _=>none
theorem str_inj {a b:Tx} :str a=str b↔a=b:=⟨fun h=>by unfold str at h; cases h; rfl,fun h=>by rw [h]⟩
theorem lB {f:Value→Option Value} {g:Tx→Option Value} {k:Tx} {v:Value} (h:∀ s,f (str s)=g s) (s:Tx):bu f (str k) v (str s)=if s=k then some v else g s:=by
 by_cases hs:s=k
 · subst hs; rw [lV,if_pos rfl]
 · rw [ky (fun h2=>hs<|str_inj.1 h2),if_neg hs,h s]
theorem Qe (w:World):
 ba au 73 (aX []) w (fun v w'=> ∃ b,v= .map (some b)∧b=w.heap.size∧(∃ f,bQ w'.heap b hU f∧∀ s,f (str s)=gn s)∧Wk w w'):=by
 refine enter func73 aa ntmps73 aa<|ak fun ag=>aw<|ag<|ak fun ah=>e<|qd fun c A bn aR ai=> ?_
 have aS:bQ A.heap c hU zF:=bQ.nil ai
 have bo:∀ s:Tx,zF (str s)=zG s:=fun _=>rfl
 have al:Wk w A:=aR.md
 refine p (c7 (ps:= [(0,aj 2),(1,.func (.func 127) #[] #[])]) (L:= [aj 2,.func (.func 127) #[] #[]]) lG aa<|aa)<|e<|ly kV gE (aS) aa aa aa (⟨_,aa⟩) fun O aJ aZ=> ?_
 have a8:bQ O.heap c hU (bu zF (str iJ)<|bw #[aj 2,.func (.func 127) #[] #[]]):=aZ
 have bp:=lB (k:=iJ) (v:=bw #[aj 2,.func (.func 127) #[] #[]]) bo
 have am:Wk w O:=al.trans' aJ fun k hk h=>by omega
 refine p (c7 (ps:= [(0,aj 2),(1,.func (.func 128) #[] #[])]) (L:= [aj 2,.func (.func 128) #[] #[]]) lG aa<|aa)<|e<|ly kV gE (a8) aa aa aa (⟨_,aa⟩) fun ac aO a4=> ?_
 have a9:bQ ac.heap c hU (bu (bu zF (str iJ)<|bw #[aj 2,.func (.func 127) #[] #[]]) (str iT)<|bw #[aj 2,.func (.func 128) #[] #[]]):=a4
 have bv:=lB (k:=iT) (v:=bw #[aj 2,.func (.func 128) #[] #[]]) bp
 have av:Wk w ac:=am.trans' aO fun k hk h=>by omega
 refine p (c7 (ps:= [(0,aj 2),(1,.func (.func 129) #[] #[])]) (L:= [aj 2,.func (.func 129) #[] #[]]) lG aa<|aa)<|e<|ly kV gE (a9) aa aa aa (⟨_,aa⟩) fun ad aP a5=> ?_
 have bf:bQ ad.heap c hU (bu (bu (bu zF (str iJ)<|bw #[aj 2,.func (.func 127) #[] #[]]) (str iT)<|bw #[aj 2,.func (.func 128) #[] #[]]) (str jc)<|bw #[aj 2,.func (.func 129) #[] #[]]):=a5
 have bx:=lB (k:=jc) (v:=bw #[aj 2,.func (.func 129) #[] #[]]) bv
 have ax:Wk w ad:=av.trans' aP fun k hk h=>by omega
 refine p (c7 (ps:= [(0,aj 2),(1,.func (.func 130) #[] #[])]) (L:= [aj 2,.func (.func 130) #[] #[]]) lG aa<|aa)<|e<|ly kV gE (bf) aa aa aa (⟨_,aa⟩) fun ae aQ a7=> ?_
 have bg:bQ ae.heap c hU (bu (bu (bu (bu zF (str iJ)<|bw #[aj 2,.func (.func 127) #[] #[]]) (str iT)<|bw #[aj 2,.func (.func 128) #[] #[]]) (str jc)<|bw #[aj 2,.func (.func 129) #[] #[]]) (str jo)<|bw #[aj 2,.func (.func 130) #[] #[]]):=a7
 have bz:=lB (k:=jo) (v:=bw #[aj 2,.func (.func 130) #[] #[]]) bx
 have ay:Wk w ae:=ax.trans' aQ fun k hk h=>by omega
 refine p (c7 (ps:= [(0,aj 2),(1,.func (.func 130) #[] #[])]) (L:= [aj 2,.func (.func 130) #[] #[]]) lG aa<|aa)<|e<|ly kV gE (bg) aa aa aa (⟨_,aa⟩) fun C aE aT=> ?_
 have bh:bQ C.heap c hU (bu (bu (bu (bu (bu zF (str iJ)<|bw #[aj 2,.func (.func 127) #[] #[]]) (str iT)<|bw #[aj 2,.func (.func 128) #[] #[]]) (str jc)<|bw #[aj 2,.func (.func 129) #[] #[]]) (str jo)<|bw #[aj 2,.func (.func 130) #[] #[]]) (str jM)<|bw #[aj 2,.func (.func 130) #[] #[]]):=aT
 have bA:=lB (k:=jM) (v:=bw #[aj 2,.func (.func 130) #[] #[]]) bz
 have az:Wk w C:=ay.trans' aE fun k hk h=>by omega
 refine p (c7 (ps:= [(0,aj 2),(1,.func (.func 130) #[] #[])]) (L:= [aj 2,.func (.func 130) #[] #[]]) lG aa<|aa)<|e<|ly kV gE (bh) aa aa aa (⟨_,aa⟩) fun E aF aU=> ?_
 have bi:bQ E.heap c hU (bu (bu (bu (bu (bu (bu zF (str iJ)<|bw #[aj 2,.func (.func 127) #[] #[]]) (str iT)<|bw #[aj 2,.func (.func 128) #[] #[]]) (str jc)<|bw #[aj 2,.func (.func 129) #[] #[]]) (str jo)<|bw #[aj 2,.func (.func 130) #[] #[]]) (str jM)<|bw #[aj 2,.func (.func 130) #[] #[]]) (str ka)<|bw #[aj 2,.func (.func 130) #[] #[]]):=aU
 have bB:=lB (k:=ka) (v:=bw #[aj 2,.func (.func 130) #[] #[]]) bA
 have aA:Wk w E:=az.trans' aF fun k hk h=>by omega
 refine p (c7 (ps:= [(0,aj 2),(1,.func (.func 130) #[] #[])]) (L:= [aj 2,.func (.func 130) #[] #[]]) lG aa<|aa)<|e<|ly kV gE (bi) aa aa aa (⟨_,aa⟩) fun G aG aV=> ?_
 have bj:bQ G.heap c hU (bu (bu (bu (bu (bu (bu (bu zF (str iJ)<|bw #[aj 2,.func (.func 127) #[] #[]]) (str iT)<|bw #[aj 2,.func (.func 128) #[] #[]]) (str jc)<|bw #[aj 2,.func (.func 129) #[] #[]]) (str jo)<|bw #[aj 2,.func (.func 130) #[] #[]]) (str jM)<|bw #[aj 2,.func (.func 130) #[] #[]]) (str ka)<|bw #[aj 2,.func (.func 130) #[] #[]]) (str kr)<|bw #[aj 2,.func (.func 130) #[] #[]]):=aV
 have bC:=lB (k:=kr) (v:=bw #[aj 2,.func (.func 130) #[] #[]]) bB
 have aB:Wk w G:=aA.trans' aG fun k hk h=>by omega
 refine p (c7 (ps:= [(0,aj 2),(1,.func (.func 130) #[] #[])]) (L:= [aj 2,.func (.func 130) #[] #[]]) lG aa<|aa)<|e<|ly kV gE (bj) aa aa aa (⟨_,aa⟩) fun I aH aW=> ?_
 have bk:bQ I.heap c hU (bu (bu (bu (bu (bu (bu (bu (bu zF (str iJ)<|bw #[aj 2,.func (.func 127) #[] #[]]) (str iT)<|bw #[aj 2,.func (.func 128) #[] #[]]) (str jc)<|bw #[aj 2,.func (.func 129) #[] #[]]) (str jo)<|bw #[aj 2,.func (.func 130) #[] #[]]) (str jM)<|bw #[aj 2,.func (.func 130) #[] #[]]) (str ka)<|bw #[aj 2,.func (.func 130) #[] #[]]) (str kr)<|bw #[aj 2,.func (.func 130) #[] #[]]) (str kL)<|bw #[aj 2,.func (.func 130) #[] #[]]):=aW
 have bD:=lB (k:=kL) (v:=bw #[aj 2,.func (.func 130) #[] #[]]) bC
 have aC:Wk w I:=aB.trans' aH fun k hk h=>by omega
 refine p (c7 (ps:= [(0,aj 2),(1,.func (.func 131) #[] #[])]) (L:= [aj 2,.func (.func 131) #[] #[]]) lG aa<|aa)<|e<|ly kV gE (bk) aa aa aa (⟨_,aa⟩) fun J aI aY=> ?_
 have bl:bQ J.heap c hU (bu (bu (bu (bu (bu (bu (bu (bu (bu zF (str iJ)<|bw #[aj 2,.func (.func 127) #[] #[]]) (str iT)<|bw #[aj 2,.func (.func 128) #[] #[]]) (str jc)<|bw #[aj 2,.func (.func 129) #[] #[]]) (str jo)<|bw #[aj 2,.func (.func 130) #[] #[]]) (str jM)<|bw #[aj 2,.func (.func 130) #[] #[]]) (str ka)<|bw #[aj 2,.func (.func 130) #[] #[]]) (str kr)<|bw #[aj 2,.func (.func 130) #[] #[]]) (str kL)<|bw #[aj 2,.func (.func 130) #[] #[]]) (str lz)<|bw #[aj 2,.func (.func 131) #[] #[]]):=aY
 have bE:=lB (k:=lz) (v:=bw #[aj 2,.func (.func 131) #[] #[]]) bD
 have aD:Wk w J:=aC.trans' aI fun k hk h=>by omega
 refine p (c7 (ps:= [(0,aj 2),(1,.func (.func 132) #[] #[])]) (L:= [aj 2,.func (.func 132) #[] #[]]) lG aa<|aa)<|e<|ly kV gE (bl) aa aa aa (⟨_,aa⟩) fun V aK a0=> ?_
 have bm:bQ V.heap c hU (bu (bu (bu (bu (bu (bu (bu (bu (bu (bu zF (str iJ)<|bw #[aj 2,.func (.func 127) #[] #[]]) (str iT)<|bw #[aj 2,.func (.func 128) #[] #[]]) (str jc)<|bw #[aj 2,.func (.func 129) #[] #[]]) (str jo)<|bw #[aj 2,.func (.func 130) #[] #[]]) (str jM)<|bw #[aj 2,.func (.func 130) #[] #[]]) (str ka)<|bw #[aj 2,.func (.func 130) #[] #[]]) (str kr)<|bw #[aj 2,.func (.func 130) #[] #[]]) (str kL)<|bw #[aj 2,.func (.func 130) #[] #[]]) (str lz)<|bw #[aj 2,.func (.func 131) #[] #[]]) (str jb)<|bw #[aj 2,.func (.func 132) #[] #[]]):=a0
 have bq:=lB (k:=jb) (v:=bw #[aj 2,.func (.func 132) #[] #[]]) bE
 have an:Wk w V:=aD.trans' aK fun k hk h=>by omega
 refine p (c7 (ps:= [(0,aj 2),(1,.func (.func 133) #[] #[])]) (L:= [aj 2,.func (.func 133) #[] #[]]) lG aa<|aa)<|e<|ly kV gE (bm) aa aa aa (⟨_,aa⟩) fun Y aL a1=> ?_
 have bb:bQ Y.heap c hU (bu (bu (bu (bu (bu (bu (bu (bu (bu (bu (bu zF (str iJ)<|bw #[aj 2,.func (.func 127) #[] #[]]) (str iT)<|bw #[aj 2,.func (.func 128) #[] #[]]) (str jc)<|bw #[aj 2,.func (.func 129) #[] #[]]) (str jo)<|bw #[aj 2,.func (.func 130) #[] #[]]) (str jM)<|bw #[aj 2,.func (.func 130) #[] #[]]) (str ka)<|bw #[aj 2,.func (.func 130) #[] #[]]) (str kr)<|bw #[aj 2,.func (.func 130) #[] #[]]) (str kL)<|bw #[aj 2,.func (.func 130) #[] #[]]) (str lz)<|bw #[aj 2,.func (.func 131) #[] #[]]) (str jb)<|bw #[aj 2,.func (.func 132) #[] #[]]) (str iH)<|bw #[aj 2,.func (.func 133) #[] #[]]):=a1
 have br:=lB (k:=iH) (v:=bw #[aj 2,.func (.func 133) #[] #[]]) bq
 have ao:Wk w Y:=an.trans' aL fun k hk h=>by omega
 refine p (c7 (ps:= [(0,aj 4),(1,.func (.func 134) #[] #[])]) (L:= [aj 4,.func (.func 134) #[] #[]]) lG aa<|aa)<|e<|ly kV gE (bb) aa aa aa (⟨_,aa⟩) fun Z aM a2=> ?_
 have bc:bQ Z.heap c hU (bu (bu (bu (bu (bu (bu (bu (bu (bu (bu (bu (bu zF (str iJ)<|bw #[aj 2,.func (.func 127) #[] #[]]) (str iT)<|bw #[aj 2,.func (.func 128) #[] #[]]) (str jc)<|bw #[aj 2,.func (.func 129) #[] #[]]) (str jo)<|bw #[aj 2,.func (.func 130) #[] #[]]) (str jM)<|bw #[aj 2,.func (.func 130) #[] #[]]) (str ka)<|bw #[aj 2,.func (.func 130) #[] #[]]) (str kr)<|bw #[aj 2,.func (.func 130) #[] #[]]) (str kL)<|bw #[aj 2,.func (.func 130) #[] #[]]) (str lz)<|bw #[aj 2,.func (.func 131) #[] #[]]) (str jb)<|bw #[aj 2,.func (.func 132) #[] #[]]) (str iH)<|bw #[aj 2,.func (.func 133) #[] #[]]) (str iK)<|bw #[aj 4,.func (.func 134) #[] #[]]):=a2
 have bs:=lB (k:=iK) (v:=bw #[aj 4,.func (.func 134) #[] #[]]) br
 have ap:Wk w Z:=ao.trans' aM fun k hk h=>by omega
 refine p (c7 (ps:= [(0,aj 4),(1,.func (.func 134) #[] #[])]) (L:= [aj 4,.func (.func 134) #[] #[]]) lG aa<|aa)<|e<|ly kV gE (bc) aa aa aa (⟨_,aa⟩) fun ab aN a3=> ?_
 have bd:bQ ab.heap c hU (bu (bu (bu (bu (bu (bu (bu (bu (bu (bu (bu (bu (bu zF (str iJ)<|bw #[aj 2,.func (.func 127) #[] #[]]) (str iT)<|bw #[aj 2,.func (.func 128) #[] #[]]) (str jc)<|bw #[aj 2,.func (.func 129) #[] #[]]) (str jo)<|bw #[aj 2,.func (.func 130) #[] #[]]) (str jM)<|bw #[aj 2,.func (.func 130) #[] #[]]) (str ka)<|bw #[aj 2,.func (.func 130) #[] #[]]) (str kr)<|bw #[aj 2,.func (.func 130) #[] #[]]) (str kL)<|bw #[aj 2,.func (.func 130) #[] #[]]) (str lz)<|bw #[aj 2,.func (.func 131) #[] #[]]) (str jb)<|bw #[aj 2,.func (.func 132) #[] #[]]) (str iH)<|bw #[aj 2,.func (.func 133) #[] #[]]) (str iK)<|bw #[aj 4,.func (.func 134) #[] #[]]) (str du)<|bw #[aj 4,.func (.func 134) #[] #[]]):=a3
 have bt:=lB (k:=du) (v:=bw #[aj 4,.func (.func 134) #[] #[]]) bs
 have aq:Wk w ab:=ap.trans' aN fun k hk h=>by omega
 exact p mv<|aw<|ah<|rt<|a6 aa<|⟨c,aa,bn,⟨_,bd,fun s=>bt s⟩,aq⟩
theorem Th (I J:Nat) (w:World):
 CallsD au 72 (aX [.pointer (some ⟨I,0,none⟩),.pointer (some ⟨J,0,none⟩)]) .returning w (fun en O w'=> ∃ v,en= .returned v∧O= .returning∧(fun w'=>Wk w w') w'):=by
 refine CW (v:= .nilIface) func72 aa ntmps72 aa (fun Z cs G=> .inr ⟨by simp [recoverD,G],aa,aa⟩) ?_
 refine p (UT zM Wj aa)<|p mv<|p (xt aa aa)<|p (xt aa aa)<|e<|al nG fun Y ad ac E c=>e<|cG iF aa aa aa aa (c) (by simp) fun ae C ab=>p aC<|nl<|tn<|sq fun V A=>rg aa<|p mv<|nl<|tn<|A _ _<|cf (aa)<|aQ<|f0 aa ?_
 exact E.md.trans' C fun k hk h=>by omega
theorem Tf (c A:Nat) (ln:Nat) (er:Int) (w:World) (h2:∃ v:Value,w.heap[c]? =some (.cells [v].toArray 88 (0,0))) (h3:∃ L:List Value,L.length=3∧w.heap[A]? =some (.cells L.toArray 45 (0,0))) (ac:c≠A):
 CallsD au 72 (aX [.pointer (some ⟨c,0,none⟩),.pointer (some ⟨A,0,none⟩)]) (.panicking<|gZ 45 ln er) w (fun en av w'=> ∃ v,en= .returned v∧av=(.panicking [{v:= .iface 45 (.agg [.int .i64 1,.int .i64 (ln:Nat),.int .i64 er].toArray),recovered:=true}])∧(fun w'=>w'.heap[c]? =some (.cells [.pointer none].toArray 88 (0,0))∧w'.heap[A]? =some (.cells [.int .i64 1,.int .i64 (ln:Nat),.int .i64 er].toArray 45 (0,0))∧Md (fun k=>k=c∨k=A) w w') w'):=by
 obtain ⟨v2,h2⟩:=h2
 obtain ⟨V,am,h3⟩:=h3
 have aD:=(cY.1 h2).1
 have aF:=(cY.1 h3).1
 refine CW (v:= .iface 45<|.agg [.int .i64 1,.int .i64 (ln:Nat),.int .i64 er].toArray) func72 aa ntmps72 aa (fun az cs ap=> .inl<|by simp [recoverD,ap,gZ]) ?_
 refine p (US zM aa)<|p mv<|p (xt aa aa)<|p (xt aa aa)<|e<|al nG fun ad aG aA J ah=>e<|cG iF aa aa aa aa (ah) (by simp) fun C E ae=> ?_
 have aj:bE C.heap ad [.int .i64 1,.int .i64 (ln:Nat),.int .i64 er]:=ae
 refine p aC<|nl<|tn<|sq fun ay ak=>rg aa<|p mv<|nl<|tn<|ak _ _<|ct (aa) ?_
 have O:(fun w'=>Md (fun k=>k=c∨k=A) C w') C.drew:=(Md.refl _ _).drew
 refine cD (fun w'=>Md (fun k=>k=c∨k=A) C w') aa wide O<|hp 0 aa ag (fun w' an=>cK j4 aa (aa) fun j aB=>bE.bp (Md.B an aj fun h=>by omega) j) O<|he 1 aa ag<|dQ yD aa aa (v:= .pointer none) aa (E.aE (Wk.aE J.md h2) fun h=>by omega) (by show 0 < 1; decide) fun aw G ai=> ?_
 have Z:(fun w'=>Md (fun k=>k=c∨k=A) C w') aw:=O.trans' G fun _ _ h=> .inl h
 refine ⟨Z,?_⟩
 refine he 2 aa ag<|gw iF aa aa aa aa (G.aE (E.aE (Wk.aE J.md h3) fun h=>by omega) fun h=>ac h.symm) (by rw [am]; decide) fun ax I Y=> ?_
 have ao:(fun w'=>Md (fun k=>k=c∨k=A) C w') ax:=Z.trans' I fun _ _ h=> .inr h
 refine ⟨ao,?_⟩
 refine hn ag<|f0 aa ?_
 have aq:V.take 0 ++ [ff .i64 1,.int .i64 (ln:Nat),.int .i64 er]++V.drop (0 +3)= [ff .i64 1,.int .i64 (ln:Nat),.int .i64 er]:=by rw [kX ab]; rfl
 rw [aq] at Y
 exact ⟨I.aE ai ac,Y,(((J.md.mono fun _ _ h=>h.elim).trans' E fun k hk h=>by omega).trans' (iN G) fun _ _ h=> .inl h).trans' I fun _ _ h=> .inr h⟩
theorem Gd (c A:Nat) (w:World):(invoke (.fn (.func 72) #[aV c,aV A]) #[]).run au w= .ok (.enter 72 #[aV c,aV A]) w:=by
 have h:=LF #[aV c,aV A] w
 simp [invoke,h]
theorem u6 {n:Nat} {D:List Deferred} {G:List Nat} {σ:Nat→Value} {t:Nat} (h:t < n):ev ⟨n,D,G,none⟩ σ (.tmp t)=σ t:=by
 show cond (Nat.blt t n) (σ t) undef=_
 rw [show Nat.blt t n=true from by simpa using h]; rfl
theorem Tl {n:Nat} {G:List Nat} {fn:Func} {R:Value→World→Prop} {σ:Nat→Value} {w:World} {c A ln:Nat} {er:Int} (O:fn.results= #[.cell 2 88,.cell 3 45]) (Z:3 < n) (V:σ 2= .pointer (some ⟨c,0,none⟩)) (Y:σ 3= .pointer (some ⟨A,0,none⟩)) (h2:∃ v:Value,w.heap[c]? =some (.cells [v].toArray 88 (0,0))) (h3:∃ L:List Value,L.length=3∧w.heap[A]? =some (.cells L.toArray 45 (0,0))) (J:c≠A)
 (C:∀ w',Md (fun k=>k=c∨k=A) w w'→R (.tuple #[.pointer none,.agg [.int .i64 1,.int .i64 (ln:Nat),.int .i64 er].toArray]) w'):qb ⟨n,[{target:= .fn (.func 72) #[.pointer (some ⟨c,0,none⟩),.pointer (some ⟨A,0,none⟩)],args:= #[]}],G,none⟩ (oH au fn R) (.panic<|gZ 45 ln er) σ w:=by
 refine OP (Gd c A w) (Tf c A ln er w h2 h3 J) ?_
 rintro w' ⟨E,I,hm⟩
 exact ⟨_,vO O (lY<|Al ((u6 ab).trans V) eT<|(bj E).trans aa) (lY<|dN (cs:= [.int .i64 1,.int .i64 (ln:Nat),.int .i64 er]) ((u6 ab).trans Y) j4 aa fun j _=>by rw [fK,bj I]; simp),C w' hm⟩
theorem Tm {n:Nat} {G:List Nat} {fn:Func} {R:Value→World→Prop} {σ:Nat→Value} {w:World} {c A:Nat} {v:Value} {L:List Value} (O:fn.results= #[.cell 2 88,.cell 3 45]) (Z:3 < n) (V:σ 2= .pointer (some ⟨c,0,none⟩)) (Y:σ 3= .pointer (some ⟨A,0,none⟩)) (h2:w.heap[c]? =some (.cells [v].toArray 88 (0,0))) (h3:w.heap[A]? =some (.cells L.toArray 45 (0,0))) (C:L.length=3)
 (E:∀ w',Wk w w'→R (.tuple #[v,.agg L.toArray]) w'):qb ⟨n,[{target:= .fn (.func 72) #[.pointer (some ⟨c,0,none⟩),.pointer (some ⟨A,0,none⟩)],args:= #[]}],G,none⟩ (oH au fn R) .ret σ w:=by
 refine OO (Gd c A w) (Th c A w) ?_
 intro w' hm
 have I:=Wk.aE hm h2
 have J:=Wk.aE hm h3
 exact ⟨_,vO O (lY<|Al ((u6 ab).trans V) eT<|(bj I).trans aa) (lY<|dN (cs:=L) ((u6 ab).trans Y) j4 C fun j _=>by rw [fK,bj J]; simp),E w' hm⟩
end Go.Hb
