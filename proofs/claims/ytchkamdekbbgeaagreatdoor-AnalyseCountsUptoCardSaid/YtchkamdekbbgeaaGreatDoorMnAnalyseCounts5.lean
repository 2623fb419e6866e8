/-
  Walks and plain laws that the law rests on, laid together. No conditions but those that each theorem names.
-/
import Derived.Test.YtchkamdekbbgeaaGreatDoorMnAnalyseCounts4
set_option linter.unusedVariables false
set_option maxRecDepth 20000
set_option maxHeartbeats 1000000
open Array renaming getElem?_eq_some_iff→bT
open Bool renaming or_eq_false_iff→pk
open Classical renaming not_not→mI
open Except.ok renaming injEq→qT
open Go.Proofs.Tryz renaming prog→ao
open Go.Value renaming agg→bA,bool→bU,int→fL,oneCell'→eQ,tuple→j8
open Go.World renaming ownsRow→bq,ownsRow_nil→eh
open List renaming all_eq_true→kP,append_assoc→ea,append_nil→eu,count_eq_zero→qg,count_le_length→sR,drop_eq_nil_of_le→lK,eq_nil_of_length_eq_zero→gq,ext_getElem?→oz,find?_cons→Jx,find?_eq_none→Cz,findIdx?_eq_none_iff→Jy,getD_eq_getElem?_getD→cU,getElem?_append_left→mK,getElem?_append_right→nK,getElem?_cons_zero→yh,getElem?_eq_getElem→bX,getElem?_eq_some_iff→eR,getElem?_map→fF,getElem?_of_mem→q9,getElem?_set→kt,getElem?_zip_eq_some→jj,length→mL,length_append→bJ,length_cons→bS,length_map→e9,length_nil→gJ,length_pos_iff→mN,length_set→vc,length_singleton→iG,length_take→eE,length_zip→yj,map_append→gV,mem_append→iW,mem_cons→ew,mem_of_getElem?→fU,not_mem_nil→ym,take_of_length_le→fu,toArray→a7
open Nat renaming le_refl→cj,le_trans→dS,lt_or_ge→jk,zero_add→fN
open Option renaming getD_some→Kc,isSome_iff_exists→me
open Prod renaming snd→mQ
open Go.Proofs.Tryz
open Go.Hb.dI Go.Proofs Go.Hb.ez Go.Hb.ff Go.Hb.nU Go.Hb.fw

section
namespace Go.Hb.qk
open Go.Hb.pF
structure nV (w:World) (B fb:Nat) (mc:Nat) (F:aC) (V:ei):Prop where
 cells:w.heap[fb]? =some (.cells (n3 F V mc).toArray 164 (0,0))
 o9:bq w B 189 2 V.v9 F.dB.length (nq F.dB)
 gP:bq w B 51 1 V.v10 F.aliases.length V.sa
 al:dH w B 95 V.sa F.aliases
 gk:bq w B 192 5 V.v11 F.bB.length (mo F.bB)
 et:bq w B 134 7 V.v12 F.rules.length (gd<|F.rules.zip V.rn)
 nx:dH w B 95 V.rn (F.rules.map (·.next))
 lo:B≤fb∧B≤mc
 jZ:F.sp.length=5
theorem nV.md {G:Nat→Prop} {w w':World} {B fb mc:Nat} {F:aC} {V:ei} (h:nV w B fb mc F V) (hm:Md G w w') {L:List Nat} (c:TF w L G) (A:(L.contains 166 || L.contains 191 || L.contains 53 || L.contains 97 || L.contains 194 || L.contains 136)=false):nV w' B fb mc F V:=by
 simp only [pk] at A
 obtain ⟨⟨⟨⟨⟨h1,h2⟩,h3⟩,h4⟩,h5⟩,h6⟩:=A
 have C:∀ k,G k→∀ cur z,w.heap[k]?≠some (.cells cur 95 z):=fun k hk cur z E=>c.no (dD E) h4 hk
 exact ⟨hm.gZ c h.cells h1,cX h.o9 hm c h2,cX h.gP hm c h3,h.al.md hm C,cX h.gk hm c h5,cX h.et hm c h6,h.nx.md hm C,h.lo,h.jZ⟩
theorem nV.wk {w w':World} {B fb mc:Nat} {F:aC} {V:ei} (h:nV w B fb mc F V) (hm:Wk w w'):nV w' B fb mc F V:=h.md (L:= []) hm (fun _ hk=>hk.elim) rfl
theorem Qa {w:World} {B fb mc:Nat} {F:aC} {V:ei} (h:dp w B fb mc F V):nV w B fb mc F V:=⟨h.cells,h.o9,h.gP,h.al,h.gk,h.et,h.nx,h.lo,h.jZ⟩
theorem nV.KW {w G O:World} {B fb mc:Nat} {F:aC} {V:ei} {v:Value} {x:dT} {f:Value→Option Value} (h:nV w B fb mc F V) (E:bQ w.heap mc (jU .u16) f) (ac:∀ y:Nat,f (aX y)=((F.bB++ [x]).findIdx? fun c=>decide (c.flag=y)).map fun i:Nat=>fL .i64 i) (hm:Md (fun k=>V.v11.ownBlock=some k) w G) (aa:bq G B 192 5 v (F.bB++ [x]).length (mo<|F.bB++ [x])) (A:Md (fun k=>k=fb) G O) (ab:O.heap[fb]? =some (.cells (n3 {F with bB:=F.bB++ [x]} {V with v11:=v} mc).toArray 164 (0,0))):dp O B fb mc {F with bB:=F.bB++ [x]} {V with v11:=v} :=by
 have C:TF w [194] (fun k=>V.v11.ownBlock=some k):=TF.own h.gk aw
 have J:=hm.gZ C h.cells aw
 have I:TF G [166] (fun k=>k=fb):=TF.eq (dD J) aw
 have Y:∀ k,V.v11.ownBlock=some k→∀ cur z,w.heap[k]?≠some (.cells cur 95 z):=jJ h.gk aw
 have Z:∀ k,k=fb→∀ cur z,G.heap[k]?≠some (.cells cur 95 z):=im J aw
 have ad:=dN<|E.md hm<|C.no (dN E) aw
 exact ⟨ab,cX (cX h.o9 hm C aw) A I aw,cX (cX h.gP hm C aw) A I aw,(h.al.md hm Y).md A Z,cD aa A (fun k hk E=>dQ aa J aw<|E ▸ hk),cX (cX h.et hm C aw) A I aw,(h.nx.md hm Y).md A Z,⟨f,(E.md hm<|C.no (dN E) aw).md A (I.no ad aw),ac⟩,h.lo,h.jZ⟩
theorem cB.Ty {w E I:World} {B:Nat} {H:cw} {F F':aC} {R:gu} {rows:List Rw} {ln:Nat} {seen:List Tx} {v:Value} {q:cJ} (h:cB w B H F R rows ln seen) (hm:Md (fun k=>R.vn.ownBlock=some k) w E) (Z:bq E B 3 1 v (F.rules++ [q]).length ((F.rules++ [q]).map fun r=>fL .i64 (r.line:Nat))) (c:Md (fun k=>k=H.rb) E I) (aa:I.heap[H.rb]? =some (.cells (uu H {R with vn:=v} ln).toArray 167 (0,0))) (ad:F'.rules=F.rules++ [q]) (hd:∀ x,eA F' x=eA F x):cB I B H F' {R with vn:=v} rows ln seen:=by
 have G:TF w [5] (fun k=>R.vn.ownBlock=some k):=TF.own h.on aw
 have A:=hm.gZ G h.cells aw
 have J:TF E [169] (fun k=>k=H.rb):=TF.eq (dD A) aw
 obtain ⟨f,C,ab⟩:=h.sm
 obtain ⟨g,V,ac⟩:=h.tm
 have O:=C.md hm<|G.no (dN C) aw
 have Y:=V.md hm<|G.no (dN V) aw
 exact ⟨aa,(h.rws.md hm<|jJ h.on aw).md c (im A aw),(h.rt.md hm<|jJ h.on aw).md c (im A aw),⟨f,O.md c (J.no (dN O) aw),ab⟩,⟨g,Y.md c (J.no (dN Y) aw),fun x ae=>by rw [hd]; exact ac x ae⟩,by rw [ad]; exact cD Z c (fun k hk C=>dQ Z A aw<|C ▸ hk),h.lo,h.ne⟩
theorem zQ {cs:List dT} {x:Nat} (h:(dO cs x).isSome=false):cs.findIdx? (fun c=>decide (c.flag=x))=none:=by
 rw [Jy]
 unfold dO at h
 rw [Option.isSome_eq_false_iff,Option.isNone_iff_eq_none,Cz] at h
 intro c A
 simpa using h c A
theorem O2 {F:aC} {c:dT} (y:Nat):eA {F with bB:=F.bB++ [c]} y=(decide (y=c.flag) || eA F y):=by
 have h1:(dO (F.bB++ [c]) y).isSome=((dO F.bB y).isSome || decide (y=c.flag)):=by
  unfold dO
  rw [List.find?_append,Option.isSome_or]
  congr 1
  by_cases h:c.flag=y
  · simp [h]
  · simp [h,Ne.symm h]
 unfold eA
 show (decide (y∈F.sp) || (dO (F.bB++ [c]) y).isSome)=_
 rw [h1]
 cases decide (y∈F.sp) <;> cases (dO F.bB y).isSome <;> cases decide (y=c.flag) <;> rfl
theorem N5 {F:aC} {c:dT} {f:Value→Option Value} (hd:eA F c.flag=false) (A:∀ x:Nat,f (aX x)=(F.bB.findIdx? fun c=>decide (c.flag=x)).map fun i:Nat=>fL .i64 i) (y:Nat):bz f (aX c.flag) (.int .i64 (F.bB.length:Nat)) (aX y)=((F.bB++ [c]).findIdx? fun c=>decide (c.flag=y)).map fun i:Nat=>fL .i64 i:=by
 unfold eA at hd
 rw [pk] at hd
 rw [List.findIdx?_append]
 by_cases h:y=c.flag
 · subst h
   rw [mB,zQ hd.2]
   simp
 · rw [k0 (fun h2=>h<|Ia h2),A y]
   cases F.bB.findIdx? fun c=>decide (c.flag=y) <;> simp [Ne.symm h]
theorem D8 {eof ln e:Nat} {F:aC} {rows:List Rw} {r:List Tx} (h:iU F (r.getD 1 [])= .error e):hZ eof F rows ln r= .error (ln,e):=by unfold hZ; rw [h]
theorem D9 {eof ln x:Nat} {F:aC} {rows:List Rw} {r:List Tx} (h:iU F (r.getD 1 [])= .ok x) (h1:r.getD 2 []≠[89]) (h2:r.getD 2 []≠[78]):hZ eof F rows ln r= .error (ln,114):=by unfold hZ; rw [h]; exact if_pos ⟨h1,h2⟩
theorem Nv {eof ln x e:Nat} {F:aC} {rows:List Rw} {r:List Tx} (h:iU F (r.getD 1 [])= .ok x) (h1:r.getD 2 []= [89]∨r.getD 2 []= [78]) (h2:eH (r.getD 3 []) 1024= .error e):hZ eof F rows ln r= .error (ln,e):=by
 unfold hZ; rw [h]; simp only; rw [if_neg (fun h3=>h1.elim h3.1 h3.2),h2]
theorem Nz {eof ln x n:Nat} {F:aC} {rows:List Rw} {r:List Tx} (h:iU F (r.getD 1 [])= .ok x) (h1:r.getD 2 []= [89]∨r.getD 2 []= [78]) (h2:eH (r.getD 3 []) 1024= .ok n) (h3:1024 < F.rules.length+n):hZ eof F rows ln r= .error (ln,117):=by
 unfold hZ; rw [h]; simp only; rw [if_neg (fun h3=>h1.elim h3.1 h3.2),h2]; simp only; rw [if_pos h3]
theorem zj {eof ln x n:Nat} {F:aC} {rows:List Rw} {r:List Tx} {e:Nat×Nat} (h:iU F (r.getD 1 [])= .ok x) (h1:r.getD 2 []= [89]∨r.getD 2 []= [78]) (h2:eH (r.getD 3 []) 1024= .ok n) (h3:¬1024 < F.rules.length+n) (h4:group [r.getD 0 [],r.getD 1 []] (jr F.kind F.aliases (⟨x,(if r.getD 0 []=dF then 2 else 1:Nat),(decide (r.getD 2 []= [89])),F.rules.length,n⟩:dT)) eof n rows= .error e):hZ eof F rows ln r= .error e:=by
 unfold hZ; rw [h]; simp only; rw [if_neg (fun h3=>h1.elim h3.1 h3.2),h2]; simp only; rw [if_neg h3,h4]
theorem NA {eof ln x n:Nat} {F:aC} {rows:List Rw} {r:List Tx} {q:List cJ×List Rw} (h:iU F (r.getD 1 [])= .ok x) (h1:r.getD 2 []= [89]∨r.getD 2 []= [78]) (h2:eH (r.getD 3 []) 1024= .ok n) (h3:¬1024 < F.rules.length+n) (h4:group [r.getD 0 [],r.getD 1 []] (jr F.kind F.aliases (⟨x,(if r.getD 0 []=dF then 2 else 1:Nat),(decide (r.getD 2 []= [89])),F.rules.length,n⟩:dT)) eof n rows= .ok q):hZ eof F rows ln r= .ok ({F with bB:=F.bB++ [(⟨x,(if r.getD 0 []=dF then 2 else 1:Nat),(decide (r.getD 2 []= [89])),F.rules.length,n⟩:dT)],rules:=F.rules++q.1},q.2):=by
 unfold hZ; rw [h]; simp only; rw [if_neg (fun h3=>h1.elim h3.1 h3.2),h2]; simp only; rw [if_neg h3,h4]
theorem Ea (B:Nat) (H:cw) (F:aC) (rows:List Rw) (ln:Nat) (seen:List Tx) (r:List Tx) (cH:Nat) (ar:Option Addr) (cr:Nat) (w:World) (A:St w B H F rows ln seen) (c3:Tg w cH 9 r.length (.slice ar r.length cr) (r.map str)) (gh:r.length=4) (cx:∀ x∈r,x.length≤70000) (f4:F.dB.length+F.aliases.length+F.bB.length+F.rules.length+rows.length < 70000):
 eK ao 134 (a7 [.pointer (some ⟨H.rb,0,none⟩),.slice ar r.length cr]) w (iL B H seen (hZ H.eof F rows ln r) w) (iK B H (hZ H.eof F rows ln r) w):=by
 obtain ⟨V,R,O,aq,aK⟩:=A
 have ah:=c3.dJ
 have gi:(r.getD 1 []).length≤70000:=cx _<|e6 ab
 have gj:(r.getD 2 []).length≤70000:=cx _<|e6 ab
 have gm:(r.getD 3 []).length≤70000:=cx _<|e6 ab
 have gf:=aq.lo
 have f9:=aK.len
 have gn:=(bT.1 aq.cells).1
 obtain ⟨a12,dI,fC⟩:=c5 O.et
 obtain ⟨cI,ll,dr⟩:=c5 O.gk
 have e0:Hb.aJ w.heap H.fb 12=some (.slice a12 F.rules.length dI):=by rw [← fC]; exact (aV O.cells).trans rfl
 have ga:Hb.aJ w.heap H.fb 11=some (.slice cI F.bB.length ll):=by rw [← dr]; exact (aV O.cells).trans rfl
 have e4:∀ b,w.heap.size≤b→¬(V.v11.ownBlock=some b):=fun b f3 h=>by have :=da O.gk h; omega
 obtain ⟨tf,fB,dn⟩:=aq.tm
 refine jz func134 aa ntmps134 aa ?_
 refine e8 (fun b5 cG=> ∃ (x J:Nat),(iU F (r.getD 1 [])= .ok x)∧(x≠0)∧(eA F x=false)∧(w.heap.size≤J)∧(cG.heap[J]? =some (.cells [aX x,.int .i64 (1:Nat),.bool false,.int .i64 (F.rules.length:Nat),.int .i64 (0:Nat)].toArray 192 (0,0)))∧(Wk w cG)∧(b5 0= .pointer (some ⟨H.rb,0,none⟩))∧(b5 1= .slice ar r.length cr)∧(b5 4= .pointer (some ⟨J,0,none⟩))) ?_ ?_
 have E:(fun w'=>Wk w w') w.drew:=(Md.refl _ _).drew
 refine bR (fun w'=>Wk w w') aa wide E<|hp 0 aa ag (fun _ _=>aH (.pointer<|some ⟨H.rb,0,none⟩) aa) E<|hp 1 aa ag (fun _ _=>aH (.slice ar r.length cr) aa) E<|hp 2 aa ag (fun _ _=>bc ec aa aa ab<|aG.ok (ah.2)<|c8 ab) E<|hp 3 aa ag (fun w' A=>ld cR aa<|Wk.aJ A<|dE.get (i:=1) ah.2 ab) E<|hp 5 aa ag (fun _ _=>aH (.pointer<|some ⟨H.rb,0,none⟩) aa) E<|hp 6 aa ag (fun _ _=>nc aa) E<|hp 7 aa ag (fun _ _=>fa gx aa) E<|hp 8 aa ag (fun w' A=>ld eY aa<|Wk.aJ A<|(aV aq.cells).trans aa) E<|hp 9 aa ag (fun _ _=>nc aa) E<|hp 10 aa ag (fun _ _=>fa fZ aa) E<|hp 11 aa ag (fun _ _=>fa ng aa) E<|hp 12 aa ag (fun w' A=>ld jR aa<|Wk.aJ A<|e0) E<|hp 13 aa ag (fun _ _=>bP pY aa aa) E<|Rv (Pn:=fun c w'=> ∃ e,iU F (r.getD 1 [])= .error e∧c=ir 45 ln (e:Nat)∧Wk w.drew w') 4 15 aa aa ag aa aa ?_ (fun c w' C aU O=>by obtain ⟨e,he,h,h2⟩:=C; exact ⟨ln,e,D8 he,h,Wk.mw<|Md.trans E h2⟩) ?_
 refine dj yW (Af B H F V R rows ln seen (r.getD 1 []) w.drew (O.wk E) (aq.wk E) aK.kd ab) aa fun v10 b2 bk=> ?_
 obtain ⟨x,ai,bC,rfl,aT,bI⟩:=bk
 have au:(fun w'=>Wk w w') b2:=Md.trans E bI
 refine ⟨au,?_⟩
 refine hp 14 aa ag (fun _ _=>du (ps:= [(0,aX x),(1,.int .i64 (1:Nat)),(3,.int .i64 (F.rules.length:Nat))]) (L:= [aX x,.int .i64 (1:Nat),.bool false,.int .i64 (F.rules.length:Nat),.int .i64 0]) BB aa<|aa) au<|he 15 aa ag<|dY sG fun J b4 eU cg b8=> ?_
 have aD:(fun w'=>Wk w w') b4:=Md.trans au cg.md
 refine ⟨aD,?_⟩
 refine he 16 aa ag<|fk qw aa aa aa aa b8 aw fun cD cc b9=> ?_
 have bp:(fun w'=>Wk w w') cD:=Md.trans' aD cc fun k hk h=>by have h1:=Md.size au; have h2:=Md.size E; omega
 refine ⟨bp,?_⟩
 exact hn ag<|tn<|⟨x,J,ai,bC,aT,(by have h1:=Md.size au; have h2:=Md.size E; omega),b9,bp,aa,aa,aa⟩
 refine dY sG fun J b4 eU cg b8=> ?_
 have aD:(fun w'=>Wk w w') b4:=Md.trans E cg.md
 refine ⟨aD,?_⟩
 refine r7 4 aa ag aa (dj yW (Af B H F V R rows ln seen (r.getD 1 []) b4 (O.wk aD) (aq.wk aD) aK.kd ab) aa fun v10 b2 bk=> ?_) fun c w' C aU O=>by obtain ⟨e,he,h,h2⟩:=C; exact ⟨ln,e,D8 he,h,Wk.mw<|Md.trans aD h2⟩
 obtain ⟨x,ai,bC,rfl,aT,bI⟩:=bk
 have au:(fun w'=>Wk w w') b2:=Md.trans aD bI
 refine ⟨au,?_⟩
 refine hp 14 aa ag (fun _ _=>du (ps:= [(0,aX x),(1,.int .i64 (1:Nat)),(3,.int .i64 (F.rules.length:Nat))]) (L:= [aX x,.int .i64 (1:Nat),.bool false,.int .i64 (F.rules.length:Nat),.int .i64 0]) BB aa<|aa) au<|he 16 aa ag<|fk qw aa aa aa aa (Wk.az bI b8) aw fun cD cc b9=> ?_
 have bp:(fun w'=>Wk w w') cD:=Md.trans' au cc fun k hk h=>by have h1:=Md.size au; have h2:=Md.size E; omega
 refine ⟨bp,?_⟩
 exact hn ag<|tn<|⟨x,J,ai,bC,aT,(by have h1:=Md.size au; have h2:=Md.size E; omega),b9,bp,aa,aa,aa⟩
 rintro b5 cG ⟨x,J,ai,bC,aT,ff,dk,bF,fi,fj,fl⟩
 refine fx 0 fi<|fx 1 fj<|fx 4 fl ?_
 refine e8 (fun b6 a3=>(a3.heap[J]? =some (.cells [aX x,.int .i64 ((if r.getD 0 []=dF then 2 else 1:Nat):Nat),.bool false,.int .i64 (F.rules.length:Nat),.int .i64 (0:Nat)].toArray 192 (0,0)))∧(Wk w a3)∧(b6 0= .pointer (some ⟨H.rb,0,none⟩))∧(b6 1= .slice ar r.length cr)∧(b6 4= .pointer (some ⟨J,0,none⟩))) ?_ ?_
 refine sq fun dA cb=>rg aa<|p (aH (.slice ar r.length cr) aa)<|p (bc ec aa aa ab<|aG.ok (aG.wk ah.2 bF)<|c8 ab)<|p (ld cR aa<|dE.get (i:=0) (aG.wk ah.2 bF) ab)<|p (jD aa aa)<|nl<|tn<|cb _ _<|cd aa (fun cp=> ?_) fun cp=> ?_
 exact rg aa<|p (fa tW aa)<|e<|bW eZ aa aa (v:= .int .i64 (2:Nat)) aa dk (by show _ < 5; decide) fun gF ed dP=>nl<|tn<|⟨(by rw [if_pos (show r.getD 0 []=dF from cp)]; exact dP),(bF.trans' ed fun k hk h=>by omega),aa,aa,aa⟩
 exact aR<|tn<|⟨(by rw [if_neg (show ¬r.getD 0 []=dF from cp)]; exact dk),bF,aa,aa,aa⟩
 rintro b6 a3 ⟨fe,am,fo,fq,fr⟩
 refine fx 0 fo<|fx 1 fq<|fx 4 fr ?_
 refine e8 (fun b7 dz=>(r.getD 2 []= [89]∨r.getD 2 []= [78])∧(dz=a3)∧(b7 0= .pointer (some ⟨H.rb,0,none⟩))∧(b7 1= .slice ar r.length cr)∧(b7 4= .pointer (some ⟨J,0,none⟩))) ?_ ?_
 refine rg aa<|p (aH (.pointer<|some ⟨H.rb,0,none⟩) aa)<|p (aH (.slice ar r.length cr) aa)<|p (bc ec aa aa ab<|aG.ok (aG.wk ah.2 am)<|c8 ab)<|p (ld cR aa<|dE.get (i:=2) (aG.wk ah.2 am) ab)<|p (jD aa aa)<|p mv<|gs (t:=31) aa (fun bX=> ?_) fun bX=> ?_
 refine sk aa aa aa aa<|sk aa aa aa aa<|sk aa aa aa aa<|sk aa aa aa aa<|p (bO aa)<|eP aa (dj gz (gE H.rb ln _ 114 a3 (Wk.aJ am aq.ej) aw) aa fun v37 fJ ch=> ?_) fun c w' C aU O=>by first | exact absurd C.2.1 aw | exact ⟨ln,114,D9 ai bX (of_decide_eq_false C.2.1),C.1,by rw [C.2.2]; exact Wk.mw am⟩
 obtain ⟨rfl,ds,rfl⟩:=ch
 exact nl<|tn<|⟨(.inl bX),aa,aa,aa,aa⟩
 refine pg aa aa aa (aH (.slice ar r.length cr) aa)<|pg aa aa aa (bc ec aa aa ab<|aG.ok (aG.wk ah.2 am)<|c8 ab)<|pg aa aa aa (ld cR aa<|dE.get (i:=2) (aG.wk ah.2 am) ab)<|pg aa aa aa (jD aa aa)<|p (bG aa)<|eP aa (dj gz (gE H.rb ln _ 114 a3 (Wk.aJ am aq.ej) aw) aa fun v37 fJ ch=> ?_) fun c w' C aU O=>by first | exact absurd C.2.1 aw | exact ⟨ln,114,D9 ai bX (of_decide_eq_false C.2.1),C.1,by rw [C.2.2]; exact Wk.mw am⟩
 obtain ⟨rfl,ds,rfl⟩:=ch
 exact nl<|tn<|⟨(.inr<|of_decide_eq_true ds),aa,aa,aa,aa⟩
 rintro b7 dz ⟨a0,fD,fs,ft,fu⟩
 refine fx 0 fs<|fx 1 ft<|fx 4 fu ?_
 subst fD
 refine sq fun dA cb=>rg aa<|p (aH (.slice ar r.length cr) aa)<|p (bc ec aa aa ab<|aG.ok (aG.wk ah.2 am)<|c8 ab)<|p (ld cR aa<|dE.get (i:=2) (aG.wk ah.2 am) ab)<|p (jD aa aa)<|p (fa Fq aa)<|e<|bW nb aa aa (v:= .bool<|decide (r.getD 2 []= [89])) aa fe (by show _ < 5; decide) fun fK ee dR=> ?_
 have bf:=am.trans' ee fun k hk h=>by omega
 refine nl<|tn<|cb _ _<|sq fun fQ d3=>rg aa<|p (aH (.pointer<|some ⟨H.rb,0,none⟩) aa)<|p (aH (.slice ar r.length cr) aa)<|p (bc ec aa aa ab<|aG.ok (aG.wk ah.2 bf)<|c8 ab)<|p (ld cR aa<|dE.get (i:=3) (aG.wk ah.2 bf) ab)<|eP aa (dj vI (xe H.rb ln (r.getD 3 []) 1024 fK (Wk.aJ bf aq.ej) ab ab) aa fun gB gD eC=> ?_) fun c w' C aU O=>by obtain ⟨e,he,h,h2⟩:=C; exact ⟨ln,e,Nv ai a0 he,h,Wk.mw<|bf.trans h2⟩
 obtain ⟨n,aZ,rfl,cL⟩:=eC
 have gg:=AV aZ
 refine p (fa wm aa)<|e<|bW eZ aa aa (v:= .int .i64 (n:Nat)) aa (Wk.az cL dR) (by show _ < 5; decide) fun dx eg dS=> ?_
 have aM:=(bf.trans cL).trans' eg fun k hk h=>by omega
 have bt:dx.heap[J]? =some (.cells [aX x,.int .i64 ((if r.getD 0 []=dF then 2 else 1:Nat):Nat),.bool (decide (r.getD 2 []= [89])),.int .i64 (F.rules.length:Nat),.int .i64 (n:Nat)].toArray 192 (0,0)):=dS
 refine nl<|tn<|d3 _ _<|sq fun fR d4=>rg aa<|p (aH (.pointer<|some ⟨H.rb,0,none⟩) aa)<|p (fa Fs aa)<|p (ld bH aa<|(aV bt).trans aa)<|p (fa wm aa)<|p (ld bH aa<|(aV bt).trans aa)<|p (bK ((F.rules.length+n:Nat):Int) aa aa<|bl ab ab)<|p (le aa aa)<|eP aa (dj gz (gE H.rb ln _ 117 dx (Wk.aJ aM aq.ej) aw) aa fun gC cF eD=> ?_) fun c w' C aU O=>⟨ln,117,Nz ai a0 aZ (by have :=of_decide_eq_false C.2.1; omega),C.1,by rw [C.2.2]; exact Wk.mw aM⟩
 obtain ⟨rfl,fE,rfl⟩:=eD
 have bD:¬1024 < F.rules.length+n:=by have :=of_decide_eq_true fE; omega
 have bM:=aq.wk aM
 have dW:=O.wk aM
 have bY:=fB.wk aM
 refine nl<|tn<|d4 _ _<|sq fun fS d5=> ?_
 have ax:(fun w'=>Wk cF w') cF.drew:=(Md.refl _ _).drew
 refine eG (fun w'=>Wk cF w') 8 aa wide ax<|lq 0 aa ag (fun _ _=>aH (.pointer<|some ⟨H.rb,0,none⟩) aa) ax<|lq 1 aa ag (fun _ _=>nc aa) ax<|lq 2 aa ag (fun _ _=>fa z6 aa) ax<|lq 3 aa ag (fun w' A=>ld ti aa<|Wk.aJ A<|(aV bM.cells).trans aa) ax<|lq 4 aa ag (fun _ _=>fa Aa aa) ax<|lq 5 aa ag (fun w' A=>ld bZ aa<|Wk.aJ A<|(aV bt).trans aa) ax<|lq 6 aa ag (fun w' A=>lB qQ mH qH (bQ.md (bY) A id) aa aa (⟨_,aa⟩) (show _=fL .i64 0 from (dn x bC).trans<|by rw [aT]; rfl)) ax<|lq 7 aa ag (fun _ _=>bK ((1:Nat):Int) aa aa<|bl ab ab) ax<|dw 8 aa ag ag<|qR qQ qH (bY.wk ax) aa aa aa (⟨_,aa⟩) fun a4 ef ev=> ?_
 have bi:=je ef
 have bo:cB a4 B H {F with bB:=F.bB++ [(⟨x,(if r.getD 0 []=dF then 2 else 1:Nat),(decide (r.getD 2 []= [89])),F.rules.length,n⟩:dT)]} R rows ln seen:=bM.uj bi ev rfl (H0 aT dn fun y _=>O2 y)
 have bg:=dW.uj bM bi
 have de:=bi.az bt fun h=>bY.nm<|h ▸ bt
 have eQ:=(c3.wk aM).md bi fun k hk cur z ct=>by subst hk; exact bY.nm ct
 have en:=(Wk.mw aM).trans<|eJ.mt bM bi
 obtain ⟨cf,cq,e1⟩:=bg.cm
 have eX:Hb.aJ a4.heap H.fb 11=some (.slice cI F.bB.length ll):=by rw [← dr]; exact (aV bg.cells).trans rfl
 refine eF ag<|tn<|d5 _ _<|sq fun fT d6=> ?_
 have G:(fun w'=>Wk a4 w') a4.drew:=(Md.refl _ _).drew
 refine eG (fun w'=>Wk a4 w') 18 aa wide G<|lq 0 aa ag (fun _ _=>aH (.pointer<|some ⟨H.rb,0,none⟩) aa) G<|lq 1 aa ag (fun _ _=>nc aa) G<|lq 2 aa ag (fun _ _=>fa gx aa) G<|lq 3 aa ag (fun w' A=>ld eY aa<|Wk.aJ A<|(aV bo.cells).trans aa) G<|lq 4 aa ag (fun _ _=>nc aa) G<|lq 5 aa ag (fun _ _=>fa Fl aa) G<|lq 6 aa ag (fun w' A=>ld ti aa<|Wk.aJ A<|(aV bg.cells).trans aa) G<|lq 7 aa ag (fun _ _=>fa Aa aa) G<|lq 8 aa ag (fun w' A=>ld bZ aa<|Wk.aJ A<|(aV de).trans aa) G<|lq 9 aa ag (fun _ _=>aH (.pointer<|some ⟨H.rb,0,none⟩) aa) G<|lq 10 aa ag (fun _ _=>nc aa) G<|lq 11 aa ag (fun _ _=>fa gx aa) G<|lq 12 aa ag (fun w' A=>ld eY aa<|Wk.aJ A<|(aV bo.cells).trans aa) G<|lq 13 aa ag (fun _ _=>nc aa) G<|lq 14 aa ag (fun _ _=>fa fZ aa) G ?_
 refine lq 15 aa ag (fun _ _=>fa rX aa) G<|lq 16 aa ag (fun w' A=>ld vw aa<|Wk.aJ A<|eX) G<|lq 17 aa ag (fun _ _=>bP If aa aa) G<|dw 18 aa ag ag<|qR qQ qH (cq.wk G) aa aa aa (⟨_,aa⟩) fun a5 eh ew=> ?_
 have ex:bQ a5.heap H.mc (jU .u16) (bz cf (aX x)<|.int .i64 (F.bB.length:Nat)):=ew
 have bj:=je eh
 have cj:TF a4 [1] (fun k=>k=H.mc):=TF.eq (dN cq) aw
 have bs:=(Qa bg).md (L:= [1]) bj cj aw
 have bN:=bo.md (L:= [1]) bj cj aw bo.ne.2.1 bo.ne.2.2
 have c9:=bj.gZ cj de aw
 have eR:=eQ.md bj fun k hk cur z ct=>by subst hk; exact cq.nm ct
 have ep:=en.trans<|bj.mono fun k _ hk=>⟨hk ▸ bg.lo.2,.inr<|.inr<|.inl hk⟩
 have df:=e4 J ff
 have bA:¬(V.v11.ownBlock=some H.rb):=dQ bs.gk bN.cells aw
 have cu:¬(V.v11.ownBlock=some H.fb):=dQ bs.gk bs.cells aw
 refine eF ag<|tn<|d6 _ _<|sq fun fU d7=> ?_
 have Z:(fun w'=>Md (fun k=>V.v11.ownBlock=some k) a5 w') a5.drew:=(Md.refl _ _).drew
 refine eG (fun w'=>Md (fun k=>V.v11.ownBlock=some k) a5 w') 18 aa wide Z<|cC 0 aa ag (fun _=>aH (.pointer<|some ⟨H.rb,0,none⟩) aa) (fun _=>Z)<|cC 1 aa ag (fun _=>nc aa) (fun _=>Z)<|cC 2 aa ag (fun _=>fa gx aa) (fun _=>Z)<|jW 3 aa ag (fun w' A=>ld eY aa<|Md.aJ A ((aV bN.cells).trans aa) bA) Z<|cC 4 aa ag (fun _=>aH (.pointer<|some ⟨H.rb,0,none⟩) aa) (fun _=>Z)<|cC 5 aa ag (fun _=>nc aa) (fun _=>Z)<|cC 6 aa ag (fun _=>fa gx aa) (fun _=>Z)<|jW 7 aa ag (fun w' A=>ld eY aa<|Md.aJ A ((aV bN.cells).trans aa) bA) Z<|cC 8 aa ag (fun _=>nc aa) (fun _=>Z)<|cC 9 aa ag (fun _=>fa fZ aa) (fun _=>Z)<|cC 10 aa ag (fun _=>fa rX aa) (fun _=>Z)<|jW 11 aa ag (fun w' A=>ld vw aa<|Md.aJ A ((aV bs.cells).trans aa) cu) Z<|jW 12 aa ag (fun w' A=>cE tj aa (aa) fun j e2=>bE.bu ⟨_,Md.az A c9 df⟩ j) Z<|iV 13 aa ag<|pK xy aa aa aa fun f2 fM f8 cU dU=> ?_
 have aW:=je cU.md
 have ay:=bs.wk aW
 have cW:=bN.wk aW
 have gr:=(bT.1 cW.cells).1
 have c2:(fun w'=>Md (fun k=>V.v11.ownBlock=some k) a5 w') fM:=Z.trans' cU.md fun _ _ h=>h.elim
 refine ⟨c2,?_⟩
 refine iV 14 aa ag<|ap xy (ay.gk) aa ab aa (aG.gl dU) (aa) (aa) ab ab fun cy dy di aQ gw ge=> ?_
 have er:=(ep.trans<|Wk.mw aW).trans<|Mw.of aQ (TF.own ay.gk aw) fun k hk=>(da ay.gk hk).1
 have bk:=cB.own cW ay.gk aQ aw
 have bv:=aQ.az ay.cells<|dQ ay.gk ay.cells aw
 have ck:=aQ.az (Wk.az aW c9) df
 have eH:=(eR.wk aW).md aQ<|jJ ay.gk aw
 have fd:bq dy B 192 5 cy (F.bB++ [(⟨x,(if r.getD 0 []=dF then 2 else 1:Nat),(decide (r.getD 2 []= [89])),F.rules.length,n⟩:dT)]).length (mo<|F.bB++ [(⟨x,(if r.getD 0 []=dF then 2 else 1:Nat),(decide (r.getD 2 []= [89])),F.rules.length,n⟩:dT)]):=by rw [show mo (F.bB++ [(⟨x,(if r.getD 0 []=dF then 2 else 1:Nat),(decide (r.getD 2 []= [89])),F.rules.length,n⟩:dT)])=mo F.bB++mX (⟨x,(if r.getD 0 []=dF then 2 else 1:Nat),(decide (r.getD 2 []= [89])),F.rules.length,n⟩:dT) from by simp [mo],bJ]; exact di
 have bV:(fun w'=>Md (fun k=>V.v11.ownBlock=some k) a5 w') dy:=c2.trans' aQ fun _ _ h=>h
 refine ⟨bV,?_⟩
 refine cC 15 aa ag (fun _=>nc aa) (fun _=>bV)<|cC 16 aa ag (fun _=>fa fZ aa) (fun _=>bV)<|cC 17 aa ag (fun _=>fa rX aa) (fun _=>bV)<|dw 18 aa ag ag<|bW Ev aa aa (v:=cy) (e7 di) bv (by show _ < 14; omega) fun a2 an ca=> ?_
 have dV:=nV.KW (x:=(⟨x,(if r.getD 0 []=dF then 2 else 1:Nat),(decide (r.getD 2 []= [89])),F.rules.length,n⟩:dT)) ay (ex.wk aW) (N5 (c:=(⟨x,(if r.getD 0 []=dF then 2 else 1:Nat),(decide (r.getD 2 []= [89])),F.rules.length,n⟩:dT)) aT e1) aQ fd an ca
 have ey:=cB.vW bk bv an
 have db:=an.az ck fun h=>by rw [h,bv] at ck; cases ck
 have eI:=eH.md an<|im bv aw
 have ek:=er.trans<|Mw.of an (TF.eq (dD bv) aw) fun k hk=>hk ▸ ay.lo.1
 refine eF ag<|tn<|d7 _ _<|sq fun fV d8=>rg aa<|p (fa wm aa)<|p (ld bH aa<|(aV db).trans aa)<|p mv<|nl<|tn<|d8 _ _<|az<|lp (fun cK a6 aj=> ∃ (i:Nat) (xs:List cJ) (rows':List Rw) (b0:Nat) (I:ei) (R':gu),(i≤n)∧(gY [r.getD 0 [],r.getD 1 []] (jr F.kind F.aliases (⟨x,(if r.getD 0 []=dF then 2 else 1:Nat),(decide (r.getD 2 []= [89])),F.rules.length,n⟩:dT)) H.eof (group [r.getD 0 [],r.getD 1 []] (jr F.kind F.aliases (⟨x,(if r.getD 0 []=dF then 2 else 1:Nat),(decide (r.getD 2 []= [89])),F.rules.length,n⟩:dT)) H.eof n rows) xs (n - i) rows')∧(xs.length=i)∧(dp aj B H.fb H.mc {F with bB:=F.bB++ [(⟨x,(if r.getD 0 []=dF then 2 else 1:Nat),(decide (r.getD 2 []= [89])),F.rules.length,n⟩:dT)],rules:=F.rules++xs} I)∧(cB aj B H {F with bB:=F.bB++ [(⟨x,(if r.getD 0 []=dF then 2 else 1:Nat),(decide (r.getD 2 []= [89])),F.rules.length,n⟩:dT)],rules:=F.rules++xs} R' rows' b0 seen)∧(ka {F with bB:=F.bB++ [(⟨x,(if r.getD 0 []=dF then 2 else 1:Nat),(decide (r.getD 2 []= [89])),F.rules.length,n⟩:dT)],rules:=F.rules++xs} rows' seen)∧(eJ B H w aj)∧(aj.heap[J]? =some (.cells [aX x,.int .i64 ((if r.getD 0 []=dF then 2 else 1:Nat):Nat),.bool (decide (r.getD 2 []= [89])),.int .i64 (F.rules.length:Nat),.int .i64 (n:Nat)].toArray 192 (0,0)))∧(Tg aj cH 9 r.length (.slice ar r.length cr)<|r.map str)∧(a6 0= .pointer (some ⟨H.rb,0,none⟩))∧(a6 1= .slice ar r.length cr)∧(a6 4= .pointer (some ⟨J,0,none⟩))∧(a6 102= .int .i64 (n:Nat))∧(a6 103= .int .i64 (i:Nat))∧(n - i=cK)) _ ⟨0,[],rows,ln,{V with v11:=cy},R,ab,gY.start,aa,(by rw [eu]; exact dV),(by rw [eu]; exact ey),(⟨by simp only [bJ,iG,gJ]; omega,aK.sl,aK.row,aK.kd,aK.al⟩),ek,db,eI,aa,aa,aa,aa,aa,aa⟩ ?_
 rintro cK a6 aj ⟨i,xs,rows',b0,I,R',hi,aY,fF,cM,aA,bb,cP,dl,br,fv,fw,fA,fy,fz,rfl⟩
 refine fx 0 fv<|fx 1 fw<|fx 4 fA<|fx 102 fy<|fx 103 fz<|sq fun fW d9=>rg aa<|p (lt aa aa)<|nl<|tn<|d9 _ _<|sq fun fX eb=>cd aa (fun eW=> ?_) fun eW=> ?_
 refine aR<|tn<|eb _ _<|sq fun fN d0=>az<|sq fun fO d1=> ?_
 have aB:(fun w'=>Md (fun k=>k=H.rb) aj w') aj.drew:=(Md.refl _ _).drew
 refine bR (fun w'=>Md (fun k=>k=H.rb) aj w') aa wide aB<|hp 0 aa ag (fun _ _=>aH (.pointer<|some ⟨H.rb,0,none⟩) aa) aB<|hp 1 aa ag (fun _ _=>aH (.slice ar r.length cr) aa) aB<|hp 2 aa ag (fun _ _=>bc ec aa aa ab<|aG.ok (br.dJ.2)<|c8 ab) aB<|hp 3 aa ag (fun w' A=>ld cR aa<|dE.get (i:=0) (br.md A<|im aA.cells aw).dJ.2 ab) aB<|hp 4 aa ag (fun _ _=>aH (.slice ar r.length cr) aa) aB<|hp 5 aa ag (fun _ _=>bc ec aa aa ab<|aG.ok (br.dJ.2)<|c8 ab) aB<|hp 6 aa ag (fun w' A=>ld cR aa<|dE.get (i:=1) (br.md A<|im aA.cells aw).dJ.2 ab) aB<|he 7 aa ag<|qu (L:= [str (r.getD 0 []),str (r.getD 1 [])]) kp aa aa aa aa fun dH cA f6 cT dM=> ?_
 have ak:Wk aj cA:=je cT.md
 have cQ:=cP.trans<|Wk.mw ak
 have cX:(fun w'=>Md (fun k=>k=H.rb) aj w') cA:=aB.trans' cT.md fun _ _ h=>h.elim
 refine ⟨cX,?_⟩
 refine r7 8 aa ag aa (dj yX (Ap B H {F with bB:=F.bB++ [(⟨x,(if r.getD 0 []=dF then 2 else 1:Nat),(decide (r.getD 2 []= [89])),F.rules.length,n⟩:dT)],rules:=F.rules++xs} R' rows' b0 seen [r.getD 0 [],r.getD 1 []] dH 2 _ _ cA (aA.wk ak) (Tg.A0 dM aa) aa aw fun q cv=>(bb.row q cv).2.1) aa fun gA aF eB=> ?_) (fun c w' C aU O=>by
  obtain ⟨h1,h2⟩:=C
  have hm:=cQ.trans<|eJ.rb (aA.wk ak) h2
  rcases h1 with ⟨rfl,h3⟩ | ⟨b1,a1,rest,rfl,h4,h3⟩
  exact ⟨_,_,zj ai a0 aZ bD (aY.ends ab),h3,hm⟩
  exact ⟨_,_,zj ai a0 aZ bD (aY.other ab h4),h3,hm⟩)
 obtain ⟨b1,a1,rest,rfl,dq,⟨aI,bm⟩,hT15,hM15⟩:=eB
 obtain ⟨dC,tv,rfl⟩:=hT15.slice
 have aN:=(cM.wk ak).rb (aA.wk ak) hM15
 have cS:=cQ.trans<|eJ.rb (aA.wk ak) hM15
 have fh:a1≠[]∧a1.length≤70000∧∀ x∈a1,x.length≤70000:=bb.row (b1,a1)<|by simp
 have ba:=ka.rT bb
 have eV:=bb.len
 simp only [bS,bJ] at eV
 have eL:=(br.wk ak).md hM15<|im (aA.wk ak).cells aw
 have cl:=hM15.az (Wk.az ak dl) fun h=>by have h1:=(aA.wk ak).cells; rw [← h,Wk.az ak dl] at h1; cases h1
 have cY:(fun w'=>Md (fun k=>k=H.rb) aj w') aF:=cX.trans' hM15 fun _ _ h=>h
 refine ⟨cY,?_⟩
 refine hp 9 aa ag (fun _ _=>aE) cY<|hn ag<|tn<|d1 _ _<|sq fun fP d2=> ?_
 have bA:¬(I.v12.ownBlock=some H.rb):=dQ aN.et bm.cells aw
 have cu:¬(I.v12.ownBlock=some H.fb):=dQ aN.et aN.cells aw
 have e3:¬(I.v12.ownBlock=some J):=dQ aN.et cl aw
 have Y:(fun w'=>Md (fun k=>I.v12.ownBlock=some k) aF w') aF.drew:=(Md.refl _ _).drew
 refine eG (fun w'=>Md (fun k=>I.v12.ownBlock=some k) aF w') 21 aa wide Y<|cC 0 aa ag (fun _=>aH (.pointer<|some ⟨H.rb,0,none⟩) aa) (fun _=>Y)<|cC 1 aa ag (fun _=>nc aa) (fun _=>Y)<|cC 2 aa ag (fun _=>fa gx aa) (fun _=>Y)<|jW 3 aa ag (fun w' A=>ld eY aa<|Md.aJ A ((aV bm.cells).trans aa) bA) Y<|cC 4 aa ag (fun _=>aH (.pointer<|some ⟨H.rb,0,none⟩) aa) (fun _=>Y)<|cC 5 aa ag (fun _=>nc aa) (fun _=>Y)<|cC 6 aa ag (fun _=>fa gx aa) (fun _=>Y)<|jW 7 aa ag (fun w' A=>ld eY aa<|Md.aJ A ((aV bm.cells).trans aa) bA) Y<|cC 8 aa ag (fun _=>nc aa) (fun _=>Y)<|cC 9 aa ag (fun _=>fa fZ aa) (fun _=>Y)<|cC 10 aa ag (fun _=>fa ng aa) (fun _=>Y)<|jW 11 aa ag (fun w' A=>ld jR aa<|Md.aJ A ((aV aN.cells).trans aa) cu) Y<|cC 12 aa ag (fun _=>aH (.pointer<|some ⟨H.rb,0,none⟩) aa) (fun _=>Y)<|jW 13 aa ag (fun w' A=>cE tj aa (aa) fun j e2=>bE.bu ⟨_,Md.az A cl e3⟩ j) Y<|cC 14 aa ag (fun _=>mv) (fun _=>Y) ?_
 refine Gh 15 aa ag aa (dj L5 (xi B H {F with bB:=F.bB++ [(⟨x,(if r.getD 0 []=dF then 2 else 1:Nat),(decide (r.getD 2 []= [89])),F.rules.length,n⟩:dT)],rules:=F.rules++xs} I aI rest b1 seen (⟨x,(if r.getD 0 []=dF then 2 else 1:Nat),(decide (r.getD 2 []= [89])),F.rules.length,n⟩:dT) a1 B dC tv aF.drew (aN.wk (Md.refl _ _).drew) (bm.wk (Md.refl _ _).drew) ba (by show (if r.getD 0 []=dF then 2 else 1)=1∨(if r.getD 0 []=dF then 2 else 1)=2; split <;> simp) (hT15.wk (Md.refl _ _).drew) fh.2) aa fun gy fH ez=> ?_) fun c w' C aU O=>by obtain ⟨e,he,h,h2⟩:=C; exact ⟨_,_,zj ai a0 aZ bD (aY.bad ab dq he),h,cS.trans<|Wk.mw<|je h2⟩
 obtain ⟨q,cv,fg,⟨vn,rfl,c7⟩,bL⟩:=ez
 obtain ⟨a8,a9,rfl⟩:=c7.slice
 have bL:=je bL
 have cZ:(fun w'=>Md (fun k=>I.v12.ownBlock=some k) aF w') fH:=Md.mono bL fun _ _ h=>h.elim
 refine ⟨cZ,?_⟩
 refine iV 16 aa ag<|pK xp aa aa aa fun fY fI f5 ce dL=> ?_
 have bd:=bL.trans ce.md
 have ac:=aN.wk bd
 have cV:=bm.wk bd
 have eM:=eL.wk bd
 have dc:=Wk.az bd cl
 have eT:=c7.wk ce.md
 have gp:=(bT.1 cV.cells).1
 have c0:(fun w'=>Md (fun k=>I.v12.ownBlock=some k) aF w') fI:=cZ.trans' ce.md fun _ _ h=>h.elim
 refine ⟨c0,?_⟩
 refine iV 17 aa ag<|ap xp (ac.et) aa ab aa (aG.gl dL) (aa) (aa) (by simp only [bJ]; omega) (by simp only [bJ]; omega) fun v131 dt dg aO gt gb=> ?_
 have el:=(cS.trans<|Wk.mw bd).trans<|Mw.of aO (TF.own ac.et aw) fun k hk=>(da ac.et hk).1
 have eE:=cB.own cV ac.et aO aw
 have bw:=aO.az ac.cells<|dQ ac.et ac.cells aw
 have cn:=aO.az dc<|dQ ac.et dc aw
 have eN:=eM.md aO<|jJ ac.et aw
 have e5:bq dt B 134 7 v131 ((F.rules++xs)++ [q]).length (gd<|((F.rules++xs)++ [q]).zip<|I.rn++ [.slice a8 q.next.length a9]):=by
  have fG:(F.rules++xs).length=I.rn.length:=by have :=ac.nx.1; rw [e9] at this; exact this.symm
  rw [List.zip_append fG,show gd ((F.rules++xs).zip I.rn++ [q].zip [.slice a8 q.next.length a9])=gd ((F.rules++xs).zip I.rn)++dG (q,.slice a8 q.next.length a9) from by simp [gd],bJ]
  exact dg
 have bU:(fun w'=>Md (fun k=>I.v12.ownBlock=some k) aF w') dt:=c0.trans' aO fun _ _ h=>h
 refine ⟨bU,?_⟩
 refine cC 18 aa ag (fun _=>nc aa) (fun _=>bU)<|cC 19 aa ag (fun _=>fa fZ aa) (fun _=>bU)<|cC 20 aa ag (fun _=>fa ng aa) (fun _=>bU)<|dw 21 aa ag ag<|bW El aa aa (v:=v131) (e7 dg) bw (by show _ < 14; omega) fun a2 an ca=> ?_
 have dX:=dp.KX (x:=q) (vx:= .slice a8 q.next.length a9) ac eT aO e5 an ca
 have aS:=cB.vW eE bw an
 have dd:=an.az cn fun h=>by rw [h,bw] at cn; cases cn
 have eO:=eN.md an<|im bw aw
 have em:=el.trans<|Mw.of an (TF.eq (dD bw) aw) fun k hk=>hk ▸ ac.lo.1
 refine eF ag<|tn<|d2 _ _ ?_
 have av:(fun w'=>Md (fun k=>aI.vn.ownBlock=some k) a2 w') a2.drew:=(Md.refl _ _).drew
 refine eG (fun w'=>Md (fun k=>aI.vn.ownBlock=some k) a2 w') 13 aa wide av<|cC 0 aa ag (fun _=>aH (.pointer<|some ⟨H.rb,0,none⟩) aa) (fun _=>av)<|cC 1 aa ag (fun _=>aH (.pointer<|some ⟨H.rb,0,none⟩) aa) (fun _=>av)<|cC 2 aa ag (fun _=>nc aa) (fun _=>av)<|cC 3 aa ag (fun _=>fa z7 aa) (fun _=>av)<|jW 4 aa ag (fun w' A=>ld vv aa<|Md.aJ A ((aV aS.cells).trans aa)<|dQ aS.on aS.cells aw) av<|cC 5 aa ag (fun _=>aH (.pointer<|some ⟨H.rb,0,none⟩) aa) (fun _=>av)<|cC 6 aa ag (fun _=>nc aa) (fun _=>av)<|cC 7 aa ag (fun _=>fa tT aa) (fun _=>av)<|jW 8 aa ag (fun w' A=>ld bH aa<|Md.aJ A ((aV aS.cells).trans aa)<|dQ aS.on aS.cells aw) av<|iV 9 aa ag<|lk nu aa aa fun f1 dv f7 es dO=> ?_
 have aL:=je es.md
 have ae:=aS.wk aL
 have cN:=dX.wk aL
 have gq:=(bT.1 ae.cells).1
 have c1:(fun w'=>Md (fun k=>aI.vn.ownBlock=some k) a2 w') dv:=Md.mono aL fun _ _ h=>h.elim
 refine ⟨c1,?_⟩
 refine iV 10 aa ag<|ap nu (ae.on) aa ab aa (aG.gl dO) (aa) (aa) (by simp only [bJ]; omega) (by simp only [bJ]; omega) fun v145 b3 dh aP gv gc=> ?_
 have eo:=(em.trans<|Wk.mw aL).trans<|Mw.of aP (TF.own ae.on aw) fun k hk=>(da ae.on hk).1
 have c6:TF dv [5] (fun k=>aI.vn.ownBlock=some k):=TF.own ae.on aw
 have cO:=cN.md aP c6 aw fun h=>by obtain ⟨f,cs,_⟩:=cN.cm; exact c6.no (dN cs) aw h
 have bx:=aP.az ae.cells<|dQ ae.on ae.cells aw
 have co:=aP.az (Wk.az aL dd)<|dQ ae.on (Wk.az aL dd) aw
 have eS:=(eO.wk aL).md aP<|jJ ae.on aw
 have fc:bq b3 B 3 1 v145 ((F.rules++xs)++ [q]).length (((F.rules++xs)++ [q]).map fun r=>fL .i64 (r.line:Nat)):=by
  rw [gV,bJ]
  show bq b3 B 3 1 v145 _ (_++ [fL .i64 (q.line:Nat)])
  rw [fg]
  exact dh
 have ci:(fun w'=>Md (fun k=>aI.vn.ownBlock=some k) a2 w') b3:=c1.trans' aP fun _ _ h=>h
 refine ⟨ci,?_⟩
 refine cC 11 aa ag (fun _=>nc aa) (fun _=>ci)<|cC 12 aa ag (fun _=>fa z7 aa) (fun _=>ci)<|dw 13 aa ag ag<|bW Es aa aa (v:=v145) (e7 dh) bx (by show _ < 7; omega) fun b2 bh dK=> ?_
 have c4:TF b3 [169] (fun k=>k=H.rb):=TF.eq (dD bx) aw
 have dZ:=cO.md bh c4 aw fun h=>by obtain ⟨f,cs,_⟩:=cO.cm; exact c4.no (dN cs) aw h
 exact eF ag<|bn<|tn<|d0 _ _<|rg aa<|p (ad aa aa<|cz ab)<|p mv<|nl<|tn<|⟨_,ab,i+1,xs++ [q],rest,b1,{I with v12:=v131,rn:=I.rn++ [.slice a8 q.next.length a9]},{aI with vn:=v145},ab,(by rw [show n - (i+1)=n - i - 1 by omega]; exact aY.step ab dq cv),(by rw [bJ,fF]; rfl),(by rw [← ea]; exact dZ),(by rw [← ea]; exact cB.Ty (q:=q) ae aP fc bh dK aa fun _=>rfl),(⟨by simp only [bJ,iG]; omega,ba.sl,ba.row,ba.kd,ba.al⟩),(eo.trans<|Mw.of bh (TF.eq (dD bx) aw) fun k hk=>hk ▸ ae.lo.1),(bh.az co fun h=>by rw [h,bx] at co; cases co),(eS.md bh<|im bx aw),aa,aa,aa,aa,aa,aa⟩
 refine ext<|te _<|te _<|be<|ja<|f0 aa ?_
 rw [show n - i=0 by omega] at aY
 exact ⟨aa,_,rows',b0,NA ai a0 aZ bD aY.done,⟨I,R',cM,aA,bb⟩,cP⟩
end Go.Hb.qk
end
section
namespace Go.Hb
open Go.Hb.qk Go.Hb.pF
def rO:dT:=⟨0,0,false,0,0⟩
theorem Qj {x:Nat} :∀ {cs:List dT} {i:Nat},cs.findIdx? (fun c=>decide (c.flag=x))=some i→∃ c,cs[i]? =some c∧dO cs x=some c:=by
 intro cs
 induction cs with
 | nil=>intro i h; simp at h
 | cons a l E=>
   intro i h
   rw [List.findIdx?_cons] at h
   unfold dO
   rw [Jx]
   by_cases A:a.flag=x
   · simp only [A,decide_true,if_true] at h ⊢
     cases h
     exact ⟨a,aa,aa⟩
   · simp only [A,decide_false] at h ⊢
     simp only [Bool.false_eq_true,if_false,Option.map_eq_some_iff] at h
     obtain ⟨j,C,rfl⟩:=h
     obtain ⟨c,h1,h2⟩:=E C
     exact ⟨c,by simpa using h1,h2⟩
theorem TN {F:aC} {x:Nat} (h:x=F.sp.getD 0 0):mA F x=true :=by unfold mA; rw [decide_eq_true h]; rfl
theorem TO {F:aC} {x:Nat} (h:(dO F.bB x).isSome=true) (hk:((dO F.bB x).getD rO).kind=2):mA F x=true :=by
 unfold mA
 obtain ⟨c,A⟩:=me.1 h
 rw [A] at hk ⊢
 simp only [Kc] at hk
 simp [hk]
theorem A2 {F:aC} {x:Nat} (A:x≠F.sp.getD 0 0) (h:(dO F.bB x).isSome=true) (hk:((dO F.bB x).getD rO).kind≠2):mA F x=false :=by
 unfold mA
 obtain ⟨c,C⟩:=me.1 h
 rw [C] at hk ⊢
 simp only [Kc] at hk
 rw [decide_eq_false A]
 simp [hk]
theorem A3 {F:aC} {x:Nat} (A:x≠F.sp.getD 0 0) (h:(dO F.bB x).isSome=false):mA F x=false :=by
 unfold mA
 rw [decide_eq_false A]
 cases hc:dO F.bB x with
 | none=>rfl
 | some c=>rw [hc] at h; cases h
theorem rH {F:aC} {q:cJ} {j:Nat} (c:j < q.next.length) (h:mA F (q.next.getD j 0)=false):nW F q=true :=by
 unfold nW
 rw [List.any_eq_true]
 exact ⟨_,e6 c,by rw [h]; rfl⟩
theorem Li {F:aC} {q:cJ} (h:∀ j,j < q.next.length→mA F (q.next.getD j 0)=true):nW F q=false :=by
 unfold nW
 rw [List.any_eq_false]
 intro x A
 obtain ⟨j,c,rfl⟩:=oY 0 A
 rw [h j c]; simp
theorem rV {p:cJ→Bool} {q:cJ} :∀ {l:List cJ} {i:Nat},(∀ j c,j < i→l[j]? =some c→p c=false)→l[i]? =some q→p q=true→l.find? p=some q:=by
 intro l
 induction l with
 | nil=>intro i _ h; simp at h
 | cons a l E=>
   intro i A hi hp
   rw [Jx]
   cases i with
   | zero=>simp only [yh,Option.some.injEq] at hi; subst hi; rw [hp]
   | succ i=>
     rw [A 0 a ab rfl]
     exact E (i:=i) (fun j c G C=>A (j+1) c ab<|by simpa using C) (by simpa using hi) hp
theorem Qm {p:cJ→Bool} {l:List cJ} (h:∀ j A,j < l.length→l[j]? =some A→p A=false):l.find? p=none:=by
 rw [Cz]
 intro q C
 obtain ⟨j,c⟩:=q9 C
 rw [h j q (eR.1 c).1 c]; simp
theorem Qk {x:Nat} {cs:List dT} (h:cs.findIdx? (fun c=>decide (c.flag=x))=none):dO cs x=none:=by
 rw [Jy] at h
 unfold dO
 rw [Cz]
 intro c A
 simpa using h c A
theorem zJ (B fb mc:Nat) (F:aC) (V:ei) (x:Nat) (w:World) (C:dp w B fb mc F V) (aQ:F.bB.length≤70000):
 bf ao 136 (a7 [aU fb,aX x]) w (fun v w'=>v= .tuple #[.agg (mX<|(dO F.bB x).getD rO).toArray,.bool (dO F.bB x).isSome]∧Wk w w'):=by
 obtain ⟨an,ll,ac⟩:=c5 C.gk
 have Y:=C.gk
 rw [ac] at Y
 have ax:Hb.aJ w.heap fb 11=some (.slice an F.bB.length ll):=by rw [← ac]; exact (aV C.cells).trans rfl
 obtain ⟨f,aD,aF⟩:=C.cm
 obtain ⟨iv,ob,aH,aK,J⟩:∃ (iv:Nat) (ob:Bool),(f<|aX x).getD (.int .i64 0)=aj iv∧(f<|aX x).isSome=ob∧((ob=false∧dO F.bB x=none)∨(ob=true∧∃ c,F.bB[iv]? =some c∧dO F.bB x=some c)):=by
  rw [aF x]
  cases hfi:F.bB.findIdx? (fun c=>decide (c.flag=x)) with
  | none=>exact ⟨0,false,rfl,rfl,.inl ⟨rfl,Qk hfi⟩⟩
  | some i=>exact ⟨i,true,rfl,rfl,.inr ⟨rfl,Qj hfi⟩⟩
 refine enter func136 aa ntmps136 aa<|ak fun ad=>e<|al sG fun aN aS aO A I=>ay<|ad<|aB fun ae=>aB fun ag=>rg aa<|au (aU fb)<|p (iZ uG aa aa)<|nl<|ag<|cf (aa)<|aR<|ae<|ak fun ah=>au (aU fb)<|p (nc aa)<|p (fa Fl aa)<|p (ld ti aa<|Wk.aJ A.md<|(aV C.cells).trans aa)<|au (aX x)<|p (Gp qQ mH qH (aD.wk A.md) aa aa (⟨_,aa⟩) (aH)<|aK)<|p mv<|p (xt aa aa)<|p (xt aa aa)<|p aE<|ay<|ah<|aB fun ai=>ak fun am=>p mv<|p (no aa)<|nl<|am<|cb aa (fun G=> ?_) fun G=> ?_
 have aL:ob=false :=by simpa using G
 have aA:dO F.bB x=none:=by rcases J with ⟨_,h⟩ | ⟨h,_⟩; exact h; rw [aL] at h; cases h
 exact ak fun E=>p (du (ps:= []) (L:= [.int .u16 0,.int .i64 0,.bool false,.int .i64 0,.int .i64 0]) BB aa<|aa)<|e<|dd qw aa aa aa aa (I) (by simp) fun aT av ap=>ay<|E<|rt<|tr<|fg aa (dZ (cs:=mX rO) aa tj aa fun j aI=>ap.bu j) eI<|⟨by rw [aA]; rfl,A.md.trans' av fun k hk h=>by omega⟩
 have aM:ob=true :=by simpa using G
 obtain ⟨c,O,az⟩:∃ c,F.bB[iv]? =some c∧dO F.bB x=some c:=by rcases J with ⟨h,_⟩ | ⟨_,h⟩; rw [aM] at h; cases h; exact h
 have aP:=(eR.1 O).1
 have Z:=ba Y A.md
 exact aR<|ai<|ak fun E=>au (aU fb)<|p (nc aa)<|p (fa fZ aa)<|p (fa rX aa)<|p (ld vw aa<|Wk.aJ A.md ax)<|p mv<|p (bc P8 aa aa ab<|aG.ok ((aY Z).2) fun h=>by have :=congrArg mL h; rw [show (mo F.bB).length=F.bB.length*5 from mu (f:=mX) (m:=5) (fun _=>rfl) _] at this; simp at this; omega)<|p (cE tj aa (aa)<|ic (f:=mX) (m:=5) (fun _=>rfl) (aY Z).2 O)<|e<|dd qw aa aa aa aa (I) (by simp) fun aW aw aq=>ay<|E<|rt<|fg aa (dZ (cs:=mX c) aa tj aa fun j aI=>aq.bu j) eI<|⟨by rw [az]; rfl,A.md.trans' aw fun k hk h=>by omega⟩
theorem Nk (B:Nat) (H:cw) (F:aC) (rows:List Rw) (ln:Nat) (seen:List Tx) (w:World) (bD:St w B H F rows ln seen) (bQ:∀ q∈F.rules,q.next.length≤64):
 eK ao 76 (a7 [.pointer (some ⟨H.rb,0,none⟩)]) w (fun v w'=>v= .tuple #[]∧F.rules.find? (nW F)=none∧(∃ V R' aA,dp w' B H.fb H.mc F V∧cB w' B H F R' rows aA seen)∧eJ B H w w') (fun c w'=> ∃ q,F.rules.find? (nW F)=some q∧c=ir 45 q.line 118∧eJ B H w w'):=by
 obtain ⟨V,R,Y,av,ba⟩:=bD
 obtain ⟨a12,aF,aU⟩:=c5 Y.et
 have bR:=Y.et
 rw [aU] at bR
 have bI:Hb.aJ w.heap H.fb 12=some (.slice a12 F.rules.length aF):=by rw [← aU]; exact (aV Y.cells).trans rfl
 obtain ⟨vr,vs,vn⟩:=R
 obtain ⟨ap,cv,ca⟩:=c5 av.on
 obtain rfl :vn= .slice ap F.rules.length cv:=ca
 have cD:=ba.len
 have cF:=av.lo
 refine jz func76 aa ntmps76 aa<|sq fun cf bk=>rg aa<|p (aH (.pointer<|some ⟨H.rb,0,none⟩) aa)<|p (nc aa)<|p (fa gx aa)<|p (ld eY aa<|(aV av.cells).trans aa)<|p (nc aa)<|p (fa fZ aa)<|p (fa ng aa)<|p (ld jR aa<|bI)<|p (bP pY aa aa)<|p mv<|nl<|tn<|bk _ _<|az<|lp (fun ag an am=> ∃ (i aA:Nat),(i≤F.rules.length)∧(∀ j q,j < i→F.rules[j]? =some q→nW F q=false)∧(dp am B H.fb H.mc F V)∧(cB am B H F ⟨vr,vs,.slice ap F.rules.length cv⟩ rows aA seen)∧(eJ B H w am)∧(an 0= .pointer (some ⟨H.rb,0,none⟩))∧(an 15= .slice a12 F.rules.length aF)∧(an 16= .int .i64 (F.rules.length:Nat))∧(an 17= .int .i64 (i:Nat))∧(F.rules.length - i=ag)) _ ⟨0,ln,ab,(fun j q a3=>by omega),Y,av,(Md.refl _ _),aa,aa,aa,aa,aa⟩ ?_
 rintro ag an am ⟨i,aA,hi,J,au,aN,aZ,bV,bY,b0,b1,rfl⟩
 refine fx 0 bV<|fx 15 bY<|fx 16 b0<|fx 17 b1<|sq fun ck bo=>rg aa<|p (lt aa aa)<|nl<|tn<|bo _ _<|sq fun cm bp=>cd aa (fun bJ=> ?_) fun bJ=> ?_
 refine aR<|tn<|bp _ _<|sq fun cn bq=>az<|sq fun co br=> ?_
 have aQ:=au.et
 rw [aU] at aQ
 have a2:i < F.rules.length:=ab
 obtain ⟨vn,b9,aP⟩:=dH.get au.nx (i:=i)<|by rw [e9]; exact a2
 obtain ⟨q,C⟩:∃ q,F.rules[i]? =some q:=⟨_,bX a2⟩
 have bU:(F.rules.map (·.next)).getD i []=q.next:=by rw [cU,fF,C]; rfl
 rw [bU] at aP
 have cH:=bQ q<|fU C
 obtain ⟨aD,aI,rfl⟩:=aP.slice
 have a4:(F.rules.zip V.rn)[i]? =some (q,.slice aD q.next.length aI):=by rw [jj]; exact ⟨C,b9⟩
 have a5:(gd<|F.rules.zip V.rn).length=(F.rules.zip V.rn).length*7:=mu (f:=dG) (m:=7) (fun _=>rfl) _
 have bN:(F.rules.map fun r=>fL .i64 (r.line:Nat))[i]? =some (.int .i64 (q.line:Nat)):=by rw [fF,C]; rfl
 refine rg aa<|p (aH (.int .i64 (i:Nat)) aa)<|p (bc kG aa aa ab<|aG.ok ((aY aQ).2) (fun h=>by rw [h] at a5; have h2:0=(F.rules.zip V.rn).length*7:=a5; have h3:=(eR.1 a4).1; omega)) ?_
 refine p (cE jx aa (aa)<|ic (f:=dG) (m:=7) (fun _=>rfl) (aY aQ).2 a4)<|e<|al pc fun cu cK cA a1 bd=> ?_
 skip
 refine p (cg (.int .i64 (i:Nat)) aa)<|e<|dd na aa aa aa aa (bd) (by simp) fun ce bw bb=> ?_
 have aq:Wk am ce:=a1.md.trans' bw fun k hk h=>by omega
 have bi:=au.wk aq
 have E:=aN.wk aq
 have cI:=a1.size
 have cG:=(bT.1 aN.cells).1
 refine nl<|tn<|br _ _<|sq fun cp bs=>rg aa<|p (aH (.pointer<|some ⟨H.rb,0,none⟩) aa)<|p (aH (.pointer<|some ⟨H.rb,0,none⟩) aa)<|p (nc aa)<|p (fa z7 aa)<|p (ld vv aa<|(aV E.cells).trans aa)<|p (aH (.int .i64 (i:Nat)) aa)<|p (bc oS aa aa ab<|aG.ok ((aY E.on).2)<|by simp; intro h; rw [h] at C; simp at C)<|p (ld bH aa<|aG.iY (aY E.on).2 bN)<|p (nc aa)<|p (fa tT aa)<|e<|bW eZ aa aa (v:= .int .i64 (q.line:Nat)) aa E.cells (by show _ < 7; decide) fun cN ai bh=> ?_
 have bC:=E.c6 (R':=⟨vr,vs,.slice ap F.rules.length cv⟩) (ln':=q.line) ai bh rfl E.rws E.rt
 have bj:=bi.rb E ai
 have bF:=ai.B bb fun h=>by omega
 have bE:=(aP.wk aq).md ai<|im E.cells aw
 have bz:=(aZ.trans<|Wk.mw aq).trans<|eJ.rb E ai
 refine nl<|tn<|bs _ _<|sq fun cq bt=>rg aa<|p (fa pP aa)<|p (ld mj aa<|(bF.aJ 6).trans aa)<|p (bP oq aa aa)<|p mv<|nl<|tn<|bt _ _<|az<|lp (fun ag O ae=> ∃ (j:Nat),(j≤q.next.length)∧(∀ ak,ak < j→mA F (q.next.getD ak 0)=true)∧(dp ae B H.fb H.mc F V)∧(cB ae B H F ⟨vr,vs,.slice ap F.rules.length cv⟩ rows q.line seen)∧(eJ B H w ae)∧(Tg ae B 95 q.next.length (.slice aD q.next.length aI)<|q.next.map aX)∧(O 0= .pointer (some ⟨H.rb,0,none⟩))∧(O 15= .slice a12 F.rules.length aF)∧(O 16= .int .i64 (F.rules.length:Nat))∧(O 17= .int .i64 (i:Nat))∧(O 33= .slice aD q.next.length aI)∧(O 34= .int .i64 (q.next.length:Nat))∧(O 35= .int .i64 (j:Nat))∧(q.next.length - j=ag)) _ ⟨0,ab,(fun ak bM=>by omega),bj,bC,bz,bE,aa,aa,aa,aa,aa,aa,aa,aa⟩ ?_
 rintro ag O ae ⟨j,a3,aS,aL,aO,a0,ax,b2,b3,b4,b5,b6,b7,b8,rfl⟩
 refine fx 0 b2<|fx 15 b3<|fx 16 b4<|fx 17 b5<|fx 33 b6<|fx 34 b7<|fx 35 b8<|sq fun cs bu=>rg aa<|p (lt aa aa)<|nl<|tn<|bu _ _<|sq fun ct bv=>cd aa (fun bK=> ?_) fun bK=> ?_
 refine aR<|tn<|bv _ _<|sq fun ch aM=>az<|sq fun ci bl=> ?_
 have cb:(q.next.map aX)[j]? =some (aX<|q.next.getD j 0):=by rw [fF,cU,bX (by omega :j < q.next.length)]; rfl
 refine rg aa<|p (bc bL aa aa ab<|aG.ok (ax.dJ.2)<|c8 ab)<|p (ld bZ aa<|aG.iY ax.dJ.2 cb)<|p aE<|nl<|tn<|bl _ _<|sq fun cj bm=>rg aa<|p (aH (.pointer<|some ⟨H.rb,0,none⟩) aa)<|p (nc aa)<|p (fa gx aa)<|p (ld eY aa<|(aV aO.cells).trans aa)<|p mv<|e<|cl yR (zJ B H.fb H.mc F V (q.next.getD j 0) _ aL ab) aa fun v45 cL bB=> ?_
 obtain ⟨rfl,aW⟩:=bB
 have cJ:=aW.size
 refine p mv<|p (xt aa aa)<|p (xt aa aa)<|e<|al sG fun cy cM cC bA bf=>e<|dd qw aa aa aa aa (bf) (by simp) fun aB bx bg=> ?_
 have ah:Wk ae aB:=(aW.trans bA.md).trans' bx fun k hk h=>by omega
 have aK:=aL.wk ah
 have ac:=aO.wk ah
 have G:=a0.trans<|Wk.mw ah
 refine p aE<|nl<|tn<|bm _ _<|rg aa<|p (aH (.pointer<|some ⟨H.rb,0,none⟩) aa)<|p mv<|p (aH (.pointer<|some ⟨H.rb,0,none⟩) aa)<|p (nc aa)<|p (fa gx aa)<|p (ld eY aa<|(aV ac.cells).trans aa)<|p (nc aa)<|p (fa fZ aa)<|p (fa wg aa)<|p (lW tp aa aa ab)<|p (ld bZ aa<|(aV aK.cells).trans aa)<|p (cx aa aa)<|p mv<|gs (t:=60) aa (fun Z=> ?_) fun Z=> ?_
 refine sk aa aa aa aa<|sk aa aa aa aa<|xo aa aa aa<|xo aa aa aa<|xo aa aa aa<|sk aa aa aa aa<|p (bO aa) ?_
 refine eP aa (dj gz (gE H.rb q.line _ 118 aB ac.ej aw) aa fun a6 a8 aj=> ?_) (fun c w' A a9 Y=>by
  first
   | exact absurd A.2.1 aw
   | exact ⟨q,rV J C (rH (j:=j) ab<|A2 (fun h=>Z<|by rw [h]) I<|by have :=of_decide_eq_false A.2.1; omega),A.1,by rw [A.2.2]; exact G⟩
   | exact ⟨q,rV J C (rH (j:=j) ab<|A3 (fun h=>Z<|by rw [h])<|by simpa using I),A.1,by rw [A.2.2]; exact G⟩)
 obtain ⟨rfl,ay,rfl⟩:=aj
 exact nl<|bn<|tn<|aM _ _<|rg aa<|p (ad aa aa<|cz ab)<|p mv<|nl<|tn<|⟨_,ab,j+1,ab,(fun k hk=>by rcases jk k j with h | h <;> first | exact aS k h | (rw [show k=j by omega]; exact TN ab)),aK,ac,G,(ax.wk ah),aa,aa,aa,aa,aa,aa,aa,aa⟩
 refine pg aa aa aa mv<|pg aa aa aa mv<|gb (t:=62) aa (fun I=> ?_) fun I=> ?_
 refine pg aa aa aa (fa tW aa)<|pg aa aa aa (ld bH aa<|(bg.aJ 1).trans aa)<|pg aa aa aa (cx aa aa)<|pg aa aa aa (bO aa)<|p (bG aa) ?_
 refine eP aa (dj gz (gE H.rb q.line _ 118 aB ac.ej aw) aa fun a6 a8 aj=> ?_) (fun c w' A a9 Y=>by
  first
   | exact absurd A.2.1 aw
   | exact ⟨q,rV J C (rH (j:=j) ab<|A2 (fun h=>Z<|by rw [h]) I<|by have :=of_decide_eq_false A.2.1; omega),A.1,by rw [A.2.2]; exact G⟩
   | exact ⟨q,rV J C (rH (j:=j) ab<|A3 (fun h=>Z<|by rw [h])<|by simpa using I),A.1,by rw [A.2.2]; exact G⟩)
 obtain ⟨rfl,ay,rfl⟩:=aj
 exact nl<|bn<|tn<|aM _ _<|rg aa<|p (ad aa aa<|cz ab)<|p mv<|nl<|tn<|⟨_,ab,j+1,ab,(fun k hk=>by rcases jk k j with h | h <;> first | exact aS k h | (rw [show k=j by omega]; exact TO I<|by have :=of_decide_eq_true ay; omega)),aK,ac,G,(ax.wk ah),aa,aa,aa,aa,aa,aa,aa,aa⟩
 refine sk aa aa aa aa<|sk aa aa aa aa<|sk aa aa aa aa<|pg aa aa aa (bG aa)<|p (bG aa) ?_
 refine eP aa (dj gz (gE H.rb q.line _ 118 aB ac.ej aw) aa fun a6 a8 aj=> ?_) (fun c w' A a9 Y=>by
  first
   | exact absurd A.2.1 aw
   | exact ⟨q,rV J C (rH (j:=j) ab<|A2 (fun h=>Z<|by rw [h]) I<|by have :=of_decide_eq_false A.2.1; omega),A.1,by rw [A.2.2]; exact G⟩
   | exact ⟨q,rV J C (rH (j:=j) ab<|A3 (fun h=>Z<|by rw [h])<|by simpa using I),A.1,by rw [A.2.2]; exact G⟩)
 obtain ⟨rfl,ay,rfl⟩:=aj
 exact nl<|bn<|tn<|aM _ _<|rg aa<|p (ad aa aa<|cz ab)<|p mv<|nl<|tn<|absurd ay aw
 exact ext<|te _<|te _<|be<|bn<|tn<|bq _ _<|rg aa<|p (ad aa aa<|cz ab)<|p mv<|nl<|tn<|⟨_,ab,i+1,q.line,ab,(fun k cc hk aT=>by rcases jk k i with h | h <;> first | exact J k cc h aT | (rw [show k=i by omega,C] at aT; cases aT; exact Li fun ak bM=>aS ak ab)),aL,aO,a0,aa,aa,aa,aa,aa⟩
 refine ext<|te _<|te _<|be<|ja<|f0 aa ?_
 exact ⟨aa,Qm (fun j q a3 bS=>J j q ab bS),⟨V,_,_,au,aN⟩,aZ⟩
end Go.Hb
end
namespace Go.Hb
def Nx (F:aC):Prop :=(∀ l∈F.aliases,l.length≤64)∧∀ q∈F.rules,q.next.length≤64
theorem Ai {α:Type} {hd:List Tx} {rd:Nat→List Tx→Except Nat α} {eof:Nat} :∀ (n:Nat) (rows:List Rw) (r:List α×List Rw),group hd rd eof n rows= .ok r→∀ x∈r.1,∃ ln row,rd ln row= .ok x:=by
 intro n
 induction n with
 | zero=>intro rows r h; simp only [group,qT] at h; subst h; intro x c; cases c
 | succ n A=>
   intro rows r h
   cases rows with
   | nil=>simp [group] at h
   | cons q rows=>
     obtain ⟨ln,row⟩:=q
     simp only [group] at h
     split at h
     · cases h
     · cases hr:rd ln row with
       | error e=>rw [hr] at h; cases h
       | ok y=>
         rw [hr] at h
         simp only at h
         cases hg:group hd rd eof n rows with
         | error e=>rw [hg] at h; cases h
         | ok C=>
           rw [hg] at h
           simp only [qT] at h
           subst h
           intro x c
           rcases ew.1 c with c | c
           · exact ⟨ln,row,by rw [c]; exact hr⟩
           · exact A rows C hg x c
theorem Fz {kind:Nat} {s:Tx} {l:List Nat} (h:kW kind s= .ok l):l.length≤64:=by
 unfold kW at h
 split at h
 · cases h
 · rename_i c
   cases h
   exact (Fv<|mI.1 c).1
theorem KB {kind ln:Nat} {row:List Tx} {l:List Nat} (h:ml kind ln row= .ok l):l.length≤64:=by
 unfold ml at h
 split at h
 · cases h
 · exact Fz h
theorem zR {kind:Nat} {al:List (List Nat)} {s:Tx} {l:List Nat} (c:∀ l∈al,l.length≤64) (h:gj kind al s= .ok l):l.length≤64:=by
 unfold gj at h
 split at h
 · exact Fz h
 · split at h
   · cases h
   · split at h
     · cases h
     · cases h
       rename_i n _ _
       rw [cU]
       cases hg:al[n - 1]? with
       | none=>simp
       | some x=>exact c x<|fU hg
theorem U3 {kind ln:Nat} {al:List (List Nat)} {c:dT} {row:List Tx} {q:cJ} (C:∀ l∈al,l.length≤64) (h:jr kind al c ln row= .ok q):q.next.length≤64:=by
 unfold jr at h
 split at h
 · cases h
 · split at h
   · cases h
   · split at h
     · cases h
     · split at h
       · cases h
       · rename_i nx A
         split at h
         · cases h
         · cases h
           unfold nn at A
           split at A
           · split at A
             · cases A
             · exact zR C A
           · cases A; simp
theorem Al {eof ln:Nat} {F F':aC} {hs:List Tx} {rows rows':List Rw} {row:List Tx} (h:Nx F) (c:ca eof F hs rows ln row= .ok (F',rows')):Nx F':=by
 unfold ca at c
 split at c
 · unfold j0 at c
   split at c
   · cases c
   · cases c; exact h
 · split at c
   · unfold kJ at c
     split at c
     · cases c
     · split at c
       · cases c
       · cases c; exact h
   · split at c
     · unfold mD at c
       split at c
       · cases c
       · cases c; exact h
     · split at c
       · unfold mE at c
         split at c
         · cases c
         · cases c; exact h
       · split at c
         · unfold kK at c
           split at c
           · cases c
           · split at c
             · cases c
             · cases c; exact h
         · split at c
           · unfold kN at c
             split at c
             · cases c
             · split at c
               · cases c
               · cases c; exact h
           · split at c
             · unfold kh at c
               split at c
               · cases c
               · split at c
                 · cases c
                 · split at c
                   · cases c
                   · rename_i r E
                     cases c
                     refine ⟨fun l A=> ?_,h.2⟩
                     rcases iW.1 A with A | A
                     · exact h.1 l A
                     · obtain ⟨_,_,h2⟩:=Ai _ _ _ E l A
                       exact KB h2
             · unfold hZ at c
               split at c
               · cases c
               · split at c
                 · cases c
                 · split at c
                   · cases c
                   · split at c
                     · cases c
                     · split at c
                       · cases c
                       · rename_i r E
                         cases c
                         refine ⟨h.1,fun q C=> ?_⟩
                         rcases iW.1 C with C | C
                         · exact h.2 q C
                         · obtain ⟨_,_,h2⟩:=Ai _ _ _ E q C
                           exact U3 h.1 h2
theorem RA {eof ln:Nat} {F F':aC} {hs:List Tx} {rows rows':List Rw} {row:List Tx} (A:row.getD 0 []∉gn) (c:ca eof F hs rows ln row= .ok (F',rows')):F'.sp=F.sp:=by
 unfold ca at c
 rw [if_neg A] at c
 unfold kJ mD mE kK kN kh hZ at c
 repeat' split at c
 all_goals first
  | (cases c; done)
  | (cases c; rfl)
theorem FT {eof ln:Nat} {F F':aC} {seen:List Tx} {rows rows':List Rw} {row:List Tx} (h:jP F seen) (c:ca eof F seen rows ln row= .ok (F',rows')):jP F' (seen++ [row.getD 0 []]):=by
 intro k hk C
 rw [iW,List.mem_singleton] at C
 have G:k∉seen:=fun h=>C<|.inl h
 have I:k≠row.getD 0 []:=fun h=>C<|.inr h
 by_cases A:row.getD 0 []∈gn
 · unfold ca at c
   rw [if_pos A] at c
   unfold j0 at c
   split at c
   · cases c
   · cases c
     show (F.sp.set (gn.idxOf<|row.getD 0 []) _).getD (gn.idxOf k) 0=0
     rw [cU,kt,if_neg,← cU]
     · exact h k hk G
     · intro he
       have E:∀ a∈gn,gn.getD (gn.idxOf a) []=a:=aw
       have h1:=E _ A
       have h2:=E _ hk
       rw [he] at h1
       exact I<|h2.symm.trans h1
 · rw [RA A c]; exact h k hk G
def gD (s:Tx):Option Value:=if s=dF then some (bA #[.int .i64 (4:Nat),.func (.func 134) #[] #[]]) else if s=jd then some (bA #[.int .i64 (4:Nat),.func (.func 134) #[] #[]]) else if s=jb then some (bA #[.int .i64 (2:Nat),.func (.func 133) #[] #[]]) else if s=jG then some (bA #[.int .i64 (2:Nat),.func (.func 132) #[] #[]]) else if s=lZ then some (bA #[.int .i64 (2:Nat),.func (.func 131) #[] #[]]) else if s=lz then some (bA #[.int .i64 (2:Nat),.func (.func 130) #[] #[]]) else if s=kX then some (bA #[.int .i64 (2:Nat),.func (.func 130) #[] #[]]) else if s=kI then some (bA #[.int .i64 (2:Nat),.func (.func 130) #[] #[]]) else if s=km then some (bA #[.int .i64 (2:Nat),.func (.func 130) #[] #[]]) else if s=jV then some (bA #[.int .i64 (2:Nat),.func (.func 130) #[] #[]]) else if s=jH then some (bA #[.int .i64 (2:Nat),.func (.func 129) #[] #[]]) else if s=jn then some (bA #[.int .i64 (2:Nat),.func (.func 128) #[] #[]]) else if s=jc then some (bA #[.int .i64 (2:Nat),.func (.func 127) #[] #[]]) else none
def zF:Value→Option Value:=fun _=>none
def zG:Tx→Option Value:=fun _=>none
theorem str_inj {a b:Tx} :str a=str b↔a=b:=⟨fun h=>by unfold str at h; cases h; rfl,fun h=>by rw [h]⟩
theorem l3 {f:Value→Option Value} {g:Tx→Option Value} {k:Tx} {v:Value} (h:∀ s,f (str s)=g s) (s:Tx):bz f (str k) v (str s)=if s=k then some v else g s:=by
 by_cases hs:s=k
 · subst hs; rw [mB,if_pos rfl]
 · rw [k0 (fun h2=>hs<|str_inj.1 h2),if_neg hs,h s]
theorem RB (w:World):
 bf ao 73 (a7 []) w (fun v w'=> ∃ b,v= .map (some b)∧b=w.heap.size∧(∃ f,bQ w'.heap b iu f∧∀ s,f (str s)=gD s)∧Wk w w'):=by
 refine enter func73 aa ntmps73 aa<|ak fun ag=>ay<|ag<|ak fun ah=>e<|qK fun c A bn aR ai=> ?_
 have aS:bQ A.heap c iu zF:=bQ.nil ai
 have bo:∀ s:Tx,zF (str s)=zG s:=fun _=>rfl
 have al:Wk w A:=aR.md
 refine p (du (ps:= [(0,aj 2),(1,.func (.func 127) #[] #[])]) (L:= [aj 2,.func (.func 127) #[] #[]]) l8 aa<|aa)<|e<|lY lG gO (aS) aa aa aa (⟨_,aa⟩) fun O aJ aY=> ?_
 have a6:bQ O.heap c iu (bz zF (str jc)<|bA #[aj 2,.func (.func 127) #[] #[]]):=aY
 have bp:=l3 (k:=jc) (v:=bA #[aj 2,.func (.func 127) #[] #[]]) bo
 have am:Wk w O:=al.trans' aJ fun k hk h=>by omega
 refine p (du (ps:= [(0,aj 2),(1,.func (.func 128) #[] #[])]) (L:= [aj 2,.func (.func 128) #[] #[]]) l8 aa<|aa)<|e<|lY lG gO (a6) aa aa aa (⟨_,aa⟩) fun ac aO a3=> ?_
 have a9:bQ ac.heap c iu (bz (bz zF (str jc)<|bA #[aj 2,.func (.func 127) #[] #[]]) (str jn)<|bA #[aj 2,.func (.func 128) #[] #[]]):=a3
 have bu:=l3 (k:=jn) (v:=bA #[aj 2,.func (.func 128) #[] #[]]) bp
 have av:Wk w ac:=am.trans' aO fun k hk h=>by omega
 refine p (du (ps:= [(0,aj 2),(1,.func (.func 129) #[] #[])]) (L:= [aj 2,.func (.func 129) #[] #[]]) l8 aa<|aa)<|e<|lY lG gO (a9) aa aa aa (⟨_,aa⟩) fun ad aP a4=> ?_
 have bd:bQ ad.heap c iu (bz (bz (bz zF (str jc)<|bA #[aj 2,.func (.func 127) #[] #[]]) (str jn)<|bA #[aj 2,.func (.func 128) #[] #[]]) (str jH)<|bA #[aj 2,.func (.func 129) #[] #[]]):=a4
 have bv:=l3 (k:=jH) (v:=bA #[aj 2,.func (.func 129) #[] #[]]) bu
 have aw:Wk w ad:=av.trans' aP fun k hk h=>by omega
 refine p (du (ps:= [(0,aj 2),(1,.func (.func 130) #[] #[])]) (L:= [aj 2,.func (.func 130) #[] #[]]) l8 aa<|aa)<|e<|lY lG gO (bd) aa aa aa (⟨_,aa⟩) fun ae aQ a5=> ?_
 have bg:bQ ae.heap c iu (bz (bz (bz (bz zF (str jc)<|bA #[aj 2,.func (.func 127) #[] #[]]) (str jn)<|bA #[aj 2,.func (.func 128) #[] #[]]) (str jH)<|bA #[aj 2,.func (.func 129) #[] #[]]) (str jV)<|bA #[aj 2,.func (.func 130) #[] #[]]):=a5
 have bw:=l3 (k:=jV) (v:=bA #[aj 2,.func (.func 130) #[] #[]]) bv
 have ax:Wk w ae:=aw.trans' aQ fun k hk h=>by omega
 refine p (du (ps:= [(0,aj 2),(1,.func (.func 130) #[] #[])]) (L:= [aj 2,.func (.func 130) #[] #[]]) l8 aa<|aa)<|e<|lY lG gO (bg) aa aa aa (⟨_,aa⟩) fun C aE aT=> ?_
 have bh:bQ C.heap c iu (bz (bz (bz (bz (bz zF (str jc)<|bA #[aj 2,.func (.func 127) #[] #[]]) (str jn)<|bA #[aj 2,.func (.func 128) #[] #[]]) (str jH)<|bA #[aj 2,.func (.func 129) #[] #[]]) (str jV)<|bA #[aj 2,.func (.func 130) #[] #[]]) (str km)<|bA #[aj 2,.func (.func 130) #[] #[]]):=aT
 have bx:=l3 (k:=km) (v:=bA #[aj 2,.func (.func 130) #[] #[]]) bw
 have az:Wk w C:=ax.trans' aE fun k hk h=>by omega
 refine p (du (ps:= [(0,aj 2),(1,.func (.func 130) #[] #[])]) (L:= [aj 2,.func (.func 130) #[] #[]]) l8 aa<|aa)<|e<|lY lG gO (bh) aa aa aa (⟨_,aa⟩) fun E aF aU=> ?_
 have bi:bQ E.heap c iu (bz (bz (bz (bz (bz (bz zF (str jc)<|bA #[aj 2,.func (.func 127) #[] #[]]) (str jn)<|bA #[aj 2,.func (.func 128) #[] #[]]) (str jH)<|bA #[aj 2,.func (.func 129) #[] #[]]) (str jV)<|bA #[aj 2,.func (.func 130) #[] #[]]) (str km)<|bA #[aj 2,.func (.func 130) #[] #[]]) (str kI)<|bA #[aj 2,.func (.func 130) #[] #[]]):=aU
 have bB:=l3 (k:=kI) (v:=bA #[aj 2,.func (.func 130) #[] #[]]) bx
 have aA:Wk w E:=az.trans' aF fun k hk h=>by omega
 refine p (du (ps:= [(0,aj 2),(1,.func (.func 130) #[] #[])]) (L:= [aj 2,.func (.func 130) #[] #[]]) l8 aa<|aa)<|e<|lY lG gO (bi) aa aa aa (⟨_,aa⟩) fun G aG aV=> ?_
 have bj:bQ G.heap c iu (bz (bz (bz (bz (bz (bz (bz zF (str jc)<|bA #[aj 2,.func (.func 127) #[] #[]]) (str jn)<|bA #[aj 2,.func (.func 128) #[] #[]]) (str jH)<|bA #[aj 2,.func (.func 129) #[] #[]]) (str jV)<|bA #[aj 2,.func (.func 130) #[] #[]]) (str km)<|bA #[aj 2,.func (.func 130) #[] #[]]) (str kI)<|bA #[aj 2,.func (.func 130) #[] #[]]) (str kX)<|bA #[aj 2,.func (.func 130) #[] #[]]):=aV
 have bC:=l3 (k:=kX) (v:=bA #[aj 2,.func (.func 130) #[] #[]]) bB
 have aB:Wk w G:=aA.trans' aG fun k hk h=>by omega
 refine p (du (ps:= [(0,aj 2),(1,.func (.func 130) #[] #[])]) (L:= [aj 2,.func (.func 130) #[] #[]]) l8 aa<|aa)<|e<|lY lG gO (bj) aa aa aa (⟨_,aa⟩) fun I aH aW=> ?_
 have bk:bQ I.heap c iu (bz (bz (bz (bz (bz (bz (bz (bz zF (str jc)<|bA #[aj 2,.func (.func 127) #[] #[]]) (str jn)<|bA #[aj 2,.func (.func 128) #[] #[]]) (str jH)<|bA #[aj 2,.func (.func 129) #[] #[]]) (str jV)<|bA #[aj 2,.func (.func 130) #[] #[]]) (str km)<|bA #[aj 2,.func (.func 130) #[] #[]]) (str kI)<|bA #[aj 2,.func (.func 130) #[] #[]]) (str kX)<|bA #[aj 2,.func (.func 130) #[] #[]]) (str lz)<|bA #[aj 2,.func (.func 130) #[] #[]]):=aW
 have bD:=l3 (k:=lz) (v:=bA #[aj 2,.func (.func 130) #[] #[]]) bC
 have aC:Wk w I:=aB.trans' aH fun k hk h=>by omega
 refine p (du (ps:= [(0,aj 2),(1,.func (.func 131) #[] #[])]) (L:= [aj 2,.func (.func 131) #[] #[]]) l8 aa<|aa)<|e<|lY lG gO (bk) aa aa aa (⟨_,aa⟩) fun J aI aX=> ?_
 have bl:bQ J.heap c iu (bz (bz (bz (bz (bz (bz (bz (bz (bz zF (str jc)<|bA #[aj 2,.func (.func 127) #[] #[]]) (str jn)<|bA #[aj 2,.func (.func 128) #[] #[]]) (str jH)<|bA #[aj 2,.func (.func 129) #[] #[]]) (str jV)<|bA #[aj 2,.func (.func 130) #[] #[]]) (str km)<|bA #[aj 2,.func (.func 130) #[] #[]]) (str kI)<|bA #[aj 2,.func (.func 130) #[] #[]]) (str kX)<|bA #[aj 2,.func (.func 130) #[] #[]]) (str lz)<|bA #[aj 2,.func (.func 130) #[] #[]]) (str lZ)<|bA #[aj 2,.func (.func 131) #[] #[]]):=aX
 have bE:=l3 (k:=lZ) (v:=bA #[aj 2,.func (.func 131) #[] #[]]) bD
 have aD:Wk w J:=aC.trans' aI fun k hk h=>by omega
 refine p (du (ps:= [(0,aj 2),(1,.func (.func 132) #[] #[])]) (L:= [aj 2,.func (.func 132) #[] #[]]) l8 aa<|aa)<|e<|lY lG gO (bl) aa aa aa (⟨_,aa⟩) fun V aK aZ=> ?_
 have bm:bQ V.heap c iu (bz (bz (bz (bz (bz (bz (bz (bz (bz (bz zF (str jc)<|bA #[aj 2,.func (.func 127) #[] #[]]) (str jn)<|bA #[aj 2,.func (.func 128) #[] #[]]) (str jH)<|bA #[aj 2,.func (.func 129) #[] #[]]) (str jV)<|bA #[aj 2,.func (.func 130) #[] #[]]) (str km)<|bA #[aj 2,.func (.func 130) #[] #[]]) (str kI)<|bA #[aj 2,.func (.func 130) #[] #[]]) (str kX)<|bA #[aj 2,.func (.func 130) #[] #[]]) (str lz)<|bA #[aj 2,.func (.func 130) #[] #[]]) (str lZ)<|bA #[aj 2,.func (.func 131) #[] #[]]) (str jG)<|bA #[aj 2,.func (.func 132) #[] #[]]):=aZ
 have bq:=l3 (k:=jG) (v:=bA #[aj 2,.func (.func 132) #[] #[]]) bE
 have an:Wk w V:=aD.trans' aK fun k hk h=>by omega
 refine p (du (ps:= [(0,aj 2),(1,.func (.func 133) #[] #[])]) (L:= [aj 2,.func (.func 133) #[] #[]]) l8 aa<|aa)<|e<|lY lG gO (bm) aa aa aa (⟨_,aa⟩) fun Y aL a0=> ?_
 have ba:bQ Y.heap c iu (bz (bz (bz (bz (bz (bz (bz (bz (bz (bz (bz zF (str jc)<|bA #[aj 2,.func (.func 127) #[] #[]]) (str jn)<|bA #[aj 2,.func (.func 128) #[] #[]]) (str jH)<|bA #[aj 2,.func (.func 129) #[] #[]]) (str jV)<|bA #[aj 2,.func (.func 130) #[] #[]]) (str km)<|bA #[aj 2,.func (.func 130) #[] #[]]) (str kI)<|bA #[aj 2,.func (.func 130) #[] #[]]) (str kX)<|bA #[aj 2,.func (.func 130) #[] #[]]) (str lz)<|bA #[aj 2,.func (.func 130) #[] #[]]) (str lZ)<|bA #[aj 2,.func (.func 131) #[] #[]]) (str jG)<|bA #[aj 2,.func (.func 132) #[] #[]]) (str jb)<|bA #[aj 2,.func (.func 133) #[] #[]]):=a0
 have br:=l3 (k:=jb) (v:=bA #[aj 2,.func (.func 133) #[] #[]]) bq
 have ap:Wk w Y:=an.trans' aL fun k hk h=>by omega
 refine p (du (ps:= [(0,aj 4),(1,.func (.func 134) #[] #[])]) (L:= [aj 4,.func (.func 134) #[] #[]]) l8 aa<|aa)<|e<|lY lG gO (ba) aa aa aa (⟨_,aa⟩) fun Z aM a1=> ?_
 have bb:bQ Z.heap c iu (bz (bz (bz (bz (bz (bz (bz (bz (bz (bz (bz (bz zF (str jc)<|bA #[aj 2,.func (.func 127) #[] #[]]) (str jn)<|bA #[aj 2,.func (.func 128) #[] #[]]) (str jH)<|bA #[aj 2,.func (.func 129) #[] #[]]) (str jV)<|bA #[aj 2,.func (.func 130) #[] #[]]) (str km)<|bA #[aj 2,.func (.func 130) #[] #[]]) (str kI)<|bA #[aj 2,.func (.func 130) #[] #[]]) (str kX)<|bA #[aj 2,.func (.func 130) #[] #[]]) (str lz)<|bA #[aj 2,.func (.func 130) #[] #[]]) (str lZ)<|bA #[aj 2,.func (.func 131) #[] #[]]) (str jG)<|bA #[aj 2,.func (.func 132) #[] #[]]) (str jb)<|bA #[aj 2,.func (.func 133) #[] #[]]) (str jd)<|bA #[aj 4,.func (.func 134) #[] #[]]):=a1
 have bs:=l3 (k:=jd) (v:=bA #[aj 4,.func (.func 134) #[] #[]]) br
 have aq:Wk w Z:=ap.trans' aM fun k hk h=>by omega
 refine p (du (ps:= [(0,aj 4),(1,.func (.func 134) #[] #[])]) (L:= [aj 4,.func (.func 134) #[] #[]]) l8 aa<|aa)<|e<|lY lG gO (bb) aa aa aa (⟨_,aa⟩) fun ab aN a2=> ?_
 have bc:bQ ab.heap c iu (bz (bz (bz (bz (bz (bz (bz (bz (bz (bz (bz (bz (bz zF (str jc)<|bA #[aj 2,.func (.func 127) #[] #[]]) (str jn)<|bA #[aj 2,.func (.func 128) #[] #[]]) (str jH)<|bA #[aj 2,.func (.func 129) #[] #[]]) (str jV)<|bA #[aj 2,.func (.func 130) #[] #[]]) (str km)<|bA #[aj 2,.func (.func 130) #[] #[]]) (str kI)<|bA #[aj 2,.func (.func 130) #[] #[]]) (str kX)<|bA #[aj 2,.func (.func 130) #[] #[]]) (str lz)<|bA #[aj 2,.func (.func 130) #[] #[]]) (str lZ)<|bA #[aj 2,.func (.func 131) #[] #[]]) (str jG)<|bA #[aj 2,.func (.func 132) #[] #[]]) (str jb)<|bA #[aj 2,.func (.func 133) #[] #[]]) (str jd)<|bA #[aj 4,.func (.func 134) #[] #[]]) (str dF)<|bA #[aj 4,.func (.func 134) #[] #[]]):=a2
 have bt:=l3 (k:=dF) (v:=bA #[aj 4,.func (.func 134) #[] #[]]) bs
 have au:Wk w ab:=aq.trans' aN fun k hk h=>by omega
 exact p mv<|ay<|ah<|rt<|a8 aa<|⟨c,aa,bn,⟨_,bc,fun s=>bt s⟩,au⟩
theorem Uz (I J:Nat) (w:World):
 CallsD ao 72 (a7 [.pointer (some ⟨I,0,none⟩),.pointer (some ⟨J,0,none⟩)]) .returning w (fun en O w'=> ∃ v,en= .returned v∧O= .returning∧(fun w'=>Wk w w') w'):=by
 refine D1 (v:= .nilIface) func72 aa ntmps72 aa (fun Z cs G=> .inr ⟨by simp [recoverD,G],aa,aa⟩) ?_
 refine p (V9 AM Xw aa)<|p mv<|p (xt aa aa)<|p (xt aa aa)<|e<|al nB fun Y ad ac E c=>e<|dd iP aa aa aa aa (c) (by simp) fun ae C ab=>p aE<|nl<|tn<|sq fun V A=>rg aa<|p mv<|nl<|tn<|A _ _<|cf (aa)<|aR<|f0 aa ?_
 exact E.md.trans' C fun k hk h=>by omega
theorem Uy (c A:Nat) (ln:Nat) (er:Int) (w:World) (h2:∃ v:Value,w.heap[c]? =some (.cells [v].toArray 88 (0,0))) (h3:∃ L:List Value,L.length=3∧w.heap[A]? =some (.cells L.toArray 45 (0,0))) (ac:c≠A):
 CallsD ao 72 (a7 [.pointer (some ⟨c,0,none⟩),.pointer (some ⟨A,0,none⟩)]) (.panicking<|ir 45 ln er) w (fun en av w'=> ∃ v,en= .returned v∧av=(.panicking [{v:= .iface 45 (.agg [.int .i64 1,.int .i64 (ln:Nat),.int .i64 er].toArray),recovered:=true}])∧(fun w'=>w'.heap[c]? =some (.cells [.pointer none].toArray 88 (0,0))∧w'.heap[A]? =some (.cells [.int .i64 1,.int .i64 (ln:Nat),.int .i64 er].toArray 45 (0,0))∧Md (fun k=>k=c∨k=A) w w') w'):=by
 obtain ⟨v2,h2⟩:=h2
 obtain ⟨V,am,h3⟩:=h3
 have aD:=(bT.1 h2).1
 have aF:=(bT.1 h3).1
 refine D1 (v:= .iface 45<|.agg [.int .i64 1,.int .i64 (ln:Nat),.int .i64 er].toArray) func72 aa ntmps72 aa (fun aA cs aq=> .inl<|by simp [recoverD,aq,ir]) ?_
 refine p (V8 AM aa)<|p mv<|p (xt aa aa)<|p (xt aa aa)<|e<|al nB fun ad aG aB J ah=>e<|dd iP aa aa aa aa (ah) (by simp) fun C E ae=> ?_
 have aj:bE C.heap ad [.int .i64 1,.int .i64 (ln:Nat),.int .i64 er]:=ae
 refine p aE<|nl<|tn<|sq fun ay ak=>rg aa<|p mv<|nl<|tn<|ak _ _<|ct (aa) ?_
 have O:(fun w'=>Md (fun k=>k=c∨k=A) C w') C.drew:=(Md.refl _ _).drew
 refine bR (fun w'=>Md (fun k=>k=c∨k=A) C w') aa wide O<|hp 0 aa ag (fun w' an=>cE kD aa (aa) fun j aC=>bE.bu (Md.B an aj fun h=>by omega) j) O<|he 1 aa ag<|bW zr aa aa (v:= .pointer none) aa (E.az (Wk.az J.md h2) fun h=>by omega) (by show 0 < 1; decide) fun aw G ai=> ?_
 have Z:(fun w'=>Md (fun k=>k=c∨k=A) C w') aw:=O.trans' G fun _ _ h=> .inl h
 refine ⟨Z,?_⟩
 refine he 2 aa ag<|fk iP aa aa aa aa (G.az (E.az (Wk.az J.md h3) fun h=>by omega) fun h=>ac h.symm) (by rw [am]; decide) fun ax I Y=> ?_
 have ap:(fun w'=>Md (fun k=>k=c∨k=A) C w') ax:=Z.trans' I fun _ _ h=> .inr h
 refine ⟨ap,?_⟩
 refine hn ag<|f0 aa ?_
 have au:V.take 0 ++ [fL .i64 1,.int .i64 (ln:Nat),.int .i64 er]++V.drop (0 +3)= [fL .i64 1,.int .i64 (ln:Nat),.int .i64 er]:=by rw [lK ab]; rfl
 rw [au] at Y
 exact ⟨I.az ai ac,Y,(((J.md.mono fun _ _ h=>h.elim).trans' E fun k hk h=>by omega).trans' (je G) fun _ _ h=> .inl h).trans' I fun _ _ h=> .inr h⟩
theorem Hg (c A:Nat) (w:World):(invoke (.fn (.func 72) #[aU c,aU A]) #[]).run ao w= .ok (.enter 72 #[aU c,aU A]) w:=by
 have h:=MT #[aU c,aU A] w
 simp [invoke,h]
theorem vV {n:Nat} {D:List Deferred} {G:List Nat} {σ:Nat→Value} {t:Nat} (h:t < n):ev ⟨n,D,G,none⟩ σ (.tmp t)=σ t:=by
 show cond (Nat.blt t n) (σ t) undef=_
 rw [show Nat.blt t n=true from by simpa using h]; rfl
theorem UD {n:Nat} {G:List Nat} {fn:Func} {R:Value→World→Prop} {σ:Nat→Value} {w:World} {c A ln:Nat} {er:Int} (O:fn.results= #[.cell 2 88,.cell 3 45]) (Z:3 < n) (V:σ 2= .pointer (some ⟨c,0,none⟩)) (Y:σ 3= .pointer (some ⟨A,0,none⟩)) (h2:∃ v:Value,w.heap[c]? =some (.cells [v].toArray 88 (0,0))) (h3:∃ L:List Value,L.length=3∧w.heap[A]? =some (.cells L.toArray 45 (0,0))) (J:c≠A)
 (C:∀ w',Md (fun k=>k=c∨k=A) w w'→R (.tuple #[.pointer none,.agg [.int .i64 1,.int .i64 (ln:Nat),.int .i64 er].toArray]) w'):qb ⟨n,[{target:= .fn (.func 72) #[.pointer (some ⟨c,0,none⟩),.pointer (some ⟨A,0,none⟩)],args:= #[]}],G,none⟩ (pD ao fn R) (.panic<|ir 45 ln er) σ w:=by
 refine Qe (Hg c A w) (Uy c A ln er w h2 h3 J) ?_
 rintro w' ⟨E,I,hm⟩
 exact ⟨_,xh O (jq<|gR ((vV ab).trans V) eY<|(aV E).trans aa) (jq<|dZ (cs:= [.int .i64 1,.int .i64 (ln:Nat),.int .i64 er]) ((vV ab).trans Y) kD aa fun j _=>by rw [fN,aV I]; simp),C w' hm⟩
theorem UE {n:Nat} {G:List Nat} {fn:Func} {R:Value→World→Prop} {σ:Nat→Value} {w:World} {c A:Nat} {v:Value} {L:List Value} (O:fn.results= #[.cell 2 88,.cell 3 45]) (Z:3 < n) (V:σ 2= .pointer (some ⟨c,0,none⟩)) (Y:σ 3= .pointer (some ⟨A,0,none⟩)) (h2:w.heap[c]? =some (.cells [v].toArray 88 (0,0))) (h3:w.heap[A]? =some (.cells L.toArray 45 (0,0))) (C:L.length=3)
 (E:∀ w',Wk w w'→R (.tuple #[v,.agg L.toArray]) w'):qb ⟨n,[{target:= .fn (.func 72) #[.pointer (some ⟨c,0,none⟩),.pointer (some ⟨A,0,none⟩)],args:= #[]}],G,none⟩ (pD ao fn R) .ret σ w:=by
 refine Qd (Hg c A w) (Uz c A w) ?_
 intro w' hm
 have I:=Wk.az hm h2
 have J:=Wk.az hm h3
 exact ⟨_,xh O (jq<|gR ((vV ab).trans V) eY<|(aV I).trans aa) (jq<|dZ (cs:=L) ((vV ab).trans Y) kD C fun j _=>by rw [fN,aV J]; simp),E w' hm⟩
end Go.Hb
section
namespace Go.Hb
open Go.Hb.qk
theorem Rj (B:Nat) (H:cw) (F:aC) (rows:List Rw) (ln:Nat) (seen:List Tx) (r:List Tx) (c:Nat) (ar:Option Addr) (cr:Nat) (w:World) (A:St w B H F rows ln seen) (C:Tg w c 9 r.length (.slice ar r.length cr) (r.map str)) (E:∀ x∈r,x.length≤70000) (hw:r.length=width (r.getD 0 [])) (J:jP F seen) (I:width (r.getD 0 [])=2→r.getD 0 []∉seen) (G:F.dB.length+F.aliases.length+F.bB.length+F.rules.length+rows.length < 70000) (hk:r.getD 0 []=jc):eK ao 127 (a7 [.pointer (some ⟨H.rb,0,none⟩),.slice ar r.length cr]) w (iL B H seen (ca H.eof F seen rows ln r) w) (iK B H (ca H.eof F seen rows ln r) w):=by
 have h:=Su B H F rows ln seen r c ar cr w A C (by rw [hw,hk]; decide) E
 rw [show ca H.eof F seen rows ln r=kJ F seen rows ln r from by unfold ca; rw [hk]; rfl]
 exact h
theorem Rs (B:Nat) (H:cw) (F:aC) (rows:List Rw) (ln:Nat) (seen:List Tx) (r:List Tx) (c:Nat) (ar:Option Addr) (cr:Nat) (w:World) (A:St w B H F rows ln seen) (C:Tg w c 9 r.length (.slice ar r.length cr) (r.map str)) (E:∀ x∈r,x.length≤70000) (hw:r.length=width (r.getD 0 [])) (J:jP F seen) (I:width (r.getD 0 [])=2→r.getD 0 []∉seen) (G:F.dB.length+F.aliases.length+F.bB.length+F.rules.length+rows.length < 70000) (hk:r.getD 0 []=jn):eK ao 128 (a7 [.pointer (some ⟨H.rb,0,none⟩),.slice ar r.length cr]) w (iL B H seen (ca H.eof F seen rows ln r) w) (iK B H (ca H.eof F seen rows ln r) w):=by
 have h:=Nh B H F rows ln seen r c ar cr w A C (by rw [hw,hk]; decide) E
 rw [show ca H.eof F seen rows ln r=mD F rows ln r from by unfold ca; rw [hk]; rfl]
 exact h
theorem Ru (B:Nat) (H:cw) (F:aC) (rows:List Rw) (ln:Nat) (seen:List Tx) (r:List Tx) (c:Nat) (ar:Option Addr) (cr:Nat) (w:World) (A:St w B H F rows ln seen) (C:Tg w c 9 r.length (.slice ar r.length cr) (r.map str)) (E:∀ x∈r,x.length≤70000) (hw:r.length=width (r.getD 0 [])) (J:jP F seen) (I:width (r.getD 0 [])=2→r.getD 0 []∉seen) (G:F.dB.length+F.aliases.length+F.bB.length+F.rules.length+rows.length < 70000) (hk:r.getD 0 []=jH):eK ao 129 (a7 [.pointer (some ⟨H.rb,0,none⟩),.slice ar r.length cr]) w (iL B H seen (ca H.eof F seen rows ln r) w) (iK B H (ca H.eof F seen rows ln r) w):=by
 have h:=Wx B H F rows ln seen r c ar cr w A C (by rw [hw,hk]; decide) E
 rw [show ca H.eof F seen rows ln r=mE F rows ln r from by unfold ca; rw [hk]; rfl]
 exact h
theorem Ro (B:Nat) (H:cw) (F:aC) (rows:List Rw) (ln:Nat) (seen:List Tx) (r:List Tx) (c:Nat) (ar:Option Addr) (cr:Nat) (w:World) (A:St w B H F rows ln seen) (C:Tg w c 9 r.length (.slice ar r.length cr) (r.map str)) (G:∀ x∈r,x.length≤70000) (hw:r.length=width (r.getD 0 [])) (I:jP F seen) (E:width (r.getD 0 [])=2→r.getD 0 []∉seen) (J:F.dB.length+F.aliases.length+F.bB.length+F.rules.length+rows.length < 70000) (hk:r.getD 0 []=jV):eK ao 130 (a7 [.pointer (some ⟨H.rb,0,none⟩),.slice ar r.length cr]) w (iL B H seen (ca H.eof F seen rows ln r) w) (iK B H (ca H.eof F seen rows ln r) w):=by
 have h:=uA B H F rows ln seen r c ar cr w A C (by rw [hw,hk]; decide) G (by rw [hk]; decide)<|I _ (by rw [hk]; decide)<|E<|by rw [hk]; decide
 rw [show ca H.eof F seen rows ln r=j0 F rows ln r from by unfold ca; rw [hk]; rfl]
 exact h
theorem Rk (B:Nat) (H:cw) (F:aC) (rows:List Rw) (ln:Nat) (seen:List Tx) (r:List Tx) (c:Nat) (ar:Option Addr) (cr:Nat) (w:World) (A:St w B H F rows ln seen) (C:Tg w c 9 r.length (.slice ar r.length cr) (r.map str)) (G:∀ x∈r,x.length≤70000) (hw:r.length=width (r.getD 0 [])) (I:jP F seen) (E:width (r.getD 0 [])=2→r.getD 0 []∉seen) (J:F.dB.length+F.aliases.length+F.bB.length+F.rules.length+rows.length < 70000) (hk:r.getD 0 []=km):eK ao 130 (a7 [.pointer (some ⟨H.rb,0,none⟩),.slice ar r.length cr]) w (iL B H seen (ca H.eof F seen rows ln r) w) (iK B H (ca H.eof F seen rows ln r) w):=by
 have h:=uA B H F rows ln seen r c ar cr w A C (by rw [hw,hk]; decide) G (by rw [hk]; decide)<|I _ (by rw [hk]; decide)<|E<|by rw [hk]; decide
 rw [show ca H.eof F seen rows ln r=j0 F rows ln r from by unfold ca; rw [hk]; rfl]
 exact h
theorem Rl (B:Nat) (H:cw) (F:aC) (rows:List Rw) (ln:Nat) (seen:List Tx) (r:List Tx) (c:Nat) (ar:Option Addr) (cr:Nat) (w:World) (A:St w B H F rows ln seen) (C:Tg w c 9 r.length (.slice ar r.length cr) (r.map str)) (G:∀ x∈r,x.length≤70000) (hw:r.length=width (r.getD 0 [])) (I:jP F seen) (E:width (r.getD 0 [])=2→r.getD 0 []∉seen) (J:F.dB.length+F.aliases.length+F.bB.length+F.rules.length+rows.length < 70000) (hk:r.getD 0 []=kI):eK ao 130 (a7 [.pointer (some ⟨H.rb,0,none⟩),.slice ar r.length cr]) w (iL B H seen (ca H.eof F seen rows ln r) w) (iK B H (ca H.eof F seen rows ln r) w):=by
 have h:=uA B H F rows ln seen r c ar cr w A C (by rw [hw,hk]; decide) G (by rw [hk]; decide)<|I _ (by rw [hk]; decide)<|E<|by rw [hk]; decide
 rw [show ca H.eof F seen rows ln r=j0 F rows ln r from by unfold ca; rw [hk]; rfl]
 exact h
theorem Ri (B:Nat) (H:cw) (F:aC) (rows:List Rw) (ln:Nat) (seen:List Tx) (r:List Tx) (c:Nat) (ar:Option Addr) (cr:Nat) (w:World) (A:St w B H F rows ln seen) (C:Tg w c 9 r.length (.slice ar r.length cr) (r.map str)) (G:∀ x∈r,x.length≤70000) (hw:r.length=width (r.getD 0 [])) (I:jP F seen) (E:width (r.getD 0 [])=2→r.getD 0 []∉seen) (J:F.dB.length+F.aliases.length+F.bB.length+F.rules.length+rows.length < 70000) (hk:r.getD 0 []=kX):eK ao 130 (a7 [.pointer (some ⟨H.rb,0,none⟩),.slice ar r.length cr]) w (iL B H seen (ca H.eof F seen rows ln r) w) (iK B H (ca H.eof F seen rows ln r) w):=by
 have h:=uA B H F rows ln seen r c ar cr w A C (by rw [hw,hk]; decide) G (by rw [hk]; decide)<|I _ (by rw [hk]; decide)<|E<|by rw [hk]; decide
 rw [show ca H.eof F seen rows ln r=j0 F rows ln r from by unfold ca; rw [hk]; rfl]
 exact h
theorem Rp (B:Nat) (H:cw) (F:aC) (rows:List Rw) (ln:Nat) (seen:List Tx) (r:List Tx) (c:Nat) (ar:Option Addr) (cr:Nat) (w:World) (A:St w B H F rows ln seen) (C:Tg w c 9 r.length (.slice ar r.length cr) (r.map str)) (G:∀ x∈r,x.length≤70000) (hw:r.length=width (r.getD 0 [])) (I:jP F seen) (E:width (r.getD 0 [])=2→r.getD 0 []∉seen) (J:F.dB.length+F.aliases.length+F.bB.length+F.rules.length+rows.length < 70000) (hk:r.getD 0 []=lz):eK ao 130 (a7 [.pointer (some ⟨H.rb,0,none⟩),.slice ar r.length cr]) w (iL B H seen (ca H.eof F seen rows ln r) w) (iK B H (ca H.eof F seen rows ln r) w):=by
 have h:=uA B H F rows ln seen r c ar cr w A C (by rw [hw,hk]; decide) G (by rw [hk]; decide)<|I _ (by rw [hk]; decide)<|E<|by rw [hk]; decide
 rw [show ca H.eof F seen rows ln r=j0 F rows ln r from by unfold ca; rw [hk]; rfl]
 exact h
theorem Rm (B:Nat) (H:cw) (F:aC) (rows:List Rw) (ln:Nat) (seen:List Tx) (r:List Tx) (c:Nat) (ar:Option Addr) (cr:Nat) (w:World) (A:St w B H F rows ln seen) (C:Tg w c 9 r.length (.slice ar r.length cr) (r.map str)) (E:∀ x∈r,x.length≤70000) (hw:r.length=width (r.getD 0 [])) (J:jP F seen) (I:width (r.getD 0 [])=2→r.getD 0 []∉seen) (G:F.dB.length+F.aliases.length+F.bB.length+F.rules.length+rows.length < 70000) (hk:r.getD 0 []=lZ):eK ao 131 (a7 [.pointer (some ⟨H.rb,0,none⟩),.slice ar r.length cr]) w (iL B H seen (ca H.eof F seen rows ln r) w) (iK B H (ca H.eof F seen rows ln r) w):=by
 have h:=Sx B H F rows ln seen r c ar cr w A C (by rw [hw,hk]; decide) E
 rw [show ca H.eof F seen rows ln r=kK F rows ln r from by unfold ca; rw [hk]; rfl]
 exact h
theorem Rr (B:Nat) (H:cw) (F:aC) (rows:List Rw) (ln:Nat) (seen:List Tx) (r:List Tx) (c:Nat) (ar:Option Addr) (cr:Nat) (w:World) (A:St w B H F rows ln seen) (C:Tg w c 9 r.length (.slice ar r.length cr) (r.map str)) (E:∀ x∈r,x.length≤70000) (hw:r.length=width (r.getD 0 [])) (J:jP F seen) (I:width (r.getD 0 [])=2→r.getD 0 []∉seen) (G:F.dB.length+F.aliases.length+F.bB.length+F.rules.length+rows.length < 70000) (hk:r.getD 0 []=jG):eK ao 132 (a7 [.pointer (some ⟨H.rb,0,none⟩),.slice ar r.length cr]) w (iL B H seen (ca H.eof F seen rows ln r) w) (iK B H (ca H.eof F seen rows ln r) w):=by
 have h:=UO B H F rows ln seen r c ar cr w A C (by rw [hw,hk]; decide) E
 rw [show ca H.eof F seen rows ln r=kN H.eof F rows ln r from by unfold ca; rw [hk]; rfl]
 exact h
theorem Rh (B:Nat) (H:cw) (F:aC) (rows:List Rw) (ln:Nat) (seen:List Tx) (r:List Tx) (c:Nat) (ar:Option Addr) (cr:Nat) (w:World) (A:St w B H F rows ln seen) (C:Tg w c 9 r.length (.slice ar r.length cr) (r.map str)) (E:∀ x∈r,x.length≤70000) (hw:r.length=width (r.getD 0 [])) (J:jP F seen) (I:width (r.getD 0 [])=2→r.getD 0 []∉seen) (G:F.dB.length+F.aliases.length+F.bB.length+F.rules.length+rows.length < 70000) (hk:r.getD 0 []=jb):eK ao 133 (a7 [.pointer (some ⟨H.rb,0,none⟩),.slice ar r.length cr]) w (iL B H seen (ca H.eof F seen rows ln r) w) (iK B H (ca H.eof F seen rows ln r) w):=by
 have h:=KD B H F rows ln seen r c ar cr w A C (by rw [hw,hk]; decide) E
 rw [show ca H.eof F seen rows ln r=kh H.eof F seen rows ln r from by unfold ca; rw [hk]; rfl]
 exact h
theorem Rq (B:Nat) (H:cw) (F:aC) (rows:List Rw) (ln:Nat) (seen:List Tx) (r:List Tx) (c:Nat) (ar:Option Addr) (cr:Nat) (w:World) (A:St w B H F rows ln seen) (C:Tg w c 9 r.length (.slice ar r.length cr) (r.map str)) (G:∀ x∈r,x.length≤70000) (hw:r.length=width (r.getD 0 [])) (J:jP F seen) (I:width (r.getD 0 [])=2→r.getD 0 []∉seen) (E:F.dB.length+F.aliases.length+F.bB.length+F.rules.length+rows.length < 70000) (hk:r.getD 0 []=jd):eK ao 134 (a7 [.pointer (some ⟨H.rb,0,none⟩),.slice ar r.length cr]) w (iL B H seen (ca H.eof F seen rows ln r) w) (iK B H (ca H.eof F seen rows ln r) w):=by
 have h:=Ea B H F rows ln seen r c ar cr w A C (by rw [hw,hk]; decide) G E
 rw [show ca H.eof F seen rows ln r=hZ H.eof F rows ln r from by unfold ca; rw [hk]; rfl]
 exact h
theorem Rt (B:Nat) (H:cw) (F:aC) (rows:List Rw) (ln:Nat) (seen:List Tx) (r:List Tx) (c:Nat) (ar:Option Addr) (cr:Nat) (w:World) (A:St w B H F rows ln seen) (C:Tg w c 9 r.length (.slice ar r.length cr) (r.map str)) (G:∀ x∈r,x.length≤70000) (hw:r.length=width (r.getD 0 [])) (J:jP F seen) (I:width (r.getD 0 [])=2→r.getD 0 []∉seen) (E:F.dB.length+F.aliases.length+F.bB.length+F.rules.length+rows.length < 70000) (hk:r.getD 0 []=dF):eK ao 134 (a7 [.pointer (some ⟨H.rb,0,none⟩),.slice ar r.length cr]) w (iL B H seen (ca H.eof F seen rows ln r) w) (iK B H (ca H.eof F seen rows ln r) w):=by
 have h:=Ea B H F rows ln seen r c ar cr w A C (by rw [hw,hk]; decide) G E
 rw [show ca H.eof F seen rows ln r=hZ H.eof F rows ln r from by unfold ca; rw [hk]; rfl]
 exact h
theorem FV (B:Nat) (H:cw) (F:aC) (rows:List Rw) (ln:Nat) (seen:List Tx) (r:List Tx) (A:Nat) (ar:Option Addr) (cr:Nat) (w:World) (C:St w B H F rows ln seen) (E:Tg w A 9 r.length (.slice ar r.length cr) (r.map str)) (J:∀ x∈r,x.length≤70000) (hw:r.length=width (r.getD 0 [])) (O:jP F seen) (I:width (r.getD 0 [])=2→r.getD 0 []∉seen) (G:F.dB.length+F.aliases.length+F.bB.length+F.rules.length+rows.length < 70000) {v:Value} (c:gD (r.getD 0 [])=some v):∃ f:Nat,v= .agg [.int .i64 (width (r.getD 0 []):Nat),.func (.func f) #[] #[]].toArray∧bd ao f∧eK ao f (a7 [.pointer (some ⟨H.rb,0,none⟩),.slice ar r.length cr]) w (iL B H seen (ca H.eof F seen rows ln r) w) (iK B H (ca H.eof F seen rows ln r) w):=by
 unfold gD at c
 by_cases hk:r.getD 0 []=dF
 · rw [if_pos hk] at c; cases c; exact ⟨_,by rw [hk]; rfl,Dl,Rt B H F rows ln seen r A ar cr w C E J hw O I G hk⟩
 · rw [if_neg hk] at c; clear hk
   by_cases hk:r.getD 0 []=jd
   · rw [if_pos hk] at c; cases c; exact ⟨_,by rw [hk]; rfl,Dl,Rq B H F rows ln seen r A ar cr w C E J hw O I G hk⟩
   · rw [if_neg hk] at c; clear hk
     by_cases hk:r.getD 0 []=jb
     · rw [if_pos hk] at c; cases c; exact ⟨_,by rw [hk]; rfl,LM,Rh B H F rows ln seen r A ar cr w C E J hw O I G hk⟩
     · rw [if_neg hk] at c; clear hk
       by_cases hk:r.getD 0 []=jG
       · rw [if_pos hk] at c; cases c; exact ⟨_,by rw [hk]; rfl,LL,Rr B H F rows ln seen r A ar cr w C E J hw O I G hk⟩
       · rw [if_neg hk] at c; clear hk
         by_cases hk:r.getD 0 []=lZ
         · rw [if_pos hk] at c; cases c; exact ⟨_,by rw [hk]; rfl,LK,Rm B H F rows ln seen r A ar cr w C E J hw O I G hk⟩
         · rw [if_neg hk] at c; clear hk
           by_cases hk:r.getD 0 []=lz
           · rw [if_pos hk] at c; cases c; exact ⟨_,by rw [hk]; rfl,tu,Rp B H F rows ln seen r A ar cr w C E J hw O I G hk⟩
           · rw [if_neg hk] at c; clear hk
             by_cases hk:r.getD 0 []=kX
             · rw [if_pos hk] at c; cases c; exact ⟨_,by rw [hk]; rfl,tu,Ri B H F rows ln seen r A ar cr w C E J hw O I G hk⟩
             · rw [if_neg hk] at c; clear hk
               by_cases hk:r.getD 0 []=kI
               · rw [if_pos hk] at c; cases c; exact ⟨_,by rw [hk]; rfl,tu,Rl B H F rows ln seen r A ar cr w C E J hw O I G hk⟩
               · rw [if_neg hk] at c; clear hk
                 by_cases hk:r.getD 0 []=km
                 · rw [if_pos hk] at c; cases c; exact ⟨_,by rw [hk]; rfl,tu,Rk B H F rows ln seen r A ar cr w C E J hw O I G hk⟩
                 · rw [if_neg hk] at c; clear hk
                   by_cases hk:r.getD 0 []=jV
                   · rw [if_pos hk] at c; cases c; exact ⟨_,by rw [hk]; rfl,tu,Ro B H F rows ln seen r A ar cr w C E J hw O I G hk⟩
                   · rw [if_neg hk] at c; clear hk
                     by_cases hk:r.getD 0 []=jH
                     · rw [if_pos hk] at c; cases c; exact ⟨_,by rw [hk]; rfl,LJ,Ru B H F rows ln seen r A ar cr w C E J hw O I G hk⟩
                     · rw [if_neg hk] at c; clear hk
                       by_cases hk:r.getD 0 []=jn
                       · rw [if_pos hk] at c; cases c; exact ⟨_,by rw [hk]; rfl,LI,Rs B H F rows ln seen r A ar cr w C E J hw O I G hk⟩
                       · rw [if_neg hk] at c; clear hk
                         by_cases hk:r.getD 0 []=jc
                         · rw [if_pos hk] at c; cases c; exact ⟨_,by rw [hk]; rfl,LH,Rj B H F rows ln seen r A ar cr w C E J hw O I G hk⟩
                         · rw [if_neg hk] at c; clear hk
                           cases c
theorem FQ {s:Tx} (c:gD s=none):width s=0:=by
 unfold gD at c
 by_cases ab:s=dF
 · rw [if_pos ab] at c; cases c
 · rw [if_neg ab] at c
   by_cases Y:s=jd
   · rw [if_pos Y] at c; cases c
   · rw [if_neg Y] at c
     by_cases A:s=jb
     · rw [if_pos A] at c; cases c
     · rw [if_neg A] at c
       by_cases Z:s=jG
       · rw [if_pos Z] at c; cases c
       · rw [if_neg Z] at c
         by_cases J:s=lZ
         · rw [if_pos J] at c; cases c
         · rw [if_neg J] at c
           by_cases V:s=lz
           · rw [if_pos V] at c; cases c
           · rw [if_neg V] at c
             by_cases C:s=kX
             · rw [if_pos C] at c; cases c
             · rw [if_neg C] at c
               by_cases I:s=kI
               · rw [if_pos I] at c; cases c
               · rw [if_neg I] at c
                 by_cases G:s=km
                 · rw [if_pos G] at c; cases c
                 · rw [if_neg G] at c
                   by_cases O:s=jV
                   · rw [if_pos O] at c; cases c
                   · rw [if_neg O] at c
                     by_cases ac:s=jH
                     · rw [if_pos ac] at c; cases c
                     · rw [if_neg ac] at c
                       by_cases aa:s=jn
                       · rw [if_pos aa] at c; cases c
                       · rw [if_neg aa] at c
                         by_cases E:s=jc
                         · rw [if_pos E] at c; cases c
                         · rw [if_neg E] at c
                           unfold width gn; simp [E,aa,ac,O,G,I,C,V,J,Z,A,Y,ab]
theorem Ak (s:Tx):gD s=none∨∃ (wd f:Nat),gD s=some (bA #[.int .i64 (wd:Nat),.func (.func f) #[] #[]])∧width s=wd∧wd≠0:=by
 by_cases c:s=dF
 · exact .inr ⟨4,134,by unfold gD; rw [if_pos c],by rw [c]; decide,aw⟩
 by_cases A:s=jd
 · exact .inr ⟨4,134,by unfold gD; rw [if_neg c,if_pos A],by rw [A]; decide,aw⟩
 by_cases C:s=jb
 · exact .inr ⟨2,133,by unfold gD; rw [if_neg c,if_neg A,if_pos C],by rw [C]; decide,aw⟩
 by_cases E:s=jG
 · exact .inr ⟨2,132,by unfold gD; rw [if_neg c,if_neg A,if_neg C,if_pos E],by rw [E]; decide,aw⟩
 by_cases G:s=lZ
 · exact .inr ⟨2,131,by unfold gD; rw [if_neg c,if_neg A,if_neg C,if_neg E,if_pos G],by rw [G]; decide,aw⟩
 by_cases I:s=lz
 · exact .inr ⟨2,130,by unfold gD; rw [if_neg c,if_neg A,if_neg C,if_neg E,if_neg G,if_pos I],by rw [I]; decide,aw⟩
 by_cases J:s=kX
 · exact .inr ⟨2,130,by unfold gD; rw [if_neg c,if_neg A,if_neg C,if_neg E,if_neg G,if_neg I,if_pos J],by rw [J]; decide,aw⟩
 by_cases O:s=kI
 · exact .inr ⟨2,130,by unfold gD; rw [if_neg c,if_neg A,if_neg C,if_neg E,if_neg G,if_neg I,if_neg J,if_pos O],by rw [O]; decide,aw⟩
 by_cases V:s=km
 · exact .inr ⟨2,130,by unfold gD; rw [if_neg c,if_neg A,if_neg C,if_neg E,if_neg G,if_neg I,if_neg J,if_neg O,if_pos V],by rw [V]; decide,aw⟩
 by_cases Y:s=jV
 · exact .inr ⟨2,130,by unfold gD; rw [if_neg c,if_neg A,if_neg C,if_neg E,if_neg G,if_neg I,if_neg J,if_neg O,if_neg V,if_pos Y],by rw [Y]; decide,aw⟩
 by_cases Z:s=jH
 · exact .inr ⟨2,129,by unfold gD; rw [if_neg c,if_neg A,if_neg C,if_neg E,if_neg G,if_neg I,if_neg J,if_neg O,if_neg V,if_neg Y,if_pos Z],by rw [Z]; decide,aw⟩
 by_cases aa:s=jn
 · exact .inr ⟨2,128,by unfold gD; rw [if_neg c,if_neg A,if_neg C,if_neg E,if_neg G,if_neg I,if_neg J,if_neg O,if_neg V,if_neg Y,if_neg Z,if_pos aa],by rw [aa]; decide,aw⟩
 by_cases ab:s=jc
 · exact .inr ⟨2,127,by unfold gD; rw [if_neg c,if_neg A,if_neg C,if_neg E,if_neg G,if_neg I,if_neg J,if_neg O,if_neg V,if_neg Y,if_neg Z,if_neg aa,if_pos ab],by rw [ab]; decide,aw⟩
 refine .inl ?_
 unfold gD
 rw [if_neg c,if_neg A,if_neg C,if_neg E,if_neg G,if_neg I,if_neg J,if_neg O,if_neg V,if_neg Y,if_neg Z,if_neg aa,if_neg ab]
end Go.Hb
end
namespace Go.Hb
theorem Q8 {α:Type} {l:List α} {i:Nat} {d:α} (h:i < l.length):l.getD i d∈l:=by
 rw [cU,bX h]; exact List.getElem_mem h
def jo (n:Nat) (c:List (List UInt8)):List (Nat×List UInt8):=(c.zipIdx n).map fun q=>(q.2,q.1)
theorem TG (n:Nat) (l:List UInt8) (c:List (List UInt8)):jo n (l::c)=(n,l)::jo (n+1) c:=by simp [jo,List.zipIdx_cons]
theorem TH (n:Nat):jo n []= []:=rfl
theorem AU (n:Nat) (c:List (List UInt8)):(jo n c).map mQ=c:=by
 unfold jo; rw [List.map_map]; exact List.zipIdx_map_fst n c
theorem GV (n:Nat) (c:List (List UInt8)):(jo n c).length=c.length:=by simp [jo]
def vT (x:Nat×List UInt8):Array Value:= #[.int .i64 x.1,str x.2]
theorem AT {c:List (List UInt8)} {n:Nat} {pre:List (Nat×List UInt8)} {x:Nat×List UInt8} {rest:List (Nat×List UInt8)} (h:jo n c=pre++x::rest):pre.length < c.length∧x.1=n+pre.length∧c=pre.map mQ++x.2::rest.map mQ:=by
 have h1:=congrArg mL h
 rw [GV,bJ,bS] at h1
 have h2:=congrArg (List.map mQ) h
 rw [AU,gV,List.map_cons] at h2
 refine ⟨ab,?_,h2⟩
 have h3:=congrArg (fun l=>l[pre.length]?) h
 simp only [jo,fF,List.getElem?_zipIdx,nK (cj _),Nat.sub_self,yh] at h3
 cases h4:c[pre.length]? with
 | none=>rw [h4] at h3; cases h3
 | some q=>rw [h4] at h3; cases h3; rfl
theorem EE (s:List UInt8) (w:World):
 bf ao 125 (a7 [str s]) w (fun v w'=> ∃ b,v= .func (.func 189) #[] #[aU b]∧w.heap.size≤b∧w'.heap[b]? =some (.cells [str s].toArray 9 (0,0))∧Wk w w'):=by
 exact enter func125 aa ntmps125 aa<|ak fun c=>e<|rJ aa aa fun C J I G E=>ay<|c<|ak fun A=>p AL<|ay<|A<|rt<|a8 aa<|⟨C,aa,ab,E,G.md⟩
theorem PB (s:List UInt8) (b:Nat) (hs:s.length≤65536) (l:Nat) (A:List (Nat×List UInt8)→World→Prop) (w:World) (Y:A [] w) (aK:∀ pre W,A pre W→W.heap[b]? =some (.cells [str s].toArray 9 (0,0))) (bR:∀ pre C O,A pre C→Wk C O→A pre O) (aP:∀ pre x rest C,(jo 1<|dx s)=pre++x::rest→A pre C→YieldAt Fence.wide 0 ao l (vT x) C fun e W'=>e= .returned (.bool true)∧A (pre++ [x]) W'):
 bf ao 189 (a7 [.func (.yield l) #[] #[],aU b]) w (fun v w'=>A (jo 1<|dx s) w'):=by
 have ac:=aK _ _ Y
 refine enter func189 aa ntmps189 aa<|aB fun ae=>ak fun ah=>p (ld cR aa<|(aV ac).trans aa)<|p (dC u9 aa aa)<|p (gt aa aa)<|nl<|ah<|cd aa (fun h=>absurd h ab) fun aS=> ?_
 refine aR<|ae<|ak fun ai=>p (ld cR aa<|(aV ac).trans aa)<|e<|cl Dq (H4 s Gu _ ab aw) aa fun v12 a0 aF=> ?_
 obtain ⟨rfl,ax⟩:=aF
 refine ay<|ai<|ak fun al=>ay<|al<|az<|lp (fun V G J=> ∃ (r:List UInt8) (pre:List (Nat×List UInt8)),(r.length≤s.length)∧((jo 1<|dx s)=pre++jo (pre.length+1) (fC [] r))∧(A pre J)∧(pre.length≤s.length)∧(G 0= .func (.yield l) #[] #[])∧(G 3=str r)∧(G 4=aj (pre.length+1))∧(r.length=V)) _ ⟨xK s,[],(BQ s),aa,(bR _ _ _ Y ax),(Nat.zero_le _),aa,aa,(iv<|by first | rfl | (rw [bJ]; rfl)),aa⟩ ?_
 rintro V G J ⟨r,pre,aX,ad,Z,aT,aM,aN,aO,rfl⟩
 refine fx 0 aM<|fx 3 aN<|fx 4 aO<|aB fun am=>ak fun an=>au (str r)<|p (um aa aa)<|nl<|an<|cd aa (fun E=> ?_) fun E=> ?_
 have I:(jo 1<|dx s)=pre++(pre.length+1,jT (lR 10 r))::jo (pre.length+2) (fC []<|mZ 10 r):=by rw [ad,SS E,TG]
 have aW:=OL (c:=10) E
 have aQ:=OI 10 r
 refine aR<|am<|aB fun ap=>az<|ak fun aq=>au (str r)<|e<|cl L1 (OM r 10 _ ab) aa fun aY a1 aG=> ?_
 obtain ⟨rfl,aA⟩:=aG
 refine p mv<|p (xt aa aa)<|p (xt aa aa)<|p (xt aa aa)<|p aE<|p aE<|p aE<|nl<|aq<|ak fun av=>p mv<|ay<|av<|aB fun ag=> ?_
 refine UU ?_
 refine py aa (aH (.func (.yield l) #[] #[]) aa)<|py aa (aH (aj<|pre.length+1) aa)<|py aa mv<|ey aa<|cl Dp (Wu (lR 10 r) _ ab) aa fun aZ a2 aI=> ?_
 obtain ⟨rfl,aC⟩:=aI
 have aD:=bR _ _ _ Z<|Md.trans aA aC
 refine Xk aa aa (aP pre (pre.length+1,jT (lR 10 r)) _ _ I aD) fun a3 aJ=> ?_
 refine py aa (no aa)<|Tz ?_
 refine ag<|cf (aa)<|aR<|bn<|ap<|rg aa<|au (aj<|pre.length+1)<|p (bK ((pre.length+2:Nat):Int) aa aa<|bl ab ab) ?_
 exact p aE<|nl<|tn<|⟨_,ab,mZ 10 r,pre++ [(pre.length+1,jT (lR 10 r))],ab,(by rw [I,ea,bJ]; rfl),aJ,(by have h1:=AT I; have h2:=qI s; rw [bJ,iG]; omega),aa,aa,(iv<|by first | rfl | (rw [bJ]; rfl)),aa⟩
 refine ext<|bj<|bj<|be<|f0 aa ?_
 show A (jo 1<|dx s) J
 have aL:r= []:=Decidable.of_not_not E
 rw [ad,aL,Gr,TH,eu]
 exact Z
theorem ED (s:List UInt8) (b:Nat) (hs:s.length≤65536):CM ao 189 #[.pointer (some ⟨b,0,none⟩)] vT (jo 1<|dx s) (fun W=>W.heap[b]? =some (.cells [str s].toArray 9 (0,0))):=
 fun l c W A C bR G=>Calls.mono (PB s b hs l c W A C bR G) fun e w' ⟨v,he,E⟩=>⟨⟨v,he⟩,E⟩
theorem HO (s:List UInt8) (w:World) (hs:s.length≤1048576):
 bf ao 71 (a7 [str s]) w (fun v w'=>(∃ a,v= .tuple #[a,.int .i64 (if 65536 < s.length then 10 else 0)]∧(if 65536 < s.length then a= .slice none 0 0 else bq w' w.heap.size 9 1 (a) (dx s).length ((dx s).map str)))∧Wk w w'):=by
 refine qA [] func71 aa ntmps71 aa ?_
 refine cG<|cV<|rg aa<|p aE<|p aE<|nl<|cK<|cG<|cG<|cV<|rg aa<|p (aH (str s) aa)<|p (dC u9 aa aa)<|p (gt aa aa)<|nl<|cK<|cV<|cd aa (fun aM=> ?_) fun aM=> ?_
 refine sq fun aS aF=>rg aa<|p aE<|p aE<|nl<|tn<|aF _ _<|rt<|prt<|EM aa aa aa ?_
 have J:65536 < s.length:=ab
 exact ⟨⟨.slice none 0 0,by show j8 #[.slice none 0 0,.int .i64 10]=_; rw [if_pos J],by rw [if_pos J]⟩,Md.refl _ _⟩
 refine aR<|cK<|cG<|cV<|rg aa<|e<|dY IL fun aq aP aY aI av=>nl<|cK<|cG<|cG<|cV<|rg aa<|p (aH (str s) aa)<|e<|cl Dk (EE s _) aa fun v11 an aJ=> ?_
 obtain ⟨ae,rfl,aW,au,ax⟩:=aJ
 have O:Wk w an:=Md.trans aI.md ax
 have aK:=ax.az av
 have aX:=(bT.1 au).1
 have a3:aq < aP.heap.size:=(bT.1 av).1
 have J:s.length≤65536:=ab
 refine nl<|cK ?_
 apply Hm (vT) (jo 1<|dx s) (fun W=>W.heap[ae]? =some (.cells [str s].toArray 9 (0,0))) (fun pre I=> ∃ v,I.heap[aq]? =some (.cells [v].toArray 35 (0,0))∧bq I an.heap.size 9 1 v pre.length ((pre.map mQ).map str)∧I.heap[ae]? =some (.cells [str s].toArray 9 (0,0))∧an.heap.size≤I.heap.size∧Wk w I) rfl Dv (fun _=>rfl) (ED s ae J) (⟨.slice none 0 0,aK,eh _ _ _ _,au,cj _,O⟩) (fun _ _ ⟨_,_,_,h,_⟩=>h) (fun pre A C F ⟨v,h1,h2,h3,h5,h4⟩ hm ac=>⟨v,xA h1 hm ac,HQ h2 hm ac,xA h3 hm ac,dS h5 hm.size,HR h4 hm O.size ac⟩)
 intro l x I K V
 exact rg aa<|p (cg (str x.2) aa)<|nl<|tn<|V
 intro l pre x rest I aN ah
 obtain ⟨v,ad,G,ak,am,ag⟩:=ah
 obtain ⟨a2,a5,a6⟩:=AT aN
 have a0:=qI s
 have a4:=(bT.1 ak).1
 refine az<|rg aa<|p (ld mS aa<|(aV ad).trans aa)<|p mv<|e<|lk kp aa aa fun aT aO ai E ay=> ?_
 have aB:Wk w aO:=Md.trans ag E.md
 have ai:=E.md.az ad
 refine e<|ap kp (ba G E.md) aa (dS am E.md.size) aa (aG.gl ay) (aa) (aa) ab ab fun v17 a9 al Y a8 aZ=> ?_
 have aC:=Wk.own aB (ba G E.md) Y O.size
 have aL:=Y.az (E.md.az ak) fun h=>by have :=da (ba G E.md) h; omega
 have aj:=Y.az ai fun h=>dQ (ba G E.md) ai aw h
 refine e<|bW Er aa aa (e7 al) aj (by simp) fun aQ Z aA=> ?_
 have aD:Wk w aQ:=Md.trans' aC Z fun k hk h=>by omega
 exact nl<|bn<|⟨(eS.wk E.md).trans ((eS.md Y<|sj<|ba G E.md).trans<|eS.md Z fun k hk=>⟨_,_,_,hk ▸ aj⟩),v17,aA,cD (by rw [gV,gV,bJ]; exact al) Z (fun k hk h=>dQ al aj aw<|h ▸ hk),Z.az aL (fun h=>by omega),dS am (dS E.md.size<|dS Y.size Z.size),aD⟩
 intro D I aU ah V
 obtain ⟨v,ad,G,ak,am,ag⟩:=ah
 have a1:=(bT.1 V).1
 refine cK<|cG<|cV<|rg aa<|p (ld mS aa<|(aV ad).trans aa)<|p aE<|p aE<|nl<|cK<|sn<|EN aa aa aa V ?_
 have J:¬65536 < s.length:=ab
 rw [AU,GV] at G
 exact ⟨⟨v,by show j8 #[v,.int .i64 0]=_; rw [if_neg J],by rw [if_neg J]; exact fj (cD G (l1 _ _ _) fun k hk h=>by obtain ⟨c,e,z,h1⟩:=sj G k hk; rw [h,V] at h1; cases h1) O.size⟩,Md.trans' ag (l1 _ _ _) fun k hk h=>by have :=O.size; omega⟩
set_option maxHeartbeats 1000000 in
theorem Hq (s:List UInt8) (w:World) (hs:s.length≤1048576):
 bf ao 70 (a7 [str s]) w (fun v w'=>(∃ a,v= .tuple #[a,.int .i64 (if 65536 < s.length then 10 else 0)]∧(if 65536 < s.length then a= .slice none 0 0 else ∃ vs,bq w' w.heap.size 181 2 a (eW s).length (l6 vs)∧ik w' w.heap.size 9 vs (eW s)))∧Wk w w'):=by
 refine qA [] func70 aa ntmps70 aa ?_
 refine cG<|cV<|rg aa<|p aE<|p aE<|nl<|cK<|cG<|cG<|cV<|rg aa<|p (aH (str s) aa)<|p (dC u9 aa aa)<|p (gt aa aa)<|nl<|cK<|cV<|cd aa (fun bB=> ?_) fun bB=> ?_
 refine sq fun aQ aj=>rg aa<|p aE<|p aE<|nl<|tn<|aj _ _<|rt<|prt<|EM aa aa aa ?_
 have Y:65536 < s.length:=ab
 exact ⟨⟨.slice none 0 0,by show j8 #[.slice none 0 0,.int .i64 10]=_; rw [if_pos Y],by rw [if_pos Y]⟩,Md.refl _ _⟩
 refine aR<|cK<|cG<|cV<|rg aa<|e<|dY Xo fun aq b3 cf bv aU=>nl<|cK<|cG<|cG<|cV<|rg aa<|p (aH (str s) aa)<|e<|cl Dk (EE s _) aa fun cu ay bw=> ?_
 obtain ⟨aC,rfl,cc,aT,aX⟩:=bw
 have ae:Wk w ay:=Md.trans bv.md aX
 have co:aq < b3.heap.size:=(bT.1 aU).1
 have bz:=aX.az aU
 have ce:=(bT.1 aT).1
 have Y:s.length≤65536:=ab
 refine nl<|cK ?_
 apply Hm (vT) (jo 1<|dx s) (fun W=>W.heap[aC]? =some (.cells [str s].toArray 9 (0,0))) (fun pre J=> ∃ v vs,J.heap[aq]? =some (.cells [v].toArray 156 (0,0))∧bq J ay.heap.size 181 2 v (lE 1<|pre.map mQ).length (l6 vs)∧ik J ay.heap.size 9 vs (lE 1<|pre.map mQ)∧J.heap[aC]? =some (.cells [str s].toArray 9 (0,0))∧ay.heap.size≤J.heap.size∧Wk w J) rfl Dv (fun _=>rfl) (ED s aC Y) (⟨.slice none 0 0,[],bz,eh _ _ _ _,ik.nil _ _ _,aT,cj _,ae⟩) (fun _ _ ⟨_,_,_,_,_,h,_⟩=>h) (fun pre A C F ⟨v,vs,h1,h2,bd,h3,h5,h4⟩ hm ai=>⟨v,vs,xA h1 hm ai,HQ h2 hm ai,bd.md hm (fun k hk cur z=>(ai k hk).2 cur _ z),xA h3 hm ai,dS h5 hm.size,HR h4 hm ae.size ai⟩)
 intro l x J K ag
 exact sq fun aQ aj=>rg aa<|p (cg (.int .i64 x.1) aa)<|nl<|tn<|aj _ _<|rg aa<|p (cg (str x.2) aa)<|nl<|tn<|ag
 intro l pre x rest J bZ aI
 obtain ⟨v,vs,aN,am,av,aM,ax,aF⟩:=aI
 obtain ⟨cn,b0,b1⟩:=AT bZ
 have ck:=qI s
 have cq:=(bT.1 aM).1
 have cs:x.2.length≤s.length:=Gl<|by rw [b1]; simp
 have ci:=zW x.2 []
 have bK:=Hn (pre.map mQ) 1
 rw [e9] at bK
 refine az<|sq fun aQ aj=>rg aa<|p mv<|e<|cl LG (Qg x.2 _ ab) aa fun cv a5 bx=> ?_
 obtain ⟨al,bj⟩:=bx
 obtain ⟨E,au,rfl⟩:=c5 al
 have aZ:=(aY al).2
 have bC:=(aY al).1
 refine p aE<|nl<|tn<|aj _ _ ?_
 refine e8 (fun aB aA=> ∃ (n cp:Nat),(n≤(dM [] x.2).length)∧(n≤cp)∧(oW (dM [] x.2)=(dM [] x.2).take n)∧(Wk a5 aA)∧(aB 4= .pointer (some ⟨aq,0,none⟩))∧(aB 5= .int .i64 x.1)∧(aB 7= .slice E n cp)) ?_ ?_
 refine sq fun a9 aJ=>rg aa<|p mv<|p (bP gU aa aa)<|p mv<|nl<|tn<|aJ _ _<|az<|lp (fun aS ac a8=> ∃ (i:Nat),(i≤(dM [] x.2).length)∧(∀ q,q < i→xf ((dM [] x.2).getD q [])=false)∧(Wk a5 a8)∧(ac 4= .pointer (some ⟨aq,0,none⟩))∧(ac 5= .int .i64 x.1)∧(ac 7= .slice E (dM [] x.2).length au)∧(ac 19= .slice E (dM [] x.2).length au)∧(ac 20= .int .i64 (dM [] x.2).length)∧(ac 21= .int .i64 i)∧((dM [] x.2).length - i=aS)) _ ⟨0,ab,(fun q bI=>by omega),(Md.refl _ _),aa,aa,aa,aa,aa,aa,aa⟩ ?_
 rintro aS ac a8 ⟨i,hi,aP,ah,bV,bX,bY,bR,bS,bU,rfl⟩
 refine fx 4 bV<|fx 5 bX<|fx 7 bY<|fx 19 bR<|fx 20 bS<|fx 21 bU<|sq fun b5 bo=>rg aa<|p (lt aa aa)<|nl<|tn<|bo _ _<|sq fun b6 bp=>cd aa (fun bD=> ?_) fun bD=> ?_
 refine aR<|tn<|bp _ _<|sq fun b7 br=>az<|sq fun b8 bs=>rg aa<|p (aH (.int .i64 i) aa)<|p (bc ec aa aa ab<|aG.ok (aZ.wk ah)<|c8 ab)<|p (ld cR aa<|dE.get (i:=i) (aZ.wk ah) ab)<|p (cg (.int .i64 i) aa)<|p aE<|nl<|tn<|bs _ _<|sq fun b9 bt=>rg aa<|p mv<|p (nj 0 u9 aa aa<|mN.2 (Fg _ _ _<|Q8 ab).1)<|p (cx aa aa)<|nl<|tn<|bt _ _<|cd aa (fun bF=> ?_) fun bF=> ?_
 exact sq fun ca bu=>rg aa<|p (aH (.slice E (dM [] x.2).length au) aa)<|p (aH (.int .i64 i) aa)<|p (aH (.int .i64 i) aa)<|p (NB ec aa aa aa ab)<|p aE<|nl<|tn<|bu _ _<|ext<|nX aw<|te _<|te _<|be<|tn<|⟨i,i,hi,(cj _),(F7 hi aP<|.inr<|decide_eq_true ab),ah,aa,aa,aa⟩
 exact aR<|bn<|tn<|br _ _<|rg aa<|p (ad aa aa<|cz ab)<|p mv<|nl<|tn<|⟨_,ab,i+1,ab,(fun q bI=>by rcases jk q i with h | h <;> first | exact aP q h | (rw [show q=i by omega]; exact decide_eq_false ab)),ah,aa,aa,aa,aa,aa,aa,aa⟩
 exact ext<|te _<|te _<|be<|tn<|⟨(dM [] x.2).length,au,(cj _),bC,(by have h:=F7 hi aP (.inl ab); rwa [show i=(dM [] x.2).length from by omega] at h),ah,aa,aa,aa⟩
 rintro aB aA ⟨n,cp,hn,bH,a1,aD,bN,bO,bQ⟩
 refine fx 4 bN<|fx 5 bO<|fx 7 bQ ?_
 have G:Wk J aA:=Md.trans bj aD
 have aL:=G.az aN
 have a3:=ba am G
 have a4:=av.wk G
 have a0:=G.az aM
 have aW:Wk w aA:=Md.trans aF G
 refine sq fun a9 aJ=>rg aa<|p (aH (.slice E n cp) aa)<|p (bP gU aa aa)<|p (gt aa aa)<|nl<|tn<|aJ _ _<|cd aa (fun bG=> ?_) fun bG=> ?_
 have an:pS x.2 (1 +pre.length)= [(x.1,(dM [] x.2).take n)]:=by unfold pS; rw [a1,if_neg (fun h=>by have h:=congrArg mL h; rw [eE,gJ] at h; omega),← b0]
 refine rg aa<|p (ld rB aa<|(aV aL).trans aa)<|p (aH (.int .i64 x.1) aa)<|p (aH (.slice E n cp) aa)<|p (du (ps:= [(0,.int .i64 x.1),(1,.slice E n cp)]) (L:= [.int .i64 x.1,.slice E n cp]) VM aa<|aa)<|e<|pK HM aa aa aa fun bb a6 aK I bg=> ?_
 have bh:bE a6.heap bb [.int .i64 x.1,.slice E n cp]:=bg
 have bk:Wk w a6:=Md.trans aW I.md
 have Z:=ba a3 I.md
 have aK:=I.md.az aL
 refine e<|ap HM (Z) aa (by have :=I.size; have :=G.size; omega) aa (aG.gl bh) (aa) (aa) ab ab fun b2 cw aO O ct ch=> ?_
 have bl:=Wk.own bk Z O ae.size
 have bA:=O.az (I.md.az a0) fun h=>by have :=da Z h; omega
 have ak:=O.az aK fun h=>dQ Z aK aw h
 have bL:=(a4.wk I.md).md O<|jJ Z aw
 have a2:=cD (ba (ba al aD) I.md) O fun k hk=>oh (ba (ba al aD) I.md) Z aw hk
 refine e<|bW En aa aa (e7 aO) ak (by simp) fun b4 V bi=> ?_
 have bm:Wk w b4:=Md.trans' bl V fun k hk h=>by omega
 have bM:=(bL.md V<|im ak aw).snoc (n:=x.1) (r:=(dM [] x.2).take n) (v:= .slice E n cp)<|by rw [eE,Nat.min_eq_left hn,List.map_take]; exact (Tg.kL<|fj (cD a2 V fun k hk h=>dQ a2 ak aw<|h ▸ hk) ax).clip bH
 exact nl<|bn<|⟨(eS.wk G).trans ((eS.wk I.md).trans<|(eS.md O<|sj Z).trans<|eS.md V fun k hk=>⟨_,_,_,hk ▸ ak⟩),b2,vs++ [(x.1,.slice E n cp)],bi,(by rw [gV,show [x].map mQ= [x.2] from aa,xg,e9,an]; rw [bJ,U9]; exact cD aO V fun k hk h=>dQ aO ak aw<|h ▸ hk),(by rw [gV,show [x].map mQ= [x.2] from aa,xg,e9,an]; exact bM),V.az bA (fun h=>by omega),dS ax (dS G.size<|dS I.md.size<|dS O.size V.size),bm⟩
 have an:pS x.2 (1 +pre.length)= []:=by unfold pS; rw [a1,if_pos (by rw [show n=0 by omega]; rfl)]
 exact aR<|bn<|⟨eS.wk G,v,vs,aL,(by rw [gV,show [x].map mQ= [x.2] from aa,xg,e9,an]; rw [eu]; exact a3),(by rw [gV,show [x].map mQ= [x.2] from aa,xg,e9,an]; rw [eu]; exact a4),a0,dS ax G.size,aW⟩
 intro D J cb aI ag
 obtain ⟨v,vs,aN,am,av,aM,ax,aF⟩:=aI
 have cm:=(bT.1 ag).1
 refine cK<|cG<|cV<|rg aa<|p (ld rB aa<|(aV aN).trans aa)<|p aE<|p aE<|nl<|cK<|sn<|EN aa aa aa ag ?_
 have Y:¬65536 < s.length:=ab
 rw [AU] at am av
 exact ⟨⟨v,by show j8 #[v,.int .i64 0]=_; rw [if_neg Y],by rw [if_neg Y]; exact ⟨vs,fj (cD am (l1 _ _ _) fun k hk h=>by obtain ⟨c,e,z,h1⟩:=sj am k hk; rw [h,ag] at h1; cases h1) ae.size,(av.md (l1 _ _ _) fun k hk cur z=>by rw [hk,ag]; simp).mono ae.size⟩⟩,Md.trans' aF (l1 _ _ _) fun k hk h=>by have :=ae.size; omega⟩
end Go.Hb
section
namespace Go.Hb.gX
open Go.Hb.qk
theorem ua {eof ln:Nat} {F F':aC} {hs:List Tx} {rows rows':List Rw} {row:List Tx} (c:ca eof F hs rows ln row= .ok (F',rows')):rows'.length≤rows.length:=by
 unfold ca at c
 repeat' split at c
 · unfold j0 at c; split at c; cases c; cases c; exact cj _
 · unfold kJ at c; repeat' split at c
   all_goals first | (cases c; done) | (cases c; exact cj _)
 · unfold mD at c; split at c; cases c; cases c; exact cj _
 · unfold mE at c; split at c; cases c; cases c; exact cj _
 · unfold kK at c; repeat' split at c
   all_goals first | (cases c; done) | (cases c; exact cj _)
 · unfold kN at c; repeat' split at c
   all_goals first | (cases c; done) | (cases c; exact (tZ _ _ _<|by assumption).1)
 · unfold kh at c; repeat' split at c
   all_goals first | (cases c; done) | (cases c; exact (tZ _ _ _<|by assumption).1)
 · unfold hZ at c; repeat' split at c
   all_goals first | (cases c; done) | (cases c; exact (tZ _ _ _<|by assumption).1)
theorem Hl {eof k:Nat} {F:aC} {hs:List Tx} :gQ eof k F hs []= .ok F:=by cases k <;> simp [gQ]
section
variable {eof k n:Nat} {F:aC} {hs:List Tx} {r:List Tx} {rest:List Rw} {T:Except (Nat×Nat) aC} (h:gQ eof k F hs ((n,r)::rest)=T) (hk:rest.length+1≤k)
include h hk
theorem UA (c:width (r.getD 0 [])=0):T= .error (n,110):=by
 obtain ⟨m,rfl⟩:∃ m,k=m+1:=⟨k - 1,ab⟩
 rw [← h,gQ,if_pos c]
theorem UB (c:width (r.getD 0 [])≠0) (h1:r.length≠width (r.getD 0 [])):T= .error (n,111):=by
 obtain ⟨m,rfl⟩:∃ m,k=m+1:=⟨k - 1,ab⟩
 rw [← h,gQ,if_neg c,if_pos h1]
theorem Hi (c:width (r.getD 0 [])≠0) (h1:r.length=width (r.getD 0 [])) (h2:width (r.getD 0 [])≠4) (h3:r.getD 0 []∈hs):T= .error (n,112):=by
 obtain ⟨m,rfl⟩:∃ m,k=m+1:=⟨k - 1,ab⟩
 have hw:width (r.getD 0 [])=2:=by
  unfold width at c h2 ⊢
  split
  · rfl
  · rename_i hn
    rw [if_neg hn] at c h2
    split at h2
    · exact absurd aa h2
    · rename_i A; rw [if_neg A] at c; exact absurd rfl c
 rw [← h,gQ,if_neg c,if_neg (fun h4=>h4 h1),if_pos ⟨hw,h3⟩]
theorem Hj {e:Nat×Nat} (c:width (r.getD 0 [])≠0) (h1:r.length=width (r.getD 0 [])) (h2:width (r.getD 0 [])=2→r.getD 0 []∉hs) (h3:ca eof F hs rest n r= .error e):T= .error e:=by
 obtain ⟨m,rfl⟩:∃ m,k=m+1:=⟨k - 1,ab⟩
 rw [← h,gQ,if_neg c,if_neg (fun h4=>h4 h1),if_neg (fun h4=>h2 h4.1 h4.2),h3]
theorem Hk {F':aC} {rows':List Rw} (c:width (r.getD 0 [])≠0) (h1:r.length=width (r.getD 0 [])) (h2:width (r.getD 0 [])=2→r.getD 0 []∉hs) (h3:ca eof F hs rest n r= .ok (F',rows')):gQ eof (k - 1) F' (hs++ [r.getD 0 []]) rows'=T∧rows'.length≤k - 1:=by
 obtain ⟨m,rfl⟩:∃ m,k=m+1:=⟨k - 1,ab⟩
 refine ⟨?_,by have :=ua h3; omega⟩
 rw [← h,gQ,if_neg c,if_neg (fun h4=>h4 h1),if_neg (fun h4=>h2 h4.1 h4.2),h3]; rfl
end
theorem Kw {s:Tx} (h:65536 < s.length):fW s= .error (0,10):=by unfold fW; rw [if_pos h]
theorem ry {s:Tx} {e:Nat×Nat} (h:¬65536 < s.length) (h1:gQ ((dx s).length+1) (eW s).length iN [] (eW s)= .error e):fW s= .error e:=by unfold fW; rw [if_neg h,h1]
theorem Kv {s:Tx} {F:aC} {q:cJ} (h:¬65536 < s.length) (h1:gQ ((dx s).length+1) (eW s).length iN [] (eW s)= .ok F) (h2:F.rules.find? (nW F)=some q):fW s= .error (q.line,118):=by unfold fW; rw [if_neg h,h1]; simp only; rw [h2]
theorem Kx {s:Tx} {F:aC} (h:¬65536 < s.length) (h1:gQ ((dx s).length+1) (eW s).length iN [] (eW s)= .ok F) (h2:F.rules.find? (nW F)=none):fW s= .ok F:=by unfold fW; rw [if_neg h,h1]; simp only; rw [h2]
def pQ (s:Tx):Value:=match gD s with | some (.agg cs)=>cs.getD 1 .nilFunc | _=> .nilFunc
theorem Rx (s:Tx):(gD s).getD (.agg #[.int .i64 0,.nilFunc])= .agg [.int .i64 (width s:Nat),pQ s].toArray∧(gD s).isSome=decide (width s≠0):=by
 rcases Ak s with h | ⟨wd,f,h,hw,c⟩
 · have c:=FQ h
   unfold pQ
   rw [h,c]; exact ⟨rfl,rfl⟩
 · unfold pQ
   rw [h,hw,decide_eq_true c]; exact ⟨rfl,rfl⟩
theorem RE (s:Tx):[fL .i64 (width s:Nat),pQ s].all eQ=true :=by
 rcases Ak s with h | ⟨wd,f,h,hw,c⟩ <;> unfold pQ <;> rw [h] <;> rfl
theorem FP {s:Tx} (h:width s≠0):∃ v,gD s=some v∧∀ (wd:Nat) (f:Nat),v= .agg [.int .i64 (wd:Nat),.func (.func f) #[] #[]].toArray→pQ s= .func (.func f) #[] #[]:=by
 rcases Ak s with h1 | ⟨wd,f,h1,hw,A⟩
 · exact absurd (FQ h1) h
 · refine ⟨_,h1,fun C c he=> ?_⟩
   unfold pQ
   rw [h1,he]; rfl
theorem Hz {f:Value→Option Value} {seen:List Tx} (k:Tx) (c:∀ s:Tx,(f<|str s).getD (.int .i64 0)= .int .i64 (seen.count s:Nat)) (s:Tx):(bz f (str k) (.int .i64 (seen.count k+1:Nat))<|str s).getD (.int .i64 0)= .int .i64 ((seen++ [k]).count s:Nat):=by
 rw [List.count_append]
 by_cases h:s=k
 · subst h; rw [mB]; simp
 · rw [k0 (fun h2=>h<|str_inj.1 h2),c s,List.count_singleton,show (k==s)=false from by simpa using fun h2=>h h2.symm]; rfl
theorem cB.Hy {w w':World} {B:Nat} {H:cw} {F:aC} {R:gu} {rows:List Rw} {ln:Nat} {seen C:List Tx} {f:Value→Option Value} (h:cB w B H F R rows ln seen) (hm:Md (fun k=>k=H.ms) w w') (E:bQ w'.heap H.ms iu f) (hd:∀ s:Tx,(f<|str s).getD (.int .i64 0)= .int .i64 (C.count s:Nat)):cB w' B H F R rows ln C:=by
 obtain ⟨g,I,J⟩:=h.tm
 obtain ⟨f0,G,_⟩:=h.sm
 have c:TF w [1] (fun k=>k=H.ms):=TF.eq (dN G) aw
 exact ⟨hm.gZ c h.cells aw,h.rws.md hm (fun k hk cur z A=>c.no (dD A) aw hk),h.rt.md hm (fun k hk cur z A=>c.no (dD A) aw hk),⟨f,E,hd⟩,⟨g,I.md hm (fun h2=>h.ne.1 h2.symm),J⟩,cX h.on hm c aw,h.lo,h.ne⟩
theorem dp.ms {w w':World} {B:Nat} {H:cw} {F c:aC} {V:ei} {R:gu} {rows:List Rw} {ln:Nat} {seen:List Tx} (h:dp w B H.fb H.mc c V) (A:cB w B H F R rows ln seen) (hm:Md (fun k=>k=H.ms) w w'):dp w' B H.fb H.mc c V:=by
 obtain ⟨g,C,_⟩:=A.sm
 exact h.md (L:= [1]) hm (TF.eq (dN C) aw) aw fun h=>A.ne.2.1 h.symm
theorem eJ.ms {w w':World} {B:Nat} {H:cw} {F:aC} {R:gu} {rows:List Rw} {ln:Nat} {seen:List Tx} (c:cB w B H F R rows ln seen) (hm:Md (fun k=>k=H.ms) w w'):eJ B H w w':=hm.mono fun k _ hk=>⟨hk ▸ c.lo.2.1,.inl hk⟩
structure oG (w0 w:World) (H:cw) (b2 b3 bt:Nat):Prop where
 c2:w.heap[b2]? =some (.cells [.pointer none].toArray 88 (0,0))
 c3:w.heap[b3]? =some (.cells [.int .i64 0,.int .i64 0,.int .i64 0].toArray 45 (0,0))
 lo:w0.heap.size≤b2∧w0.heap.size≤b3∧b2≠b3
 tb:∃ f,bQ w.heap bt iu f∧∀ s,f (str s)=gD s
 ne:bt≠H.ms∧bt≠H.mt∧bt≠H.mc
 wk:Wk w0 w
theorem oG.md {w0 w w':World} {H:cw} {c A C:Nat} (h:oG w0 w H c A C) (hm:Wk w w'):oG w0 w' H c A C:=by
 obtain ⟨f,E,G⟩:=h.tb
 exact ⟨Wk.az hm h.c2,Wk.az hm h.c3,h.lo,⟨f,E.wk hm,G⟩,h.ne,h.wk.trans hm⟩
theorem oG.mw {w0 w w':World} {H:cw} {c A C:Nat} {F:aC} {R:gu} {V:ei} {rows:List Rw} {ln:Nat} {seen:List Tx} (h:oG w0 w H c A C) (I:dp w w0.heap.size H.fb H.mc F V) (E:cB w w0.heap.size H F R rows ln seen) (hm:eJ w0.heap.size H w w'):oG w0 w' H c A C:=by
 obtain ⟨f,G,O⟩:=h.tb
 obtain ⟨f1,J,_⟩:=E.sm
 obtain ⟨f2,Y,_⟩:=E.tm
 obtain ⟨f3,Z,_⟩:=I.cm
 have hn:=fun e (aa:([169,166,191,53,194,136,5]:List Nat).contains (e+2)=false)=>Wr.ne (B:=w0.heap.size) (dN J) (dN Y) (dN Z) aa
 refine ⟨hm.az h.c2 (fun hk=>hn 88 aw _ hk _ _ h.c2),hm.az h.c3 (fun hk=>hn 45 aw _ hk _ _ h.c3),h.lo,⟨f,G.md hm ?_,O⟩,h.ne,hm.wk h.wk<|cj _⟩
 rintro ⟨_,h1 | h1 | h1 | h1⟩
 · exact h.ne.1 h1
 · exact h.ne.2.1 h1
 · exact h.ne.2.2 h1
 · rw [dN G] at h1; exact absurd h1 aw
def Kf (w':World) (B:Nat) (F:aC) (v:Value):Prop := ∃ fb mc V,v= .tuple #[.pointer (some ⟨fb,0,none⟩),.agg [.int .i64 0,.int .i64 0,.int .i64 0].toArray]∧dp w' B fb mc F V∧(∃ seen,ka F [] seen)∧Nx F
def Ke (e:Nat×Nat) (v:Value):Prop :=v= .tuple #[.pointer none,.agg [.int .i64 1,.int .i64 (e.1:Nat),.int .i64 (e.2:Nat)].toArray]
def oK (s:Tx) (w:World) (v:Value) (w':World):Prop :=(match fW s with | .ok F=>Kf w' w.heap.size F v | .error e=>Ke e v)∧Wk w w'
theorem oK.no {s:Tx} {w w':World} {l e:Nat} (h:fW s= .error (l,e)) (hm:Wk w w'):oK s w (.tuple #[.pointer none,.agg [.int .i64 1,.int .i64 (l:Nat),.int .i64 (e:Nat)].toArray]) w':=by
 unfold oK; rw [h]; exact ⟨rfl,hm⟩
theorem qM {n:Nat} {G:List Nat} {fn:Func} {σ:Nat→Value} {s:Tx} {w W:World} {H:cw} {A C E l e:Nat} (J:fn.results= #[.cell 2 88,.cell 3 45]) (I:3 < n) (O:σ 2= .pointer (some ⟨A,0,none⟩)) (V:σ 3= .pointer (some ⟨C,0,none⟩)) (c:oG w W H A C E) (Y:fW s= .error (l,e)):qb ⟨n,[{target:= .fn (.func 72) #[.pointer (some ⟨A,0,none⟩),.pointer (some ⟨C,0,none⟩)],args:= #[]}],G,none⟩ (pD ao fn<|oK s w) (.panic<|ir 45 l (e:Nat)) σ W:=
 UD J I O V ⟨_,c.c2⟩ ⟨_,rfl,c.c3⟩ c.lo.2.2 (fun w' hm=>oK.no Y<|c.wk.trans' hm fun k hk h=>by rcases h with rfl | rfl; have :=c.lo.1; omega; have :=c.lo.2.1; omega)
theorem O1 {x:Nat} (h:x≠0):eA iN x=false :=by
 unfold eA iN dO
 simp [h]
theorem Wk.dr {w:World} :Wk w w.drew:=(Md.refl _ _).drew
theorem Ku (s:Tx) (w:World) (hs:s.length≤1048576):
 bf ao 39 (a7 [str s]) w (oK s w):=by
 refine PR [2,3] func39 aa ntmps39 aa ?_
 refine cG<|cV<|rg aa<|e<|dY Xr fun aO fq eL cs cU=>e<|dY nB fun aP et eO bv c0=> ?_
 have e5:=cs.size
 have e9:=bv.size
 have dd:Wk w et:=cs.md.trans bv.md
 have d6:=Wk.az bv.md cU
 refine nl<|cK<|cG<|cV<|rg aa<|p (aH (str s) aa)<|e<|cl DV (Hq s _ hs) aa fun fi fo dF=> ?_
 obtain ⟨⟨eH,rfl,cy⟩,hE15⟩:=dF
 have ce:=dd.trans hE15
 have cE:=Wk.az hE15 d6
 have cF:=Wk.az hE15 c0
 have e4:=hE15.size
 refine p mv<|p (xt aa aa)<|p (xt aa aa)<|p aE<|p aE<|nl<|cK<|cG<|cG<|cV<|rg aa<|p mv<|p (gF aa aa)<|nl<|cK<|cV<|cd aa (fun bD=> ?_) fun bD=> ?_
 have cv:65536 < s.length:=Classical.byContradiction fun h=>bD<|by rw [if_neg h]
 exact sq fun cL bq=>rg aa<|p mv<|p (du (ps:= [(0,.int .i64 1),(2,.int .i64 (if 65536 < s.length then 10 else 0))]) (L:= [.int .i64 1,.int .i64 0,.int .i64 (if 65536 < s.length then 10 else 0)]) ss aa<|aa)<|e<|bW zr aa aa (v:= .pointer none) aa cE aw fun fy cp c7=>e<|fk iP aa aa aa aa (cp.az cF fun h=>by omega) aw fun fz cq c9=>nl<|tn<|bq _ _<|rt<|prt<|Qc (xh aa (jq<|gR aa aa<|(aV<|cq.az c7 fun h=>by omega).trans aa)<|jq<|dZ aa aa aa fun j eU=>by rw [fN,aV c9,if_pos cv]; simp)<|oK.no (Kw cv)<|(ce.trans' cp fun k hk h=>by omega).trans' cq fun k hk h=>by omega
 have ap:¬65536 < s.length:=fun h=>bD<|by rw [if_pos h]; decide
 rw [if_neg ap] at cy
 obtain ⟨vs,cD,d7⟩:=cy
 obtain ⟨ar,cr,rfl⟩:=c5 cD
 refine aR<|cK<|cG<|cV<|rg aa<|p (aH (str s) aa)<|e<|cl DW (HO s _ hs) aa fun v24 cJ dG=> ?_
 obtain ⟨⟨a24,rfl,cz⟩,hE24⟩:=dG
 rw [if_neg ap] at cz
 obtain ⟨fe,rK,rfl⟩:=c5 cz
 have dc:=ce.trans hE24
 have eV:=qI s
 have e6:=hE24.size
 refine p mv<|p (xt aa aa)<|p (xt aa aa)<|p aE<|p aE<|nl<|cK<|cG<|cV<|rg aa<|e<|qK fun O ft eM ct cY=> ?_
 have e7:=ct.size
 refine p (du (ps:= [(1,.map (some O))]) (L:= [.int .i64 0,.string ⟨⟨[]⟩⟩,.string ⟨⟨[]⟩⟩,.int .u16 0,.int .u16 0,.int .u16 0,.int .u16 0,.int .u16 0,.int .i64 0,.slice none 0 0,.slice none 0 0,.slice none 0 0,.slice none 0 0,.map (some O)]) VK aa<|aa)<|e<|pL aa fun I fu eN bu cZ=> ?_
 have e8:=bu.size
 refine p mv<|p mv<|p (bP gU aa aa)<|p (bK (((dx s).length+1:Nat):Int) aa aa<|bl ab ab)<|e<|qK fun Z fv eQ bh c4=> ?_
 have fb:=bh.size
 refine e<|qK fun ac fw eR a0 c6=> ?_
 have fc:=a0.size
 refine p (du (ps:= [(0,.pointer (some ⟨I,0,none⟩)),(1,.slice ar (eW s).length cr),(3,.int .i64 ((dx s).length+1:Nat)),(4,.map (some Z)),(5,.map (some ac))]) (L:= [.pointer (some ⟨I,0,none⟩),.slice ar (eW s).length cr,.int .i64 0,.int .i64 ((dx s).length+1:Nat),.map (some Z),.map (some ac),.slice none 0 0]) VL aa<|aa)<|e<|pL aa fun A aM eS aT bo=> ?_
 have fd:=aT.size
 have dV:=Wk.az (bh.md.trans<|a0.md.trans aT.md) cZ
 refine p aE<|nl<|cK<|cG<|cV ?_
 have aj:(fun w'=>Md (fun k=>k=I) aM w') aM.drew:=(Md.refl _ _).drew
 refine bR (fun w'=>Md (fun k=>k=I) aM w') aa wide aj<|hp 0 aa ag (fun _ _=>mv) aj<|hp 1 aa ag (fun _ _=>nc aa) aj<|hp 2 aa ag (fun _ _=>fa gx aa) aj<|hp 3 aa ag (fun w' J=>ld eY aa<|Md.aJ J ((aV bo).trans aa) fun h=>by omega) aj<|hp 4 aa ag (fun _ _=>mv) aj<|hp 5 aa ag (fun _ _=>nc aa) aj<|hp 6 aa ag (fun _ _=>fa gx aa) aj<|hp 7 aa ag (fun w' J=>ld eY aa<|Md.aJ J ((aV bo).trans aa) fun h=>by omega) aj<|hp 8 aa ag (fun _ _=>nc aa) aj<|hp 9 aa ag (fun _ _=>fa fZ aa) aj<|hp 10 aa ag (fun _ _=>fa rW aa) aj<|he 11 aa ag<|bW eZ aa aa (v:= .int .i64 (1:Nat)) aa dV (by show 0 +0 +0 < 14; decide) fun ew dv da=> ?_
 have a1:(fun w'=>Md (fun k=>k=I) aM w') ew:=aj.trans' dv fun _ _ h=>h
 refine ⟨a1,?_⟩
 refine hp 12 aa ag (fun _ _=>nc aa) a1<|hp 13 aa ag (fun _ _=>fa fZ aa) a1<|hp 14 aa ag (fun _ _=>fa zX aa) a1<|he 15 aa ag<|bW eZ aa aa (v:= .int .i64 (3:Nat)) aa da (by show _ < 14; decide) fun ex dy db=> ?_
 have bC:(fun w'=>Md (fun k=>k=I) aM w') ex:=a1.trans' dy fun _ _ h=>h
 refine ⟨bC,?_⟩
 refine hn ag<|cK<|cG<|Pg SD #[.pointer (some ⟨aO,0,none⟩),.pointer (some ⟨aP,0,none⟩)] aa aw ?_
 refine cG<|cV<|rg aa<|e<|cl MU (RB _) aa fun v53 an dK=> ?_
 obtain ⟨aF,rfl,eT,ei,cf⟩:=dK
 have de:Wk cJ aM:=ct.md.trans<|bu.md.trans<|bh.md.trans<|a0.md.trans aT.md
 have aS:Md (fun k=>k=I) aM an:=bC.trans' cf fun _ _ h=>h.elim
 have aZ:Wk cJ an:=Md.trans' de aS fun k hk h=>by omega
 have e2:=aS.size
 have df:=dc.trans aZ
 have dS:an.heap[I]? =some (.cells (n3 iN ⟨.slice none 0 0,.slice none 0 0,.slice none 0 0,.slice none 0 0,[],[]⟩ O).toArray 164 (0,0)):=Wk.az cf db
 have dU:an.heap[A]? =some (.cells (uu (⟨A,I,Z,ac,O,(dx s).length+1⟩:cw) ⟨.slice ar (eW s).length cr,vs,.slice none 0 0⟩ 0).toArray 167 (0,0)):=aS.az bo fun h=>by omega
 have d1:bQ an.heap O (jU .u16) (fun _=>none):=bQ.md (bQ.wk (bQ.nil cY)<|bu.md.trans<|bh.md.trans<|a0.md.trans aT.md) aS fun h=>by omega
 have d2:bQ an.heap Z iu (fun _=>none):=bQ.md (bQ.wk (bQ.nil c4)<|a0.md.trans aT.md) aS fun h=>by omega
 have d3:bQ an.heap ac (jU .u16) (fun _=>none):=bQ.md (bQ.wk (bQ.nil c6) aT.md) aS fun h=>by omega
 have dg:dp an w.heap.size I O iN ⟨.slice none 0 0,.slice none 0 0,.slice none 0 0,.slice none 0 0,[],[]⟩:=⟨dS,eh _ _ _ _,eh _ _ _ _,dH.nil _ _ _,eh _ _ _ _,eh _ _ _ _,dH.nil _ _ _,⟨_,d1,fun _=>rfl⟩,⟨ab,ab⟩,rfl⟩
 have dA:cB an w.heap.size (⟨A,I,Z,ac,O,(dx s).length+1⟩:cw) iN ⟨.slice ar (eW s).length cr,vs,.slice none 0 0⟩ (eW s) 0 []:=⟨dU,(((Tg.kL cD).mono ab).wk<|hE24.trans aZ).Wm,(d7.mono ab).wk (hE24.trans aZ),⟨_,d2,fun _=>rfl⟩,⟨_,d3,fun x b5=>by rw [O1 b5]; rfl⟩,eh _ _ _ _,⟨by show w.heap.size≤A; omega,by show w.heap.size≤Z; omega,by show w.heap.size≤ac; omega⟩,⟨by show Z≠ac; omega,by show Z≠O; omega,by show ac≠O; omega⟩⟩
 have e1:=Ho s
 have dP:St an w.heap.size (⟨A,I,Z,ac,O,(dx s).length+1⟩:cw) iN (eW s) 0 []:=⟨_,_,dg,dA,⟨by show 0 +0 +0 +0 +(eW s).length≤70000; omega,by show 0 +(eW s).length≤70000; omega,fun q bY=>by have h:=Hp bY; exact ⟨h.2.2.1,ab,fun x b5=>by have :=(h.2.2.2.2 x b5).2; omega⟩,.inl rfl,fun l a8=>by cases a8⟩⟩
 have eg:jP iN []:=fun k hk _=>by have h:∀ k∈gn,iN.sp.getD (gn.idxOf k) 0=0:=aw
                                  exact h k hk
 have d4:Nx iN:=⟨fun l a8=>(by cases a8),fun l a8=>by cases a8⟩
 have e3:=bC.size
 have d5:oG w an (⟨A,I,Z,ac,O,(dx s).length+1⟩:cw) aO aP aF:=⟨Wk.az (hE24.trans aZ) cE,Wk.az (hE24.trans aZ) cF,⟨ab,ab,ab⟩,ei,⟨by show aF≠Z; omega,by show aF≠ac; omega,by show aF≠O; omega⟩,df⟩
 refine p aE<|nl<|cK<|cG<|cV<|az<|lp (fun cb bd ba=> ∃ (k:Nat) (F:aC) (rows:List Rw) (ln:Nat) (seen:List Tx),(gQ (⟨A,I,Z,ac,O,(dx s).length+1⟩:cw).eof k F seen rows=gQ ((dx s).length+1) (eW s).length iN [] (eW s))∧(rows.length≤k)∧(St ba w.heap.size (⟨A,I,Z,ac,O,(dx s).length+1⟩:cw) F rows ln seen)∧(jP F seen)∧(Nx F)∧(oG w ba (⟨A,I,Z,ac,O,(dx s).length+1⟩:cw) aO aP aF)∧(bd 2= .pointer (some ⟨aO,0,none⟩))∧(bd 3= .pointer (some ⟨aP,0,none⟩))∧(bd 8= .pointer (some ⟨A,0,none⟩))∧(bd 9= .map (some aF))∧(rows.length=cb)) _ ⟨(eW s).length,iN,eW s,0,[],aa,(cj _),dP,eg,d4,d5,aa,aa,aa,aa,aa⟩ ?_
 rintro cb bd ba ⟨k,F,rows,ln,seen,ak,hk,J,bk,bj,bU,d9,ea,eb,ed,rfl⟩
 refine fx 2 d9<|fx 3 ea<|fx 8 eb<|fx 9 ed ?_
 obtain ⟨V,R,Y,ax,aQ⟩:=J
 obtain ⟨vr,vs,vn⟩:=R
 obtain ⟨b9,ca,ek⟩:=ax.rws.slice
 obtain rfl :vr= .slice b9 rows.length ca:=ek
 refine sq fun cL bq=>sq fun ey dk=>rg aa<|p (aH (.pointer<|some ⟨A,0,none⟩) aa)<|p (nc aa)<|p (fa tS aa)<|p (ld rB aa<|(aV ax.cells).trans aa)<|p (bP xG aa aa)<|p (gt aa aa)<|nl<|tn<|dk _ _<|cd aa (fun bE=> ?_) fun bE=> ?_
 obtain ⟨⟨n,r⟩,rest,rfl⟩:∃ q rest,rows=q::rest:=by
  cases rows with
  | nil=>exact absurd bE<|by simp
  | cons q rest=>exact ⟨q,rest,rfl⟩
 have b2:=aQ.row (n,r)<|List.mem_cons_self ..
 have dQ:=aQ.len
 have dR:=aQ.sl
 simp only [bS] at dQ dR hk
 refine aR<|tn<|bq _ _<|az<|sq fun ez dl=>rg aa<|p (aH (.pointer<|some ⟨A,0,none⟩) aa)<|e<|cl DX (HZ w.heap.size (⟨A,I,Z,ac,O,(dx s).length+1⟩:cw) F ⟨.slice b9 (rest.length+1) ca,vs,vn⟩ n r rest ln seen ba ax) aa fun fj eu dL=> ?_
 obtain ⟨⟨R1,dB⟩,hT1,hM1⟩:=dL
 obtain ⟨b8,c1,rfl⟩:=hT1.slice
 have dh:=Y.rb ax hM1
 have cC:=bU.mw Y ax<|eJ.rb ax hM1
 have e0:0 < r.length:=mN.2 b2.1
 have cc:=ka.rT aQ
 have cH:=Rx<|r.getD 0 []
 obtain ⟨eI,d0,cA⟩:=cC.tb
 refine p aE<|nl<|tn<|dl _ _<|sq fun eA dn=>rg aa<|p (aH (.map<|some aF) aa)<|p mv<|p (bc ec aa aa ab<|aG.ok (hT1.dJ.2)<|c8 ab)<|p (ld cR aa<|dE.get (i:=0) hT1.dJ.2 ab)<|p (Gp lG Xv gO (d0) aa aa (⟨_,aa⟩) ((congrArg (fun o=>Option.getD o _)<|cA<|r.getD 0 []).trans cH.1)<|(congrArg Option.isSome<|cA<|r.getD 0 []).trans cH.2)<|p mv<|p (xt aa aa)<|p (xt aa aa)<|e<|dY Xp fun cP fl eK dz cS=>e<|fk OS aa aa aa (RE _) cS aw fun b7 dt cT=> ?_
 have bg:Wk eu b7:=dz.md.trans' dt fun k hk h=>by omega
 have bi:b7.heap[cP]? =some (.cells [.int .i64 (width (r.getD 0 []):Nat),pQ (r.getD 0 [])].toArray 174 (0,0)):=cT
 have aB:=dh.wk bg
 have ad:=dB.wk bg
 have aU:=hT1.wk bg
 have aD:=cC.md bg
 refine p aE<|nl<|tn<|dn _ _<|sq fun eB dq=>rg aa<|p (aH (.pointer<|some ⟨A,0,none⟩) aa)<|p mv ?_
 refine eP aa (dj gz (gE A n _ 110 b7 ad.ej aw) aa fun v72 ev dM=> ?_) (fun c w' ah aX Y=>by
  obtain ⟨rfl,ay,rfl⟩:=ah
  exact qM aa aw ((Y 2<|.head _).trans aa) ((Y 3<|.tail _<|.head _).trans aa) aD (ry ap<|UA ak hk<|mI.1<|of_decide_eq_false ay))
 obtain ⟨rfl,am,rfl⟩:=dM
 have am:width (r.getD 0 [])≠0:=of_decide_eq_true am
 refine nl<|tn<|dq _ _<|sq fun eC ds=>rg aa<|p (aH (.pointer<|some ⟨A,0,none⟩) aa)<|p mv<|p (bP gU aa aa)<|p (fa Fo aa)<|p (ld bH aa<|(aV bi).trans aa)<|p (cx aa aa) ?_
 refine eP aa (dj gz (gE A n _ 111 ev ad.ej aw) aa fun v79 aA dO=> ?_) (fun c w' ah aX Y=>by
  obtain ⟨rfl,ay,rfl⟩:=ah
  exact qM aa aw ((Y 2<|.head _).trans aa) ((Y 3<|.tail _<|.head _).trans aa) aD (ry ap<|UB ak hk am fun h=>of_decide_eq_false ay<|by rw [h]))
 obtain ⟨rfl,aq,rfl⟩:=dO
 have aq:r.length=width (r.getD 0 []):=by have :=of_decide_eq_true aq; omega
 refine nl<|tn<|ds _ _<|sq fun eD ci=> ?_
 obtain ⟨fg,ee,ef⟩:=ad.sm
 have C:(fun w'=>Wk aA w') aA.drew:=(Md.refl _ _).drew
 refine bR (fun w'=>Wk aA w') aa wide C<|hp 0 aa ag (fun _ _=>aH (.pointer<|some ⟨A,0,none⟩) aa) C<|hp 1 aa ag (fun _ _=>fa Fo aa) C<|hp 2 aa ag (fun w' J=>ld bH aa<|Wk.aJ J<|(aV bi).trans aa) C<|hp 3 aa ag (fun _ _=>cx aa aa) C<|hp 4 aa ag (fun _ _=>mv) C<|kH (t:=84) aa (fun a6=> ?_) fun a6=> ?_
 refine n9 5 aa ag aa aa aa aa C<|n9 6 aa ag aa aa aa aa C<|n9 7 aa ag aa aa aa aa C<|n9 8 aa ag aa aa aa aa C<|n9 9 aa ag aa aa aa aa C<|n9 10 aa ag aa aa aa aa C<|n9 11 aa ag aa aa aa aa C<|n9 12 aa ag aa aa aa aa C<|n9 13 aa ag aa aa aa aa C<|hp 14 aa ag (fun _ _=>bO aa) C ?_
 refine r7 15 aa ag aa (dj gz (gE A n _ 112 aA.drew (Wk.aJ C ad.ej) aw) aa fun er aN bA=> ?_) (fun c w' ah aX Y=>by
  obtain ⟨rfl,ay,rfl⟩:=ah
  first
   | exact absurd ay aw
   | exact qM rfl aw ((Y 2<|.head _).trans rfl) ((Y 3<|.tail _<|.head _).trans rfl) (aD.md Wk.dr) (ry ap<|Hi ak hk am aq (fun h=>a6<|by rw [h]; rfl)<|mI.1 fun h=>of_decide_eq_false ay<|by rw [qg.2 h]; rfl))
 obtain ⟨rfl,b6,a9⟩:=bA
 have aK:width (r.getD 0 [])=2→r.getD 0 []∉seen:=by
  first
   | exact fun h=>absurd a6 ab
   | exact fun _=>qg.1<|by have :=of_decide_eq_true b6; omega
 have E:Wk aA aN:=by rw [a9]; exact Wk.dr
 obtain ⟨el,bN,bL⟩:=FP am
 obtain ⟨cQ,b4,bF,bI⟩:=FV w.heap.size (⟨A,I,Z,ac,O,(dx s).length+1⟩:cw) F rest n seen r w.heap.size b8 c1 aN ⟨_,_,aB.wk E,ad.wk E,cc⟩ (aU.wk E) b2.2.2 aq bk aK ab bN
 have bM:=bL _ _ b4
 have bB:(fun w'=>Wk aA w') aN:=by rw [a9]; exact C
 refine ⟨bB,?_⟩
 refine hn ag<|tn<|ci _ _<|sq fun cM br=>rg aa<|p (fa Fp aa)<|p (ld CS aa<|(aV<|Wk.az E bi).trans<|congrArg some bM)<|p (aH (.pointer<|some ⟨A,0,none⟩) aa)<|p mv ?_
 refine eP aa (Ix bF aa bI aa fun ep aL bx=> ?_) (fun c w' ah aX Y=>by
  obtain ⟨l,e,ae,rfl,av⟩:=ah
  exact qM aa aw ((Y 2<|.head _).trans aa) ((Y 3<|.tail _<|.head _).trans aa) ((aD.md E).mw (aB.wk E) (ad.wk E) av) (ry ap<|Hj ak hk am aq aK ae))
 obtain ⟨rfl,F',rows',ln',ae,⟨cN,bm,aY,ai,au⟩,av⟩:=bx
 have bX:=(aD.md E).mw (aB.wk E) (ad.wk E) av
 obtain ⟨em,bZ,_⟩:=ad.sm
 obtain ⟨en,b0,_⟩:=ad.tm
 obtain ⟨eo,b1,_⟩:=aB.cm
 have a2:=(aU.wk E).md av<|Wr.ne (dN<|bZ.wk E) (dN<|b0.wk E) (dN<|b1.wk E) aw
 obtain ⟨fs,a4,a5⟩:=ai.sm
 have dT:=sR (a:=r.getD 0 []) (l:=seen)
 have a3:=Hk ak hk am aq aK ae
 refine nl<|tn<|br _ _ ?_
 have G:(fun w'=>Wk aL w') aL.drew:=(Md.refl _ _).drew
 refine eG (fun w'=>Wk aL w') 9 aa wide G<|lq 0 aa ag (fun _ _=>aH (.pointer<|some ⟨A,0,none⟩) aa) G<|lq 1 aa ag (fun _ _=>nc aa) G<|lq 2 aa ag (fun _ _=>fa rY aa) G<|lq 3 aa ag (fun w' J=>ld rC aa<|Wk.aJ J<|(aV ai.cells).trans aa) G<|lq 4 aa ag (fun _ _=>mv) G<|lq 5 aa ag (fun _ _=>bc ec aa aa ab<|aG.ok (aG.wk a2.dJ.2 G)<|c8 ab) G<|lq 6 aa ag (fun w' J=>ld cR aa<|Wk.aJ J<|dE.get (i:=0) a2.dJ.2 ab) G<|lq 7 aa ag (fun w' J=>lB pZ mH gO (bQ.md (a4) J id) aa aa (⟨_,aa⟩)<|a5<|r.getD 0 []) G<|lq 8 aa ag (fun _ _=>bK ((seen.count (r.getD 0 [])+1:Nat):Int) aa aa<|bl ab ab) G<|dw 9 aa ag ag<|qR pZ gO (a4.wk G) aa aa aa (⟨_,aa⟩) fun bb bs bw=> ?_
 have aI:=je bs
 have bz:cB bb w.heap.size (⟨A,I,Z,ac,O,(dx s).length+1⟩:cw) F' bm rows' ln' (seen++ [r.getD 0 []]):=cB.Hy ai aI bw<|Hz _ a5
 have bp:=dp.ms aY ai aI
 have bV:=bX.mw aY ai<|eJ.ms ai aI
 have d8:=ua ae
 have G:St bb w.heap.size (⟨A,I,Z,ac,O,(dx s).length+1⟩:cw) F' rows' ln' (seen++ [r.getD 0 []]):=⟨_,_,bp,bz,⟨au.len,by rw [bJ,iG]; omega,au.row,au.kd,au.al⟩⟩
 have b3:=FT bk ae
 have bT:=Al bj ae
 exact eF ag<|bn<|tn<|⟨_,by simp only [bS]; have :=ua ae; omega,k - 1,F',rows',ln',seen++ [r.getD 0 []],a3.1,a3.2,G,b3,bT,bV,aa,aa,aa,aa,aa⟩
 refine n5 5 aa ag aa aa aa (fun _ _=>aH (.pointer<|some ⟨A,0,none⟩) aa) C<|n5 6 aa ag aa aa aa (fun _ _=>nc aa) C<|n5 7 aa ag aa aa aa (fun _ _=>fa rY aa) C<|n5 8 aa ag aa aa aa (fun w' J=>ld rC aa<|Wk.aJ J<|(aV ad.cells).trans aa) C<|n5 9 aa ag aa aa aa (fun _ _=>mv) C<|n5 10 aa ag aa aa aa (fun _ _=>bc ec aa aa ab<|aG.ok (aG.wk aU.dJ.2 C)<|c8 ab) C<|n5 11 aa ag aa aa aa (fun w' J=>ld cR aa<|Wk.aJ J<|dE.get (i:=0) aU.dJ.2 ab) C<|n5 12 aa ag aa aa aa (fun w' J=>lB pZ mH gO (bQ.md (ee) J id) aa aa (⟨_,aa⟩)<|ef<|r.getD 0 []) C<|n5 13 aa ag aa aa aa (fun _ _=>cx aa aa) C<|hp 14 aa ag (fun _ _=>bG aa) C ?_
 refine r7 15 aa ag aa (dj gz (gE A n _ 112 aA.drew (Wk.aJ C ad.ej) aw) aa fun er aN bA=> ?_) (fun c w' ah aX Y=>by
  obtain ⟨rfl,ay,rfl⟩:=ah
  first
   | exact absurd ay aw
   | exact qM rfl aw ((Y 2<|.head _).trans rfl) ((Y 3<|.tail _<|.head _).trans rfl) (aD.md Wk.dr) (ry ap<|Hi ak hk am aq (fun h=>a6<|by rw [h]; rfl)<|mI.1 fun h=>of_decide_eq_false ay<|by rw [qg.2 h]; rfl))
 obtain ⟨rfl,b6,a9⟩:=bA
 have aK:width (r.getD 0 [])=2→r.getD 0 []∉seen:=by
  first
   | exact fun h=>absurd a6 ab
   | exact fun _=>qg.1<|by have :=of_decide_eq_true b6; omega
 have E:Wk aA aN:=by rw [a9]; exact Wk.dr
 obtain ⟨el,bN,bL⟩:=FP am
 obtain ⟨cQ,b4,bF,bI⟩:=FV w.heap.size (⟨A,I,Z,ac,O,(dx s).length+1⟩:cw) F rest n seen r w.heap.size b8 c1 aN ⟨_,_,aB.wk E,ad.wk E,cc⟩ (aU.wk E) b2.2.2 aq bk aK ab bN
 have bM:=bL _ _ b4
 have bB:(fun w'=>Wk aA w') aN:=by rw [a9]; exact C
 refine ⟨bB,?_⟩
 refine hn ag<|tn<|ci _ _<|sq fun cM br=>rg aa<|p (fa Fp aa)<|p (ld CS aa<|(aV<|Wk.az E bi).trans<|congrArg some bM)<|p (aH (.pointer<|some ⟨A,0,none⟩) aa)<|p mv ?_
 refine eP aa (Ix bF aa bI aa fun ep aL bx=> ?_) (fun c w' ah aX Y=>by
  obtain ⟨l,e,ae,rfl,av⟩:=ah
  exact qM aa aw ((Y 2<|.head _).trans aa) ((Y 3<|.tail _<|.head _).trans aa) ((aD.md E).mw (aB.wk E) (ad.wk E) av) (ry ap<|Hj ak hk am aq aK ae))
 obtain ⟨rfl,F',rows',ln',ae,⟨cN,bm,aY,ai,au⟩,av⟩:=bx
 have bX:=(aD.md E).mw (aB.wk E) (ad.wk E) av
 obtain ⟨em,bZ,_⟩:=ad.sm
 obtain ⟨en,b0,_⟩:=ad.tm
 obtain ⟨eo,b1,_⟩:=aB.cm
 have a2:=(aU.wk E).md av<|Wr.ne (dN<|bZ.wk E) (dN<|b0.wk E) (dN<|b1.wk E) aw
 obtain ⟨fs,a4,a5⟩:=ai.sm
 have dT:=sR (a:=r.getD 0 []) (l:=seen)
 have a3:=Hk ak hk am aq aK ae
 refine nl<|tn<|br _ _ ?_
 have G:(fun w'=>Wk aL w') aL.drew:=(Md.refl _ _).drew
 refine eG (fun w'=>Wk aL w') 9 aa wide G<|lq 0 aa ag (fun _ _=>aH (.pointer<|some ⟨A,0,none⟩) aa) G<|lq 1 aa ag (fun _ _=>nc aa) G<|lq 2 aa ag (fun _ _=>fa rY aa) G<|lq 3 aa ag (fun w' J=>ld rC aa<|Wk.aJ J<|(aV ai.cells).trans aa) G<|lq 4 aa ag (fun _ _=>mv) G<|lq 5 aa ag (fun _ _=>bc ec aa aa ab<|aG.ok (aG.wk a2.dJ.2 G)<|c8 ab) G<|lq 6 aa ag (fun w' J=>ld cR aa<|Wk.aJ J<|dE.get (i:=0) a2.dJ.2 ab) G<|lq 7 aa ag (fun w' J=>lB pZ mH gO (bQ.md (a4) J id) aa aa (⟨_,aa⟩)<|a5<|r.getD 0 []) G<|lq 8 aa ag (fun _ _=>bK ((seen.count (r.getD 0 [])+1:Nat):Int) aa aa<|bl ab ab) G<|dw 9 aa ag ag<|qR pZ gO (a4.wk G) aa aa aa (⟨_,aa⟩) fun bb bs bw=> ?_
 have aI:=je bs
 have bz:cB bb w.heap.size (⟨A,I,Z,ac,O,(dx s).length+1⟩:cw) F' bm rows' ln' (seen++ [r.getD 0 []]):=cB.Hy ai aI bw<|Hz _ a5
 have bp:=dp.ms aY ai aI
 have bV:=bX.mw aY ai<|eJ.ms ai aI
 have d8:=ua ae
 have G:St bb w.heap.size (⟨A,I,Z,ac,O,(dx s).length+1⟩:cw) F' rows' ln' (seen++ [r.getD 0 []]):=⟨_,_,bp,bz,⟨au.len,by rw [bJ,iG]; omega,au.row,au.kd,au.al⟩⟩
 have b3:=FT bk ae
 have bT:=Al bj ae
 exact eF ag<|bn<|tn<|⟨_,by simp only [bS]; have :=ua ae; omega,k - 1,F',rows',ln',seen++ [r.getD 0 []],a3.1,a3.2,G,b3,bT,bV,aa,aa,aa,aa,aa⟩
 obtain rfl :rows= []:=by
  cases rows with
  | nil=>rfl
  | cons q rest=>exact absurd (by simp only [bS]; omega) bE
 rw [Hl] at ak
 refine ext<|te _<|te _<|be<|cK<|cG<|cV<|rg aa<|p (aH (.pointer<|some ⟨A,0,none⟩) aa) ?_
 refine eP aa (dj MV (Nk w.heap.size (⟨A,I,Z,ac,O,(dx s).length+1⟩:cw) F [] ln seen ba ⟨_,_,Y,ax,aQ⟩ bj.2) aa fun fh cI dC=> ?_) (fun c w' ah aX cg=>by
  obtain ⟨q,bY,rfl,bt⟩:=ah
  exact qM aa aw ((cg 2<|.head _).trans aa) ((cg 3<|.tail _<|.head _).trans aa) (bU.mw Y ax bt) (Kv ap ak.symm bY))
 obtain ⟨rfl,dW,⟨cO,eE,ff,ch,dI⟩,bt⟩:=dC
 have aW:=bU.mw Y ax bt
 have eX:=aW.lo
 refine nl<|cK<|cG<|cV<|rg aa<|p (aH (.pointer<|some ⟨A,0,none⟩) aa)<|p (nc aa)<|p (fa gx aa)<|p (ld eY aa<|(aV dI.cells).trans aa)<|p (du (ps:= []) (L:= [.int .i64 0,.int .i64 0,.int .i64 0]) ss aa<|aa)<|e<|bW zr aa aa (v:= .pointer<|some ⟨I,0,none⟩) aa aW.c2 aw fun fr ck cW=>e<|fk iP aa aa aa aa (ck.az aW.c3 fun h=>by omega) aw fun es cn cX=> ?_
 have co:Md (fun k=>k=aO∨k=aP) cI es:=(ck.mono fun _ _ h=> .inl h).trans' cn fun _ _ h=> .inr h
 refine nl<|cK<|sn ?_
 have cu:TF cI [90,47] (fun k=>k=aO∨k=aP):=TF.or (TF.eq (dD aW.c2) aw)<|TF.eq (dD aW.c3) aw
 obtain ⟨fm,dX,_⟩:=ch.cm
 have di:=ch.md co cu aw<|cu.no (dN dX) aw
 exact UE aa aw aa aa (cn.az cW fun h=>by omega) cX aa (fun w' hm=>by
  unfold oK
  rw [Kx ap ak.symm dW]
  exact ⟨⟨I,O,cO,aa,di.wk hm,⟨seen,aQ⟩,bj⟩,(aW.wk.trans' co fun k hk h=>by omega).trans hm⟩)
end Go.Hb.gX
end
namespace Go.Hb.gL
def kT (F:aC) (V:ei):List Value:= [.int .i64 (F.kind:Nat),str F.tx,str F.tr,aX (F.sp.getD 0 0),aX (F.sp.getD 1 0),aX (F.sp.getD 2 0),aX (F.sp.getD 3 0),aX (F.sp.getD 4 0),.int .i64 (F.least:Nat),V.v9,V.v10,V.v11,V.v12]
structure oF (w:World) (B:Nat) (F:aC) (V:ei):Prop where
 o9:bq w B 189 2 V.v9 F.dB.length (nq F.dB)
 gP:bq w B 51 1 V.v10 F.aliases.length V.sa
 al:dH w B 95 V.sa F.aliases
 gk:bq w B 192 5 V.v11 F.bB.length (mo F.bB)
 et:bq w B 134 7 V.v12 F.rules.length (gd<|F.rules.zip V.rn)
 nx:dH w B 95 V.rn (F.rules.map (·.next))
theorem vz {w:World} {B e:Nat} {vs:List Value} {E:List (List Nat)} (h:dH w B e vs E):vs.all eQ=true :=by
 rw [kP]
 intro v C
 obtain ⟨i,hi⟩:=q9 C
 have h1:=(eR.1 hi).1
 obtain ⟨u,hu,A⟩:=dH.get h (i:=i)<|by rw [← h.1]; exact h1
 rw [hi] at hu; cases hu
 obtain ⟨a,c,rfl⟩:=A.slice; rfl
theorem U1 {w:World} {B e:Nat} {rs:List cJ} {vs:List Value} {C:List (List Nat)} (h:dH w B e vs C):(gd<|rs.zip vs).all eQ=true :=by
 rw [kP]
 intro v c
 obtain ⟨q,A,c⟩:=List.mem_flatMap.1 c
 have h1:=kP.1 (vz h) q.2 (List.of_mem_zip A).2
 simp only [dG,ew,ym,or_false] at c
 rcases c with rfl | rfl | rfl | rfl | rfl | rfl | rfl <;> first | rfl | exact h1
theorem U2 {rs:List cJ} {vs:List Value} {i:Nat} {v:Value} (hi:i < rs.length) (G:i < vs.length):(gd<|rs.zip vs).set (i*7 +6) v=gd (rs.zip<|vs.set i v):=by
 obtain ⟨r,E⟩:∃ r,rs[i]? =some r:=⟨_,bX hi⟩
 obtain ⟨u,hu⟩:∃ u,vs[i]? =some u:=⟨_,bX G⟩
 have I:(rs.zip vs)[i]? =some (r,u):=jj.2 ⟨E,hu⟩
 have Y:rs.zip (vs.set i v)=(rs.zip vs).set i (r,v):=by
  apply oz
  intro j
  rw [kt]
  by_cases C:i=j
  · subst C
    rw [if_pos rfl,if_pos (eR.1 I).1]
    exact jj.2 ⟨E,by simp [G]⟩
  · rw [if_neg C]
    cases h1:(rs.zip vs)[j]? with
    | none=>
      rw [List.getElem?_eq_none_iff,yj] at h1 ⊢
      rw [vc]; exact h1
    | some q=>
      have h2:=jj.1 h1
      exact jj.2 ⟨h2.1,by rw [kt,if_neg C]; exact h2.2⟩
 have Z:(rs.zip vs).length=min rs.length vs.length:=yj
 have A:(gd<|rs.zip vs).length=(rs.zip vs).length*7:=mu (f:=dG) (m:=7) (fun _=>rfl) _
 rw [Y,show gd ((rs.zip vs).set i (r,v))=(gd<|rs.zip vs).take (i*7)++dG (r,v)++(gd<|rs.zip vs).drop (i*7 +7) from Ff (f:=dG) (m:=7) (fun _=>rfl) _ ab]
 apply oz
 intro j
 have J:=fun c A=>wa (f:=dG) (m:=7) (fun _=>rfl) (c:=c) I A
 have O:∀ c,c < 7→(gd<|rs.zip vs)[i*7 +c]? =(dG (r,u))[c]? :=fun c h=>J c h
 have V:((gd<|rs.zip vs).take<|i*7).length=i*7:=by rw [eE,A]; omega
 rw [kt]
 by_cases h1:j < i*7
 · rw [if_neg ab,ea,mK ab,List.getElem?_take,if_pos h1]
 · rw [ea,nK ab,V]
   by_cases h2:j < i*7 +7
   · rw [mK (by show _ < 7; omega)]
     obtain ⟨c,rfl⟩:∃ c,j=i*7 +c:=⟨j - i*7,ab⟩
     have h3:c < 7:=ab
     rw [O c h3,show i*7 +c - i*7=c by omega]
     match c,h3 with
     | 0,_=>rw [if_neg ab]; rfl
     | 1,_=>rw [if_neg ab]; rfl
     | 2,_=>rw [if_neg ab]; rfl
     | 3,_=>rw [if_neg ab]; rfl
     | 4,_=>rw [if_neg ab]; rfl
     | 5,_=>rw [if_neg ab]; rfl
     | 6,_=>rw [if_pos rfl,if_pos ab]; rfl
   · rw [if_neg ab,nK (by show 7≤_; omega),show (dG (r,v)).length=7 from rfl,List.getElem?_drop]
     congr 1; omega
theorem k3 {l:List (cJ×Value)} {i:Nat} {q:cJ×Value} (h:l[i]? =some q):gd l≠[]:=fun h2=>by
 have h3:(gd l).length=l.length*7:=mu (f:=dG) (m:=7) (fun _=>rfl) _
 have h4:=(eR.1 h).1
 rw [h2] at h3
 have h5:0=l.length*7:=h3
 omega
theorem yK {F:aC} {V:ei} (G:V.v9.oneCell'=true) (A:V.v10.oneCell'=true) (C:V.v11.oneCell'=true) (E:V.v12.oneCell'=true):(kT F V).all eQ=true :=by
 rw [kP]
 intro v c
 simp only [kT,ew,ym,or_false] at c
 rcases c with rfl | rfl | rfl | rfl | rfl | rfl | rfl | rfl | rfl | rfl | rfl | rfl | rfl <;> first | rfl | assumption
theorem Le {w:World} {B fb mc:Nat} {F:aC} {V:ei} (h:dp w B fb mc F V):(kT F V).all eQ=true :=yK (e7 h.o9) (e7 h.gP) (e7 h.gk)<|e7 h.et
theorem zx {α:Type} {l m:List α} {i:Nat} (h:l.drop i=m.drop i):l[i]? =m[i]? :=by
 have h1:=congrArg (·[0]?) h
 simpa using h1
theorem Bs {α:Type} {l:List α} {i:Nat} {x:α} (h:i < l.length):(l.set i x).take (i+1)=l.take i++ [x]:=by
 rw [List.take_add_one,List.take_set_of_le (cj i)]; simp [h]
theorem set_drop {α:Type} {l m:List α} {i:Nat} {x:α} (h:l.drop i=m.drop i):(l.set i x).drop (i+1)=m.drop (i+1):=by
 rw [List.drop_set_of_lt (Nat.lt_succ_self i),show i.succ=i+1 from rfl]
 simpa [List.drop_drop] using congrArg (List.drop 1) h
theorem C4 {w:World} {B e i:Nat} {vs:List Value} {c:List (List Nat)} {v:Value} (h:dH w B e (vs.take i) (c.take i)) (hi:i < c.length) (C:i < vs.length) (A:Tg w B e (c.getD i []).length v ((c.getD i []).map aX)):dH w B e ((vs.set i v).take<|i+1) (c.take<|i+1):=by
 rw [Bs C,k8 c i [] hi]; exact h.snoc A
theorem NL (a:Option Addr) (n c:Nat) (xs:List Value) (w:World) (Y:aG w.heap a xs) (ai:xs.length=n*2) (ad:a=none→n=0) (h1:xs.all eQ=true) (hn:n≤1048576):
 bf ao 80 (a7 [.slice a n c]) w (fun al w'=>bq w' w.heap.size 189 2 al n xs∧Wk w w'):=by
 refine enter func80 aa ntmps80 aa<|ak fun I=>ay<|I<|aB fun J=>ak fun O=>au (.slice a n c)<|p (pN WC aa aa)<|nl<|O<|cb aa (fun E=> ?_) fun E=> ?_
 have ae:a=none:=by simpa using E
 refine ak fun A=>ay<|A<|rt<|tr<|a8 aa ?_
 have ag:=ad ae
 subst ag
 obtain rfl :=gq (show xs.length=0 by omega)
 exact ⟨eh _ _ _ _,Md.refl _ _⟩
 refine aR<|J<|ak fun A=>e<|pJ xw fun aq az av C V=> ?_
 have G:=V w.heap.size ab
 refine au (.slice a n c)<|e<|ap xw (G) aa (by have :=C.size; omega) aa (Y.wk C.md) (ai) (h1) ab ab fun am an ah ac ax aw=> ?_
 have Z:=Wk.own C.md G ac<|cj _
 refine ay<|A<|rt<|a8 aa ?_
 have aj:bq an w.heap.size 189 2 am n xs:=by simpa using ah
 exact ⟨aj,Z⟩
theorem NK (v:Value) (n:Nat) (xs:List Value) (w:World) (E:Rd w.heap v n 2 xs) (h1:xs.all eQ=true) (hn:n≤1048576):bf ao 80 [v].toArray w (fun v w'=>bq w' w.heap.size 189 2 v n xs∧Wk w w'):=by
 obtain ⟨a,c,rfl,A,G,C⟩:=E
 exact NL a n c xs w A G C h1 hn
theorem ND (a:Option Addr) (n c:Nat) (xs:List Value) (w:World) (Y:aG w.heap a xs) (ai:xs.length=n*5) (ad:a=none→n=0) (h1:xs.all eQ=true) (hn:n≤1048576):
 bf ao 81 (a7 [.slice a n c]) w (fun al w'=>bq w' w.heap.size 192 5 al n xs∧Wk w w'):=by
 refine enter func81 aa ntmps81 aa<|ak fun I=>ay<|I<|aB fun J=>ak fun O=>au (.slice a n c)<|p (pN If aa aa)<|nl<|O<|cb aa (fun E=> ?_) fun E=> ?_
 have ae:a=none:=by simpa using E
 refine ak fun A=>ay<|A<|rt<|tr<|a8 aa ?_
 have ag:=ad ae
 subst ag
 obtain rfl :=gq (show xs.length=0 by omega)
 exact ⟨eh _ _ _ _,Md.refl _ _⟩
 refine aR<|J<|ak fun A=>e<|pJ xy fun aq az av C V=> ?_
 have G:=V w.heap.size ab
 refine au (.slice a n c)<|e<|ap xy (G) aa (by have :=C.size; omega) aa (Y.wk C.md) (ai) (h1) ab ab fun am an ah ac ax aw=> ?_
 have Z:=Wk.own C.md G ac<|cj _
 refine ay<|A<|rt<|a8 aa ?_
 have aj:bq an w.heap.size 192 5 am n xs:=by simpa using ah
 exact ⟨aj,Z⟩
theorem NC (v:Value) (n:Nat) (xs:List Value) (w:World) (E:Rd w.heap v n 5 xs) (h1:xs.all eQ=true) (hn:n≤1048576):bf ao 81 [v].toArray w (fun v w'=>bq w' w.heap.size 192 5 v n xs∧Wk w w'):=by
 obtain ⟨a,c,rfl,A,G,C⟩:=E
 exact ND a n c xs w A G C h1 hn
theorem NP (a:Option Addr) (n c:Nat) (xs:List Value) (w:World) (Y:aG w.heap a xs) (ai:xs.length=n*1) (ad:a=none→n=0) (h1:xs.all eQ=true) (hn:n≤1048576):
 bf ao 82 (a7 [.slice a n c]) w (fun al w'=>bq w' w.heap.size 51 1 al n xs∧Wk w w'):=by
 refine enter func82 aa ntmps82 aa<|ak fun I=>ay<|I<|aB fun J=>ak fun O=>au (.slice a n c)<|p (pN xJ aa aa)<|nl<|O<|cb aa (fun E=> ?_) fun E=> ?_
 have ae:a=none:=by simpa using E
 refine ak fun A=>ay<|A<|rt<|tr<|a8 aa ?_
 have ag:=ad ae
 subst ag
 obtain rfl :=gq (show xs.length=0 by omega)
 exact ⟨eh _ _ _ _,Md.refl _ _⟩
 refine aR<|J<|ak fun A=>e<|pJ xx fun aq az av C V=> ?_
 have G:=V w.heap.size ab
 refine au (.slice a n c)<|e<|ap xx (G) aa (by have :=C.size; omega) aa (Y.wk C.md) (ai) (h1) ab ab fun am an ah ac ax aw=> ?_
 have Z:=Wk.own C.md G ac<|cj _
 refine ay<|A<|rt<|a8 aa ?_
 have aj:bq an w.heap.size 51 1 am n xs:=by simpa using ah
 exact ⟨aj,Z⟩
theorem NO (v:Value) (n:Nat) (xs:List Value) (w:World) (E:Rd w.heap v n 1 xs) (h1:xs.all eQ=true) (hn:n≤1048576):bf ao 82 [v].toArray w (fun v w'=>bq w' w.heap.size 51 1 v n xs∧Wk w w'):=by
 obtain ⟨a,c,rfl,A,G,C⟩:=E
 exact NP a n c xs w A G C h1 hn
theorem NN (a:Option Addr) (n c:Nat) (xs:List Value) (w:World) (Y:aG w.heap a xs) (ai:xs.length=n*7) (ad:a=none→n=0) (h1:xs.all eQ=true) (hn:n≤1048576):
 bf ao 83 (a7 [.slice a n c]) w (fun al w'=>bq w' w.heap.size 134 7 al n xs∧Wk w w'):=by
 refine enter func83 aa ntmps83 aa<|ak fun I=>ay<|I<|aB fun J=>ak fun O=>au (.slice a n c)<|p (pN pY aa aa)<|nl<|O<|cb aa (fun E=> ?_) fun E=> ?_
 have ae:a=none:=by simpa using E
 refine ak fun A=>ay<|A<|rt<|tr<|a8 aa ?_
 have ag:=ad ae
 subst ag
 obtain rfl :=gq (show xs.length=0 by omega)
 exact ⟨eh _ _ _ _,Md.refl _ _⟩
 refine aR<|J<|ak fun A=>e<|pJ xp fun aq az av C V=> ?_
 have G:=V w.heap.size ab
 refine au (.slice a n c)<|e<|ap xp (G) aa (by have :=C.size; omega) aa (Y.wk C.md) (ai) (h1) ab ab fun am an ah ac ax aw=> ?_
 have Z:=Wk.own C.md G ac<|cj _
 refine ay<|A<|rt<|a8 aa ?_
 have aj:bq an w.heap.size 134 7 am n xs:=by simpa using ah
 exact ⟨aj,Z⟩
theorem NM (v:Value) (n:Nat) (xs:List Value) (w:World) (E:Rd w.heap v n 7 xs) (h1:xs.all eQ=true) (hn:n≤1048576):bf ao 83 [v].toArray w (fun v w'=>bq w' w.heap.size 134 7 v n xs∧Wk w w'):=by
 obtain ⟨a,c,rfl,A,G,C⟩:=E
 exact NN a n c xs w A G C h1 hn
theorem NH (a:Option Addr) (n c:Nat) (xs:List Value) (w:World) (Y:aG w.heap a xs) (ai:xs.length=n*2) (ad:a=none→n=0) (h1:xs.all eQ=true) (hn:n≤1048576):
 bf ao 84 (a7 [.slice a n c]) w (fun al w'=>bq w' w.heap.size 53 2 al n xs∧Wk w w'):=by
 refine enter func84 aa ntmps84 aa<|ak fun I=>ay<|I<|aB fun J=>ak fun O=>au (.slice a n c)<|p (pN uE aa aa)<|nl<|O<|cb aa (fun E=> ?_) fun E=> ?_
 have ae:a=none:=by simpa using E
 refine ak fun A=>ay<|A<|rt<|tr<|a8 aa ?_
 have ag:=ad ae
 subst ag
 obtain rfl :=gq (show xs.length=0 by omega)
 exact ⟨eh _ _ _ _,Md.refl _ _⟩
 refine aR<|J<|ak fun A=>e<|pJ xq fun aq az av C V=> ?_
 have G:=V w.heap.size ab
 refine au (.slice a n c)<|e<|ap xq (G) aa (by have :=C.size; omega) aa (Y.wk C.md) (ai) (h1) ab ab fun am an ah ac ax aw=> ?_
 have Z:=Wk.own C.md G ac<|cj _
 refine ay<|A<|rt<|a8 aa ?_
 have aj:bq an w.heap.size 53 2 am n xs:=by simpa using ah
 exact ⟨aj,Z⟩
theorem NG (v:Value) (n:Nat) (xs:List Value) (w:World) (E:Rd w.heap v n 2 xs) (h1:xs.all eQ=true) (hn:n≤1048576):bf ao 84 [v].toArray w (fun v w'=>bq w' w.heap.size 53 2 v n xs∧Wk w w'):=by
 obtain ⟨a,c,rfl,A,G,C⟩:=E
 exact NH a n c xs w A G C h1 hn
theorem NJ (a:Option Addr) (n c:Nat) (xs:List Value) (w:World) (Y:aG w.heap a xs) (ai:xs.length=n*1) (ad:a=none→n=0) (h1:xs.all eQ=true) (hn:n≤1048576):
 bf ao 215 (a7 [.slice a n c]) w (fun al w'=>bq w' w.heap.size 3 1 al n xs∧Wk w w'):=by
 refine enter func215 aa ntmps215 aa<|ak fun I=>ay<|I<|aB fun J=>ak fun O=>au (.slice a n c)<|p (pN o3 aa aa)<|nl<|O<|cb aa (fun E=> ?_) fun E=> ?_
 have ae:a=none:=by simpa using E
 refine ak fun A=>ay<|A<|rt<|tr<|a8 aa ?_
 have ag:=ad ae
 subst ag
 obtain rfl :=gq (show xs.length=0 by omega)
 exact ⟨eh _ _ _ _,Md.refl _ _⟩
 refine aR<|J<|ak fun A=>e<|pJ nu fun aq az av C V=> ?_
 have G:=V w.heap.size ab
 refine au (.slice a n c)<|e<|ap nu (G) aa (by have :=C.size; omega) aa (Y.wk C.md) (ai) (h1) ab ab fun am an ah ac ax aw=> ?_
 have Z:=Wk.own C.md G ac<|cj _
 refine ay<|A<|rt<|a8 aa ?_
 have aj:bq an w.heap.size 3 1 am n xs:=by simpa using ah
 exact ⟨aj,Z⟩
theorem NI (v:Value) (n:Nat) (xs:List Value) (w:World) (E:Rd w.heap v n 1 xs) (h1:xs.all eQ=true) (hn:n≤1048576):bf ao 215 [v].toArray w (fun v w'=>bq w' w.heap.size 3 1 v n xs∧Wk w w'):=by
 obtain ⟨a,c,rfl,A,G,C⟩:=E
 exact NJ a n c xs w A G C h1 hn
theorem th (B fb mc:Nat) (F:aC) (V:ei) (w:World) (aQ:dp w B fb mc F V) (dW:F.dB.length+F.aliases.length+F.bB.length+F.rules.length≤70000) (b0:Nx F):
 bf ao 41 (a7 [aU fb]) w (fun v w'=>(∃ bC,v= .agg (kT F bC).toArray∧oF w' w.heap.size F bC)∧Wk w w'):=by
 refine enter func41 aa ntmps41 aa<|ak fun cu=>e<|dY II fun bi ah dX bm bH=> ?_
 have d3:=bm.size
 have an:=aQ.wk bm.md
 refine nl<|cu<|aB fun cC=>ak fun cF=>au (aU fb)<|p (iZ uG aa aa)<|nl<|cF<|cf (aa)<|aR<|cC<|ak fun cG=>au (aU fb)<|p (nc aa) ?_
 refine p (fa fZ aa)<|p (cE yB aa (aa) (show ∀ j,j < 13→Hb.aJ ah.heap fb (0 +j)=(kT F V)[j]? from fun j a0=>(aV an.cells).trans<|by match j,a0 with | 0,_=>rfl | 1,_=>rfl | 2,_=>rfl | 3,_=>rfl | 4,_=>rfl | 5,_=>rfl | 6,_=>rfl | 7,_=>rfl | 8,_=>rfl | 9,_=>rfl | 10,_=>rfl | 11,_=>rfl | 12,_=>rfl))<|e<|dY II fun ae E d0 bQ cP=> ?_
 have d6:=bQ.size
 refine e<|fk zp aa aa aa (Le an) cP aw fun a8 bO cQ=> ?_
 have bI:Wk ah a8:=bQ.md.trans' bO fun q c h=>by omega
 have d7:=bO.size
 have cZ:=an.wk bI
 have aW:a8.heap[ae]? =some (.cells (kT F ⟨V.v9,V.v10,V.v11,V.v12,V.sa,V.rn⟩).toArray 102 (0,0)):=cQ
 refine nl<|cG<|ak fun cH=>p (fa wh aa)<|p (ld CV aa<|(aV aW).trans aa)<|e<|cl MY (NK V.v9 F.dB.length (nq F.dB) a8 (Rd.kL cZ.o9) (zU (fun _=>rfl) _) ab) aa fun Z co c1=> ?_
 obtain ⟨b3,bk⟩:=c1
 have d2:=bk.size
 have b5:=fj b3 (show E.heap.size≤a8.heap.size by omega)
 refine p (fa wh aa)<|e<|bW Et aa aa (v:=Z) (e7 b3) (bk.az aW) (by show _ < 13; omega) fun a9 bl cR=> ?_
 have bK:Wk ah a9:=(bI.trans bk).trans' bl fun q c h=>by omega
 have d8:=bl.size
 have c0:=an.wk bK
 have b6:=cD b5 bl fun q c h=>by have :=(da b5 c).1; omega
 have bU:a9.heap[ae]? =some (.cells (kT F ⟨Z,V.v10,V.v11,V.v12,V.sa,V.rn⟩).toArray 102 (0,0)):=cR
 refine nl<|cH<|ak fun cI=>p (fa rX aa)<|p (ld vw aa<|(aV bU).trans aa)<|e<|cl MZ (NC V.v11 F.bB.length (mo F.bB) a9 (Rd.kL c0.gk) (zU (fun _=>rfl) _) ab) aa fun v20 ef c2=> ?_
 obtain ⟨b8,aI⟩:=c2
 have d4:=aI.size
 have b9:=fj b8 (show E.heap.size≤a9.heap.size by omega)
 refine p (fa rX aa)<|e<|bW Ev aa aa (v:=v20) (e7 b8) (aI.az bU) (by show _ < 13; omega) fun bb aT cS=> ?_
 have bL:Wk ah bb:=(bK.trans aI).trans' aT fun q c h=>by omega
 have ea:=aT.size
 have bN:=an.wk bL
 have b7:=cD (ba b6 aI) aT fun q c h=>by have :=(da (ba b6 aI) c).1; omega
 have ca:=cD b9 aT fun q c h=>by have :=(da b9 c).1; omega
 have bV:bb.heap[ae]? =some (.cells (kT F ⟨Z,V.v10,v20,V.v12,V.sa,V.rn⟩).toArray 102 (0,0)):=cS
 refine nl<|cI<|ak fun cJ=>p (fa oT aa)<|p (ld qq aa<|(aV bV).trans aa)<|e<|cl M0 (NO V.v10 F.aliases.length V.sa bb (Rd.kL bN.gP) (vz bN.al) ab) aa fun v24 eg c3=> ?_
 obtain ⟨cb,aq⟩:=c3
 have d5:=aq.size
 have cc:=fj cb (show E.heap.size≤bb.heap.size by omega)
 refine p (fa oT aa)<|e<|bW Eu aa aa (v:=v24) (e7 cb) (aq.az bV) (by show _ < 13; omega) fun cq aL cT=> ?_
 have cY:Wk ah cq:=(bL.trans aq).trans' aL fun q c h=>by omega
 have eb:=aL.size
 have dx:=cD (ba b7 aq) aL fun q c h=>by have :=(da (ba b7 aq) c).1; omega
 have dq:=cD (ba ca aq) aL fun q c h=>by have :=(da (ba ca aq) c).1; omega
 have b1:=cD cc aL fun q c h=>by have :=(da cc c).1; omega
 have bY:cq.heap[ae]? =some (.cells (kT F ⟨Z,v24,v20,V.v12,V.sa,V.rn⟩).toArray 102 (0,0)):=cT
 obtain ⟨ai,kU,rfl⟩:=c5 b1
 have dQ:=aQ.al.1
 refine nl<|cJ<|aB fun cK=>ak fun cL=>p (fa oT aa)<|p (ld qq aa<|(aV bY).trans aa)<|p (bP xJ aa aa)<|p mv<|nl<|cL<|az<|lp (fun aF aD G=> ∃ (i:Nat) (sa:List Value),(i≤F.aliases.length)∧(sa.length=F.aliases.length)∧(sa.drop i=V.sa.drop i)∧(dH G E.heap.size 95 (sa.take i)<|F.aliases.take i)∧(bq G E.heap.size 51 1 (.slice ai F.aliases.length kU) F.aliases.length<|sa)∧(bq G E.heap.size 189 2 (Z) F.dB.length<|nq F.dB)∧(bq G E.heap.size 192 5 (v20) F.bB.length<|mo F.bB)∧(G.heap[ae]? =some (.cells (kT F ⟨Z,.slice ai F.aliases.length kU,v20,V.v12,V.sa,V.rn⟩).toArray 102 (0,0)))∧(Wk ah G)∧(E.heap.size≤G.heap.size)∧(aD 2=aU bi)∧(aD 3=aU ae)∧(aD 27= .slice ai F.aliases.length kU)∧(aD 28=aj (F.aliases.length))∧(aD 29=aj i)∧(F.aliases.length - i=aF)) _ ⟨0,V.sa,ab,dQ,aa,(dH.nil _ _ _),b1,dx,dq,bY,cY,(ab),aa,aa,aa,aa,aa,aa⟩ ?_
 rintro aF aD G ⟨i,sa,hi,aN,ck,bt,Y,a5,a3,aM,aP,ec,dE,dL,dF,dI,dK,rfl⟩
 refine fx 2 dE<|fx 3 dL<|fx 27 dF<|fx 28 dI<|fx 29 dK<|ak fun cv=>p (lt aa aa)<|nl<|cv<|aB fun cw=>cd aa (fun aW=> ?_) fun aW=> ?_
 refine aR<|cw<|aB fun bd=>az<|aB fun bg=> ?_
 obtain ⟨ee,dR,br⟩:=dH.get (an.wk aP).al (show i < F.aliases.length by omega)
 obtain ⟨cM,ci,rfl⟩:=br.slice
 refine rg aa<|au (aj i)<|p (bc zE aa aa ab<|aG.ok ((aY Y).2) fun h=>by rw [h] at aN; simp at aN; omega)<|p (ld mj aa<|aG.iY (aY Y).2<|(zx ck).trans dR)<|p (cg (aj i) aa)<|ay<|bg ?_
 have ap:(fun w'=>Wk G w') G.drew:=(Md.refl _ _).drew
 refine eG (fun w'=>Wk G w') 6 aa wide ap<|lq 0 aa ag (fun _ _=>fa oT aa) ap<|lq 1 aa ag (fun w' aA=>ld qq aa<|Wk.aJ aA<|(aV aM).trans aa) ap<|lq 2 aa ag (fun _ _=>aH (aj i) aa) ap<|lq 3 aa ag (fun _ _=>mv) ap<|iV 4 aa ag<|cl rL (rN cM (F.aliases.getD i []).length ci ((F.aliases.getD i []).map aX) G.drew (aG.wk br.dJ.2 ap) (by simp) (fun h=>Tg.sg br (by simp) h) (rE _)<|by have :=b0.1 _ (e6 (d:= []) (show i < F.aliases.length by omega)); omega) aa fun dT cp c4=> ?_
 obtain ⟨bw,bJ⟩:=c4
 have I:Wk G cp:=ap.trans bJ
 have c8:=I
 have bR:(fun w'=>Wk G w') cp:=ap.trans bJ
 refine ⟨bR,?_⟩
 refine lq 5 aa ag (fun _ _=>bc zE aa aa ab<|aG.ok ((aY Y).2) fun h=>by rw [h] at aN; simp at aN; omega) bR<|dw 6 aa ag ag<|su (j:=i) (ba Y I) rQ aa aa (e7 bw) (by simp) ab fun dU av di=> ?_
 have cV:Wk ah dU:=Wk.own (aP.trans I) (ba Y I) av ab
 have ds:=cD (fj bw (show E.heap.size≤G.heap.size by omega)) av fun q c=>oh bw (ba Y I) aw c
 have db:=(bt.wk I).md av<|jJ (ba Y I) aw
 have du:=cD (ba a5 I) av fun q c=>oh (ba a5 I) (ba Y I) aw c
 have dl:=cD (ba a3 I) av fun q c=>oh (ba a3 I) (ba Y I) aw c
 have df:=av.az (Wk.az I aM) fun h=>by have :=(da (ba Y I) h).1; omega
 exact eF ag<|bn<|bd<|rg aa<|p (ad aa aa<|cz ab)<|p mv<|nl<|tn<|⟨_,ab,i+1,sa.set i dT,ab,(by rw [vc]; exact aN),(set_drop ck),(C4 db ab ab<|Tg.kL ds),di,du,dl,df,cV,(by have :=c8.size; have :=av.size; omega),aa,aa,aa,aa,aa,aa⟩
 refine ext<|bj<|bj<|be<|cK<|ak fun bd=>p (fa ng aa)<|p (ld jR aa<|(aV aM).trans aa)<|e<|cl M1 (NM V.v12 F.rules.length (gd<|F.rules.zip V.rn) G (Rd.kL (an.wk aP).et) (U1 aQ.nx) ab) aa fun cm eh c6=> ?_
 obtain ⟨ce,ac⟩:=c6
 have d9:=ac.size
 have ch:=fj ce (show E.heap.size≤G.heap.size by omega)
 rw [fu ab,fu ab] at bt
 refine p (fa ng aa)<|e<|bW El aa aa (v:=cm) (e7 ce) (Wk.az ac aM) (by show _ < 13; omega) fun cn ax cN=> ?_
 have cW:Wk ah cn:=(aP.trans ac).trans' ax fun q c h=>by omega
 have d1:=ax.size
 have dy:=cD (ba a5 ac) ax fun q c h=>by have :=(da (ba a5 ac) c).1; omega
 have dk:=cD (ba Y ac) ax fun q c h=>by have :=(da (ba Y ac) c).1; omega
 have dr:=cD (ba a3 ac) ax fun q c h=>by have :=(da (ba a3 ac) c).1; omega
 have b2:=cD ch ax fun q c h=>by have :=(da ch c).1; omega
 have dd:=(bt.wk ac).md ax<|im (Wk.az ac aM) aw
 have bT:cn.heap[ae]? =some (.cells (kT F ⟨Z,.slice ai F.aliases.length kU,v20,cm,V.sa,V.rn⟩).toArray 102 (0,0)):=cN
 obtain ⟨a12,aE,rfl⟩:=c5 b2
 have dC:V.rn.length=F.rules.length:=by have :=aQ.nx.1; rwa [e9] at this
 refine nl<|bd<|aB fun bg=>ak fun cx=>p (fa ng aa)<|p (ld jR aa<|(aV bT).trans aa)<|p (bP pY aa aa)<|p mv<|nl<|cx<|az<|lp (fun aF aO C=> ∃ (i:Nat) (rn:List Value),(i≤F.rules.length)∧(rn.length=F.rules.length)∧(rn.drop i=V.rn.drop i)∧(dH C E.heap.size 95 (rn.take i)<|(F.rules.map (·.next)).take i)∧(bq C E.heap.size 134 7 (.slice a12 F.rules.length aE) F.rules.length<|gd<|F.rules.zip rn)∧(bq C E.heap.size 189 2 (Z) F.dB.length<|nq F.dB)∧(bq C E.heap.size 51 1 (.slice ai F.aliases.length kU) F.aliases.length<|sa)∧(dH C E.heap.size 95 sa F.aliases)∧(bq C E.heap.size 192 5 (v20) F.bB.length<|mo F.bB)∧(C.heap[ae]? =some (.cells (kT F ⟨Z,.slice ai F.aliases.length kU,v20,.slice a12 F.rules.length aE,V.sa,V.rn⟩).toArray 102 (0,0)))∧(Wk ah C)∧(E.heap.size≤C.heap.size)∧(aO 2=aU bi)∧(aO 3=aU ae)∧(aO 47=aj (F.rules.length))∧(aO 48=aj i)∧(F.rules.length - i=aF)) _ ⟨0,V.rn,ab,dC,aa,(dH.nil _ _ _),b2,dy,dk,dd,dr,bT,cW,(ab),aa,aa,aa,aa,aa⟩ ?_
 rintro aF aO C ⟨i,rn,hi,dD,cj,bv,J,a6,a2,bS,a4,aZ,aK,ed,dM,dN,dO,dP,rfl⟩
 refine fx 2 dM<|fx 3 dN<|fx 47 dO<|fx 48 dP<|ak fun cy=>p (lt aa aa)<|nl<|cy<|aB fun cA=>cd aa (fun de=> ?_) fun de=> ?_
 refine aR<|cA<|aB fun bh=>az<|aB fun cB=> ?_
 obtain ⟨vn,dS,bs⟩:=dH.get (an.wk aK).nx (show i < (F.rules.map (·.next)).length by rw [e9]; omega)
 obtain ⟨bD,bG,rfl⟩:=bs.slice
 obtain ⟨q,bz⟩:∃ q,F.rules[i]? =some q:=⟨_,bX ab⟩
 have dA:(F.rules.map (·.next)).getD i []=q.next:=by rw [cU,fF,bz]; rfl
 have dz:=b0.2 q<|fU bz
 rw [← dA] at dz
 have bA:(F.rules.zip rn)[i]? =some (q,.slice bD ((F.rules.map (·.next)).getD i []).length bG):=jj.2 ⟨bz,(zx cj).trans dS⟩
 refine rg aa<|au (aj i)<|p (cg (aj i) aa)<|nl<|cB ?_
 have O:(fun w'=>Wk C w') C.drew:=(Md.refl _ _).drew
 refine eG (fun w'=>Wk C w') 12 aa wide O<|bF 0 aa (fun _=>fa ng aa) (fun _=>O)<|eC 1 aa (fun w' aA=>ld jR aa<|Wk.aJ aA<|(aV aZ).trans aa) O<|bp 2 aa (aj i) O<|bF 3 aa (fun _=>fa ng aa) (fun _=>O)<|eC 4 aa (fun w' aA=>ld jR aa<|Wk.aJ aA<|(aV aZ).trans aa) O<|bp 5 aa (aj i) O<|bF 6 aa (fun _=>bc kG aa aa ab<|aG.ok ((aY J).2)<|k3 bA) (fun _=>O)<|bF 7 aa (fun _=>fa pP aa) (fun _=>O)<|eC 8 aa (fun w' aA=>ld mj aa<|Wk.aJ aA<|ic (f:=dG) (m:=7) (fun _=>rfl) (aY J).2 bA 6 aw) O<|iV 9 aa ag<|cl rL (rN bD ((F.rules.map (·.next)).getD i []).length bG (((F.rules.map (·.next)).getD i []).map aX) C.drew (aG.wk bs.dJ.2 O) (by simp) (fun h=>Tg.sg bs (by simp) h) (rE _) ab) aa fun v60 ct c7=> ?_
 obtain ⟨bx,bM⟩:=c7
 have A:Wk C ct:=O.trans bM
 have c9:=A
 have bo:(fun w'=>Wk C w') ct:=O.trans bM
 refine ⟨bo,?_⟩
 refine bF 10 aa (fun _=>bc kG aa aa ab<|aG.ok ((aY J).2)<|k3 bA) (fun _=>bo)<|bF 11 aa (fun _=>fa pP aa) (fun _=>bo)<|dw 12 aa ag ag<|su (j:=i*7 +6) (ba J A) rQ aa aa (e7 bx) (by rw [Int.toNat_natCast]; omega) ab fun co am b4=> ?_
 rw [U2 ab ab] at b4
 have cX:Wk ah co:=Wk.own (aK.trans A) (ba J A) am ab
 have dt:=cD (fj bx (show E.heap.size≤C.heap.size by omega)) am fun q c=>oh bx (ba J A) aw c
 have dh:=(bv.wk A).md am<|jJ (ba J A) aw
 have dc:=(bS.wk A).md am<|jJ (ba J A) aw
 have dv:=cD (ba a6 A) am fun q c=>oh (ba a6 A) (ba J A) aw c
 have dj:=cD (ba a2 A) am fun q c=>oh (ba a2 A) (ba J A) aw c
 have dn:=cD (ba a4 A) am fun q c=>oh (ba a4 A) (ba J A) aw c
 have dg:=am.az (Wk.az A aZ) fun h=>by have :=(da (ba J A) h).1; omega
 exact eF ag<|bn<|bh<|rg aa<|p (ad aa aa<|cz ab)<|p mv<|nl<|tn<|⟨_,ab,i+1,rn.set i v60,ab,(by rw [vc]; exact dD),(set_drop cj),(C4 dh (by rw [e9]; omega) ab<|Tg.kL dt),b4,dv,dj,dc,dn,dg,cX,(by have :=c9.size; have :=am.size; omega),aa,aa,aa,aa,aa⟩
 refine ext<|bj<|bj<|be<|bg<|ak fun bh=>p (cE yB aa (aa) (show ∀ j,j < 13→Hb.aJ C.heap ae (0 +j)=(kT F ⟨Z,.slice ai F.aliases.length kU,v20,.slice a12 F.rules.length aE,V.sa,V.rn⟩)[j]? from fun j a0=>(aV aZ).trans<|by match j,a0 with | 0,_=>rfl | 1,_=>rfl | 2,_=>rfl | 3,_=>rfl | 4,_=>rfl | 5,_=>rfl | 6,_=>rfl | 7,_=>rfl | 8,_=>rfl | 9,_=>rfl | 10,_=>rfl | 11,_=>rfl | 12,_=>rfl))<|e<|fk zp aa aa aa (yK (e7 a6) (e7 a2) (e7 a4)<|e7 J) (Wk.az aK bH) aw fun dV aS cO=>nl<|bh<|rt<|tL aa (dZ (cs:=kT F ⟨Z,.slice ai F.aliases.length kU,v20,.slice a12 F.rules.length aE,V.sa,V.rn⟩) aa yB aa fun j a0=>(bE.bu ⟨_,cO⟩ j).trans aa) ?_
 have a1:∀ {t s n:Nat} {v:Value} {xs:List Value},bq C E.heap.size t s v n xs→bq dV w.heap.size t s v n xs:=fun h=>fj (cD h aS fun q c h2=>by have :=(da h c).1; omega) ab
 rw [fu ab,fu (by rw [e9]; omega)] at bv
 have bZ:∀ k,k=bi→∀ cur z,C.heap[k]?≠some (.cells cur 95 z):=im (Wk.az aK bH) aw
 exact ⟨⟨⟨Z,.slice ai F.aliases.length kU,v20,.slice a12 F.rules.length aE,sa,rn⟩,aa,⟨a1 a6,a1 a2,(bS.md aS bZ).mono ab,a1 a4,a1 J,(bv.md aS bZ).mono ab⟩⟩,(bm.md.trans aK).trans' aS fun q c h=>by omega⟩
end Go.Hb.gL
section
namespace Go.Hb
open Go.Hb.qk Go.Hb.gX Go.Hb.gL
noncomputable def lx (r:List Tx):Nat×Int:=if r.length≠1 then (0,111) else fH (r.getD 0 []) 8192
def Ki (w0 w':World) (X:Except Nat bg) (v:Value):Prop :=(∃ x a,X= .ok x∧v= .tuple #[.agg [str x.1,a].toArray,.int .i64 (0:Nat)]∧bq w' w0.heap.size 95 1 a x.2.length (x.2.map aX))∨(∃ e,X= .error e∧e≠0∧v= .tuple #[.agg [str [],.slice none 0 0].toArray,.int .i64 (e:Nat)])
theorem G0 {s:Tx} {i:Nat} (hi:i < s.length):(s.take<|i+1).drop i= [s.getD i 0]:=by
 rw [Bu 0 (cj i) hi,lK (by rw [eE]; omega),List.nil_append]
theorem Ip (b:UInt8):o5 [b]=iR b:=by unfold o5; rw [LA]; cases iR b <;> rfl
theorem Ey {F:aC} {x:Nat} (h:(dO F.bB x).isSome=true∨x∈F.sp):eA F x=true :=by
 unfold eA; rcases h with h | h
 · rw [h,Bool.or_true]
 · rw [decide_eq_true h]; rfl
theorem O0 {F:aC} {x:Nat} (h:(dO F.bB x).isSome=false) (h1:x∉F.sp):eA F x=false :=by
 unfold eA; rw [h,decide_eq_false h1]; rfl
theorem VB {F:aC} (h:F.sp.length=5):[F.sp.getD 0 0,F.sp.getD 1 0,F.sp.getD 2 0,F.sp.getD 3 0,F.sp.getD 4 0]=F.sp:=by
 match F.sp,h with
 | [a,b,c,d,e],_=>rfl
theorem RP (a:Option Addr) (c:Nat) (l:List Nat) (x:Nat) (w:World) (G:aG w.heap a (l.map aX)) (ax:l.length≤1048576):
 bf ao 207 (a7 [.slice a l.length c,aX x]) w (fun v w'=>(∃ k:Int,v= .int .i64 k∧(0≤k↔x∈l)∧ -1≤k∧k≤1048576)∧Wk w w'):=by
 refine enter func207 aa ntmps207 aa<|ak fun Y=>ay<|Y<|aB fun Z=>ak fun ac=>au (.slice a l.length c)<|p (bP oq aa aa)<|p mv<|nl<|ac<|az<|lp (fun E A V=> ∃ (i:Nat),(i≤l.length)∧(∀ j,j < i→l.getD j 0≠x)∧(V=w)∧(A 0= .slice a l.length c)∧(A 1=aX x)∧(A 7=aj (l.length))∧(A 8=aj i)∧(l.length - i=E)) _ ⟨0,ab,(fun j J=>by omega),aa,aa,aa,aa,aa,aa⟩ ?_
 rintro E A V ⟨i,hi,O,am,ap,aq,av,aw,rfl⟩
 refine fx 0 ap<|fx 1 aq<|fx 7 av<|fx 8 aw ?_
 subst am
 refine ak fun ae=>p (lt aa aa)<|nl<|ae<|aB fun ag=>cd aa (fun an=> ?_) fun an=> ?_
 refine aR<|ag<|aB fun C=>az<|ak fun ah=>au (aj i)<|p (cg (aj i) aa)<|nl<|ah<|ak fun ai=>au (aX x)<|au (.slice a l.length c)<|au (aj i)<|p (bc bL aa aa ab<|aG.ok (G)<|c8 ab)<|p (ld bZ aa<|aG.iY G (show (l.map aX)[i]? =some (aX<|l.getD i 0) by rw [fF,cU,bX (by omega :i < l.length)]; rfl)) ?_
 refine p (cx aa aa)<|nl<|ai<|cd aa (fun I=> ?_) fun I=> ?_
 exact ak fun al=>au (aj i)<|p (cg (aj i) aa)<|nl<|al<|rt<|br<|tr<|tr<|br<|tr<|a8 aa<|⟨⟨(i:Nat),aa,⟨fun _=>by obtain rfl :x=l.getD i 0:=ab; exact e6 ab,fun _=>by omega⟩,ab,ab⟩,Md.refl _ _⟩
 exact aR<|bn<|C<|rg aa<|p (ad aa aa<|cz ab)<|p mv<|nl<|tn<|⟨_,ab,i+1,ab,(fun j J=>by rcases jk j i with h | h <;> first | exact O j h | (rw [show j=i by omega]; exact fun h2=>I<|by rw [h2])),aa,aa,aa,aa,aa,aa⟩
 exact ext<|bj<|bj<|be<|Z<|ak fun C=>p aE<|nl<|C<|rt<|a8 aa<|⟨⟨-1,aa,⟨fun h=>absurd h ab,fun h=>by obtain ⟨j,J,e⟩:=oY 0 h; exact absurd e<|O j ab⟩,ab,ab⟩,Md.refl _ _⟩
theorem Om (a:Option Addr) (c:Nat) (l:List Nat) (x:Nat) (w:World) (E:aG w.heap a (l.map aX)) (J:l.length≤1048576):
 bf ao 141 (a7 [.slice a l.length c,aX x]) w (fun v w'=>v= .bool (decide (x∈l))∧Wk w w'):=by
 refine enter func141 aa ntmps141 aa<|ak fun A=>ay<|A<|ak fun C=>au (.slice a l.length c)<|au (aX x)<|e<|cl L8 (RP a c l x w E J) aa fun Y Z G=> ?_
 obtain ⟨⟨O,rfl,I,V⟩,hE7⟩:=G
 exact p (ge aa aa)<|ay<|C<|rt<|a8 aa<|⟨by show bU (decide (O≥0))=_; exact congrArg bU (decide_eq_decide.2 I),hE7⟩
theorem rR (ln er:Int) (w:World):
 bf ao 77 (a7 [.int .i64 ln,.int .i64 er]) w (fun v w'=>v= .agg [.int .i64 2,.int .i64 ln,.int .i64 er].toArray∧Wk w w'):=by
 exact enter func77 aa ntmps77 aa<|ak fun c=>e<|al nB fun J Z O I E=>nl<|c<|ak fun A=>au (.int .i64 ln)<|au (.int .i64 er)<|p (du (ps:= [(0,.int .i64 2),(1,.int .i64 ln),(2,.int .i64 er)]) (L:= [.int .i64 2,.int .i64 ln,.int .i64 er]) ss aa<|aa)<|e<|dd iP aa aa aa aa (E) (by simp) fun ab G C=>nl<|A<|rt<|tL aa (dZ (cs:= [.int .i64 2,.int .i64 ln,.int .i64 er]) aa kD aa fun j V=>C.bu j)<|⟨aa,I.md.trans' G fun q Y h=>by omega⟩
theorem Pk (n:Nat) (r:List Tx) (B:Nat) (a:Option Addr) (c:Nat) (w:World) (Z:Tg w B 9 r.length (.slice a r.length c) (r.map str)) (ad:∀ x∈r,x.length≤70000) (ai:r.length≤70000):
 bf ao 78 (a7 [.agg [aj n,.slice a r.length c].toArray]) w (fun v w'=>v= .tuple #[aj ((lx r).1),.int .i64 (lx r).2]∧Wk w w'):=by
 refine enter func78 aa ntmps78 aa<|ak fun I=>e<|jm aa fun ag ae ah C E=> ?_
 have G:=Z.wk C.md
 refine p aE<|ay<|I<|aB fun J=>ak fun O=>p (fa tU aa)<|p (ld mS aa<|(E.aJ 1).trans aa)<|p (bP gU aa aa)<|p (gF aa aa)<|nl<|O<|cd aa (fun ac=> ?_) fun ac=> ?_
 refine ak fun A=>p aE<|ay<|A<|rt<|tr<|f2 aa aa aa ?_
 have h1:r.length≠1:=ab
 exact ⟨by unfold lx; rw [if_pos h1]; rfl,C.md⟩
 refine aR<|J<|ak fun A=>p (fa tU aa)<|p (ld mS aa<|(E.aJ 1).trans aa)<|p (bc ec aa aa ab<|aG.ok (G.dJ.2)<|c8 ab)<|p (ld cR aa<|dE.get (i:=0) G.dJ.2 ab)<|e<|cl vH (wX (r.getD 0 []) 8192 ae (by have :=ad _ (e6 (d:= []) (show 0 < r.length by omega)); omega) ab) aa fun v12 al Y=> ?_
 obtain ⟨rfl,V⟩:=Y
 refine p (xt aa aa)<|p (xt aa aa)<|p aE<|ay<|A<|rt<|f2 aa aa aa ?_
 have h1:¬r.length≠1:=ab
 exact ⟨by unfold lx; rw [if_neg h1]; rfl,C.md.trans V⟩
theorem O7 (B fb mc:Nat) (F:aC) (V:ei) (n:Nat) (r:List Tx) (bB:Nat) (ar:Option Addr) (cr:Nat) (w:World) (a1:dp w B fb mc F V) (ca:∃ seen,ka F [] seen) (cy:Tg w bB 9 r.length (.slice ar r.length cr) (r.map str)) (cL:∀ x∈r,x.length≤70000) (dk:r.length≤70000):
 bf ao 79 (a7 [aU fb,.agg [aX (F.sp.getD 0 0),aX (F.sp.getD 1 0),aX (F.sp.getD 2 0),aX (F.sp.getD 3 0),aX (F.sp.getD 4 0)].toArray,.agg [aj n,.slice ar r.length cr].toArray]) w (fun v w'=>Ki w w' (fQ F r) v∧Wk w w'):=by
 obtain ⟨seen,aH⟩:=ca
 have dj:=aH.len
 have dq:=xP<|r.getD 0 []
 refine enter func79 aa ntmps79 aa<|ak fun bC=>e<|jm aa fun aV dF dg bp b7=>e<|jm aa fun db dH dh a2 b8=>e<|al pd fun bi bz di aL bk=> ?_
 have aI:Wk w bz:=bp.md.trans<|a2.md.trans aL.md
 have cK:=aL.md.B<|a2.md.B b7
 have bx:=aL.md.B b8
 have bs:=cy.wk aI
 have ce:=a1.wk aI
 have dt:=bp.size
 have dv:=a2.size
 have dw:=aL.size
 refine ay<|bC<|aB fun bJ=>ak fun bR=>p (fa tU aa)<|p (ld mS aa<|(bx.aJ 1).trans aa)<|p (bP gU aa aa)<|p (gF aa aa)<|nl<|bR<|cd aa (fun cA=> ?_) fun cA=> ?_
 exact ak fun aQ=>p (du (ps:= []) (L:= [.string ⟨⟨[]⟩⟩,.slice none 0 0]) nv aa<|aa)<|e<|dd jy aa aa aa aa (bk) (by simp) fun dS cp b6=>ay<|aQ<|rt<|tr<|fg aa (dZ (cs:= [str [],.slice none 0 0]) aa kS aa fun j C=>b6.bu j) eI<|⟨.inr ⟨111,PH ab,aw,aa⟩,aI.trans' cp fun q c h=>by omega⟩
 have J:r.length=1:=ab
 have dl:(r.getD 0 []).length≤70000:=cL _<|e6 ab
 refine aR<|bJ<|ak fun aQ=>p (fa tU aa)<|p (ld mS aa<|(bx.aJ 1).trans aa)<|p (bc ec aa aa ab<|aG.ok (bs.dJ.2)<|c8 ab)<|p (ld cR aa<|dE.get (i:=0) bs.dJ.2 ab)<|e<|cl yS (BW (r.getD 0 []) bz ab) aa fun v28 c6 ct=> ?_
 obtain ⟨rfl,ap⟩:=ct
 have ae:=aI.trans ap
 have ag:=ap.B bk
 have ds:=ap.size
 refine p mv<|p (xt aa aa)<|p (xt aa aa)<|p (xt aa aa)<|p (xt aa aa)<|p aE<|p aE<|p aE<|ay<|aQ<|aB fun bS=>ak fun bT=>p mv<|p (gF aa aa)<|nl<|bT<|cd aa (fun cB=> ?_) fun cB=> ?_
 exact ak fun aS=>p (du (ps:= []) (L:= [.string ⟨⟨[]⟩⟩,.slice none 0 0]) nv aa<|aa)<|p mv<|e<|dd jy aa aa aa aa (ag) (by simp) fun dT cq b9=>ay<|aS<|rt<|tr<|fg aa (dZ (cs:= [str [],.slice none 0 0]) aa kS aa fun j C=>b9.bu j) eI<|⟨.inr ⟨_,zA J ab,ab,aa⟩,ae.trans' cq fun q c h=>by omega⟩
 have ac:(bD<|r.getD 0 []).2.2.2=0:=ab
 refine aR<|bS<|aB fun aS=>ak fun bU=>p mv<|p (dC u9 aa aa)<|p mv<|nl<|bU<|az<|lp (fun am E aD=> ∃ (i:Nat),(i≤(bD<|r.getD 0 []).1.length)∧(∀ j,j < i→iR ((bD<|r.getD 0 []).1.getD j 0)=true)∧(Wk c6 aD)∧(E 0=aU fb)∧(E 4=aU aV)∧(E 6=aU bi)∧(E 8=str (bD<|r.getD 0 []).1)∧(E 9=str (bD<|r.getD 0 []).2.1)∧(E 10= .bool (bD<|r.getD 0 []).2.2.1)∧(E 38=aj ((bD<|r.getD 0 []).1.length))∧(E 39=aj i)∧((bD<|r.getD 0 []).1.length - i=am)) _ ⟨0,ab,(fun j C=>by omega),(Md.refl _ _),aa,aa,aa,aa,aa,aa,aa,aa,aa⟩ ?_
 rintro am E aD ⟨i,hi,bv,A,cM,cQ,cS,cT,cV,cN,cO,cP,rfl⟩
 refine fx 0 cM<|fx 4 cQ<|fx 6 cS<|fx 8 cT<|fx 9 cV<|fx 10 cN<|fx 38 cO<|fx 39 cP<|ak fun bV=>p (lt aa aa)<|nl<|bV<|aB fun bE=>cd aa (fun cC=> ?_) fun cC=> ?_
 refine aR<|bE<|aB fun aM=>az<|ak fun aN=>au (aj i)<|p (cg (aj i) aa)<|nl<|aN<|ak fun ah=>au (str (bD<|r.getD 0 []).1)<|au (aj i)<|au (aj i)<|p (ad aa aa<|cz ab)<|p (uz u9 aa aa aa ab)<|e<|cl Dm (Iq (((bD<|r.getD 0 []).1.take<|i+1).drop i) aD<|by rw [G0 ab]; simp) aa fun dz dG cu=> ?_
 obtain ⟨rfl,cc⟩:=cu
 have bw:=G0 (s:=(bD<|r.getD 0 []).1) (i:=i) ab
 have aW:=A.trans cc
 refine p (no aa)<|nl<|ah<|cb aa (fun a5=> ?_) fun a5=> ?_
 have bb:iR ((bD<|r.getD 0 []).1.getD i 0)=false :=by rw [← Ip,← bw]; simpa using a5
 exact ak fun ai=>p (du (ps:= []) (L:= [.string ⟨⟨[]⟩⟩,.slice none 0 0]) nv aa<|aa)<|e<|dd jy aa aa aa aa (Wk.B aW ag) (by simp) fun dL ch bW=>ay<|ai<|rt<|br<|tr<|tr<|br<|tr<|fg aa (dZ (cs:= [str [],.slice none 0 0]) aa kS aa fun j C=>bW.bu j) eI<|⟨.inr ⟨21,EH J ac (.inl<|vE ab bb),aw,aa⟩,(ae.trans aW).trans' ch fun q c h=>by omega⟩
 have bb:iR ((bD<|r.getD 0 []).1.getD i 0)=true :=by rw [← Ip,← bw]; simpa using a5
 exact aR<|bn<|aM<|rg aa<|p (ad aa aa<|cz ab)<|p mv<|nl<|tn<|⟨_,ab,i+1,ab,(fun j C=>by rcases jk j i with h | h <;> first | exact bv j h | (rw [show j=i by omega]; exact bb)),aW,aa,aa,aa,aa,aa,aa,aa,aa,aa⟩
 refine ext<|bj<|bj<|be<|aS<|aB fun aM=>az<|aB fun aN=>rg aa<|au (str (bD<|r.getD 0 []).1)<|p (jD aa aa)<|ay<|aN<|cd aa (fun Z=> ?_) fun Z=> ?_
 exact ak fun ah=>p (du (ps:= []) (L:= [.string ⟨⟨[]⟩⟩,.slice none 0 0]) nv aa<|aa)<|e<|dd jy aa aa aa aa (Wk.B A ag) (by simp) fun dM ci bY=>ay<|ah<|rt<|br<|tr<|fg aa (dZ (cs:= [str [],.slice none 0 0]) aa kS aa fun j C=>bY.bu j) eI<|⟨.inr ⟨21,EH J ac (.inr Z),aw,aa⟩,(ae.trans A).trans' ci fun q c h=>by omega⟩
 have aq:=vF (w:=(bD<|r.getD 0 []).1) fun j C=>bv j ab
 refine ak fun ah=>au (str (bD<|r.getD 0 []).1)<|p (dC u9 aa aa)<|p (gt aa aa)<|ay<|ah<|cd aa (fun cE=> ?_) fun cE=> ?_
 exact ak fun ai=>p (du (ps:= []) (L:= [.string ⟨⟨[]⟩⟩,.slice none 0 0]) nv aa<|aa)<|e<|dd jy aa aa aa aa (Wk.B A ag) (by simp) fun dN cj b0=>ay<|ai<|rt<|br<|tr<|fg aa (dZ (cs:= [str [],.slice none 0 0]) aa kS aa fun j C=>b0.bu j) eI<|⟨.inr ⟨22,PI J ac aq Z ab,aw,aa⟩,(ae.trans A).trans' cj fun q c h=>by omega⟩
 refine ak fun ai=>au (.bool (bD<|r.getD 0 []).2.2.1)<|p (no aa)<|ay<|ai<|cb aa (fun av=> ?_) fun av=> ?_
 exact ak fun aO=>au (str (bD<|r.getD 0 []).1)<|p (du (ps:= [(0,str (bD<|r.getD 0 []).1)]) (L:= [str (bD<|r.getD 0 []).1,.slice none 0 0]) nv aa<|aa)<|e<|dd jy aa aa aa aa (Wk.B A ag) (by simp) fun dO ck b2=>ay<|aO<|rt<|br<|tr<|fg aa (dZ (cs:= [str (bD<|r.getD 0 []).1,.slice none 0 0]) aa kS aa fun j C=>b2.bu j) eI<|⟨.inl ⟨_,.slice none 0 0,PJ J ac aq Z ab (by simpa using av),aa,eh _ _ _ _⟩,(ae.trans A).trans' ck fun q c h=>by omega⟩
 refine aR<|bn<|aM<|ak fun aO=>au (aU fb)<|au (str (bD<|r.getD 0 []).2.1)<|e<|cl Dn (EU B fb mc F V (bD<|r.getD 0 []).2.1 aD (ce.wk<|ap.trans A) aH.kd aH.al ab ab) aa fun c4 bd cv=> ?_
 obtain ⟨cH,aZ⟩:=cv
 have aK:=ae.trans<|A.trans aZ
 have a4:=Wk.B (A.trans aZ) ag
 obtain ⟨c7,dc,rfl,bt⟩:∃ a,∃ e:Nat,c4= .tuple #[a,aj e]∧((e=0∧∃ l,gj F.kind F.aliases (bD<|r.getD 0 []).2.1= .ok l∧bq bd aD.heap.size 95 1 a l.length (l.map aX))∨(e≠0∧gj F.kind F.aliases (bD<|r.getD 0 []).2.1= .error e)):=by
  rcases cH with ⟨a,l,h1,h2,h3⟩ | ⟨a,e,h1,h2,h3⟩
  exact ⟨a,0,h1,.inl ⟨aa,l,h2,h3⟩⟩
  exact ⟨a,e,h1,.inr ⟨h2,h3⟩⟩
 refine p mv<|p (xt aa aa)<|p (xt aa aa)<|p aE<|ay<|aO<|aB fun bF=>ak fun bH=>p mv<|p (gF aa aa)<|nl<|bH<|cd aa (fun cF=> ?_) fun cF=> ?_
 obtain ⟨cJ,ax⟩:=bt.resolve_left fun h=>by omega
 exact ak fun aP=>p (du (ps:= []) (L:= [.string ⟨⟨[]⟩⟩,.slice none 0 0]) nv aa<|aa)<|p mv<|e<|dd jy aa aa aa aa (a4) (by simp) fun dP cm b3=>ay<|aP<|rt<|tr<|fg aa (dZ (cs:= [str [],.slice none 0 0]) aa kS aa fun j C=>b3.bu j) eI<|⟨.inr ⟨_,PK J ac aq Z ab (by simpa using av) ax,cJ,aa⟩,aK.trans' cm fun q c h=>by omega⟩
 obtain ⟨_,set,ax,aA⟩:=bt.resolve_right fun h=>by omega
 obtain ⟨O,Y,rfl⟩:=c5 aA
 have dn:=zR (fun l cI=>(aH.al l cI).1) ax
 refine aR<|bF<|aB fun aP=>ak fun bI=>p mv<|p (bP H8 aa aa)<|p mv<|nl<|bI<|az<|lp (fun am G bg=> ∃ (j:Nat),(j≤set.length)∧(∀ q,q < j→eA F (set.getD q 0)=true)∧(Wk bd bg)∧(G 0=aU fb)∧(G 4=aU aV)∧(G 6=aU bi)∧(G 8=str (bD<|r.getD 0 []).1)∧(G 13= .slice O set.length Y)∧(G 75= .slice O set.length Y)∧(G 76=aj (set.length))∧(G 77=aj j)∧(set.length - j=am)) _ ⟨0,ab,(fun q c=>by omega),(Md.refl _ _),aa,aa,aa,aa,aa,aa,aa,aa,aa⟩ ?_
 rintro am G bg ⟨j,C,a3,I,cW,cY,cZ,c3,cX,c0,c1,c2,rfl⟩
 refine fx 0 cW<|fx 4 cY<|fx 6 cZ<|fx 8 c3<|fx 13 cX<|fx 75 c0<|fx 76 c1<|fx 77 c2<|ak fun bK=>p (lt aa aa)<|nl<|bK<|aB fun bL=>cd aa (fun cG=> ?_) fun cG=> ?_
 refine aR<|bL<|aB fun aF=>az<|ak fun bM=>p (bc EK aa aa ab<|aG.ok ((aY<|ba aA I).2)<|c8 ab)<|p (ld bZ aa<|aG.iY (aY<|ba aA I).2 (show (set.map aX)[j]? =some (aX<|set.getD j 0) by rw [fF,cU,bX (by omega :j < set.length)]; rfl)) ?_
 refine ay<|bM<|ak fun bN=>au (aU fb)<|p mv<|e<|cl yR (zJ B fb mc F V (set.getD j 0) bg (a1.wk<|aK.trans I) ab) aa fun dA dI cw=> ?_
 obtain ⟨rfl,bl⟩:=cw
 have dx:=bl.size
 have dy:=I.size
 refine p mv<|p (xt aa aa)<|p (xt aa aa)<|e<|al sG fun c9 dD df bo b1=>e<|dd qw aa aa aa aa (b1) (by simp) fun bA cn de=> ?_
 have dr:=bo.size
 have an:Wk bd bA:=(I.trans<|bl.trans bo.md).trans' cn fun q c h=>by omega
 refine ay<|bN<|ak fun bh=>p mv<|p (no aa)<|p mv<|gb (t:=89) aa (fun a9=> ?_) fun a9=> ?_
 refine a6 aa (Ld tp aa)<|a6 aa mv<|eg aa aa aa<|cl LO (Om (some ⟨aV,0,none⟩) 5 [F.sp.getD 0 0,F.sp.getD 1 0,F.sp.getD 2 0,F.sp.getD 3 0,F.sp.getD 4 0] (set.getD j 0) bA (aG.gl<|Wk.B ((ap.trans<|A.trans aZ).trans an) cK)<|by simp) aa fun dB dK cx=> ?_
 obtain ⟨rfl,a0⟩:=cx
 rw [VB a1.jZ] at*
 refine a6 aa (no aa)<|p (bO aa)<|nl<|bh<|cb aa (fun a8=> ?_) fun a8=> ?_
 exact ak fun bQ=>p (du (ps:= []) (L:= [.string ⟨⟨[]⟩⟩,.slice none 0 0]) nv aa<|aa)<|e<|dd jy aa aa aa aa (Wk.B (an.trans a0) a4) (by simp) fun dQ co b4=>ay<|bQ<|rt<|br<|tr<|tr<|br<|tr<|fg aa (dZ (cs:= [str [],.slice none 0 0]) aa kS aa fun j C=>b4.bu j) eI<|⟨.inr ⟨120,PM J ac aq Z ab (by simpa using av) ax (i:=j) ab (O0 (by simpa using a9)<|by simpa using a8),aw,aa⟩,(aK.trans<|an.trans a0).trans' co fun q c h=>by omega⟩
 exact aR<|bn<|aF<|rg aa<|p (ad aa aa<|cz ab)<|p mv<|nl<|tn<|⟨_,ab,j+1,ab,(fun q c=>by rcases jk q j with h | h <;> first | exact a3 q h | (rw [show q=j by omega]; exact Ey<|.inr<|by simpa using a8)),(an.trans a0),aa,aa,aa,aa,aa,aa,aa,aa,aa⟩
 exact aT aa<|aT aa<|aT aa<|aT aa<|p (bG aa)<|nl<|bh<|cf aa<|aR<|bn<|aF<|rg aa<|p (ad aa aa<|cz ab)<|p mv<|nl<|tn<|⟨_,ab,j+1,ab,(fun q c=>by rcases jk q j with h | h <;> first | exact a3 q h | (rw [show q=j by omega]; exact Ey<|.inl<|by simpa using a9)),an,aa,aa,aa,aa,aa,aa,aa,aa,aa⟩
 exact ext<|bj<|bj<|be<|aP<|ak fun aF=>au (str (bD<|r.getD 0 []).1)<|au (.slice O set.length Y)<|p (du (ps:= [(0,str (bD<|r.getD 0 []).1),(1,.slice O set.length Y)]) (L:= [str (bD<|r.getD 0 []).1,.slice O set.length Y]) nv aa<|aa)<|e<|dd jy aa aa aa aa (Wk.B I a4) (by simp) fun dR bm b5=>ay<|aF<|rt<|fg aa (dZ (cs:= [str (bD<|r.getD 0 []).1,.slice O set.length Y]) aa kS aa fun j C=>b5.bu j) eI<|⟨.inl ⟨((bD<|r.getD 0 []).1,set),.slice O set.length Y,EI J ac aq Z ab (by simpa using av) ax (fun j C=>a3 j ab),aa,fj (cD (ba aA I) bm fun q c h=>by have :=(da aA c).1; have :=A.size; omega)<|by have :=A.size; omega⟩,(aK.trans I).trans' bm fun q c h=>by omega⟩
end Go.Hb
end
