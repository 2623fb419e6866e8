/-
  Walks and plain laws that the law rests on, laid together. No conditions but those that each theorem names.
-/
import Derived.Test.YtchkamdekbbgeaaGreatDoorMnAnalyseWords4
set_option linter.unusedVariables false
set_option maxRecDepth 20000
set_option maxHeartbeats 1000000
open Array renaming getElem?_eq_some_iff→dO
open Bool renaming or_eq_false_iff→oP
open Classical renaming not_not→jM
open Except.ok renaming injEq→tO
open Go.Proofs.Tryz renaming prog→aw
open Go.Value renaming agg→bV,bool→ca,int→gP,oneCell'→gw,tuple→gV
open Go.World renaming ownsRow→bz,ownsRow_nil→dK
open List renaming all_eq_true→mz,append_assoc→eS,append_nil→eB,count_eq_zero→sP,count_le_length→vO,drop_eq_nil_of_le→iJ,eq_nil_of_length_eq_zero→fR,ext_getElem?→qw,find?_cons→PZ,find?_eq_none→GI,findIdx?_eq_none_iff→P0,getD_eq_getElem?_getD→cX,getElem?_append_left→ng,getElem?_append_right→nV,getElem?_cons_zero→vP,getElem?_eq_getElem→cx,getElem?_eq_some_iff→fL,getElem?_map→gx,getElem?_of_mem→tZ,getElem?_set→lK,getElem?_zip_eq_some→jW,length→j7,length_append→bL,length_cons→cV,length_map→fP,length_nil→gB,length_pos_iff→l7,length_set→yz,length_singleton→fu,length_take→dP,length_zip→BH,map_append→gW,mem_append→jm,mem_cons→fG,mem_of_getElem?→gC,not_mem_nil→vS,take_of_length_le→e9,toArray→bh
open Nat renaming le_refl→cU,le_trans→fz,lt_or_ge→fM,zero_add→iM
open Option renaming getD_some→BQ,isSome_iff_exists→nX
open Prod renaming snd→oU
open Go.Proofs.Tryz
open Go.Hb.dZ Go.Proofs Go.Hb.eT Go.Hb.fI Go.Hb.mB Go.Hb.gy Go.Hb.kA

section
namespace Go.Hb.oV
open Go.Hb.oX
structure pY (w:World) (B fb:Nat) (mc:Nat) (F:aU) (V:fH):Prop where
 cells:w.heap[fb]? =some (.cells (qa F V mc).toArray 164 (0,0))
 o9:bz w B 189 2 V.v9 F.dA.length (lF F.dA)
 fk:bz w B 51 1 V.v10 F.aliases.length V.sa
 al:eL w B 95 V.sa F.aliases
 eK:bz w B 192 5 V.v11 F.bE.length (oq F.bE)
 dM:bz w B 134 7 V.v12 F.rules.length (iG<|F.rules.zip V.rn)
 nx:eL w B 95 V.rn (F.rules.map (·.next))
 lo:B≤fb∧B≤mc
 gr:F.sp.length=5
theorem pY.md {G:Nat→Prop} {w w':World} {B fb mc:Nat} {F:aU} {V:fH} (h:pY w B fb mc F V) (hm:Md G w w') {L:List Nat} (A:TF w L G) (C:(L.contains 166 || L.contains 191 || L.contains 53 || L.contains 97 || L.contains 194 || L.contains 136)=false):pY w' B fb mc F V:=by
 simp only [oP] at C;obtain ⟨⟨⟨⟨⟨h1,h2⟩,h3⟩,h4⟩,h5⟩,h6⟩:=C;have E:∀ k,G k→∀ cur z,w.heap[k]?≠some (.cells cur 95 z):=fun k hk cur z I=>A.no (dN I) h4 hk;exact ⟨hm.iT A h.cells h1,cQ h.o9 hm A h2,cQ h.fk hm A h3,h.al.md hm E,cQ h.eK hm A h5,cQ h.dM hm A h6,h.nx.md hm E,h.lo,h.gr⟩
theorem pY.wk {w w':World} {B fb mc:Nat} {F:aU} {V:fH} (h:pY w B fb mc F V) (hm:Wk w w'):pY w' B fb mc F V:=h.md (L:= []) hm (fun _ hk=>hk.elim) rfl
theorem Wu {w:World} {B fb mc:Nat} {F:aU} {V:fH} (h:ei w B fb mc F V):pY w B fb mc F V:=⟨h.cells,h.o9,h.fk,h.al,h.eK,h.dM,h.nx,h.lo,h.gr⟩
theorem pY.B9 {w G O:World} {B fb mc:Nat} {F:aU} {V:fH} {v:Value} {x:dy} {f:Value→Option Value} (h:pY w B fb mc F V) (E:di w.heap mc (k5 .u16) f) (ac:∀ y:Nat,f (bo y)=((F.bE++ [x]).findIdx? fun c=>decide (c.flag=y)).map fun i:Nat=>gP .i64 i) (hm:Md (fun k=>V.v11.ownBlock=some k) w G) (aa:bz G B 192 5 v (F.bE++ [x]).length (oq<|F.bE++ [x])) (A:Md (fun k=>k=fb) G O) (ab:O.heap[fb]? =some (.cells (qa {F with bE:=F.bE++ [x]} {V with v11:=v} mc).toArray 164 (0,0))):ei O B fb mc {F with bE:=F.bE++ [x]} {V with v11:=v} :=by
 have C:TF w [194] (fun k=>V.v11.ownBlock=some k):=TF.own h.eK aB;have J:=hm.iT C h.cells aB;have I:TF G [166] (fun k=>k=fb):=TF.eq (dN J) aB;have Y:∀ k,V.v11.ownBlock=some k→∀ cur z,w.heap[k]?≠some (.cells cur 95 z):=iW h.eK aB;have Z:∀ k,k=fb→∀ cur z,G.heap[k]?≠some (.cells cur 95 z):=fT J aB;have ae:=eR<|E.md hm<|C.no (eR E) aB;exact ⟨ab,cQ (cQ h.o9 hm C aB) A I aB,cQ (cQ h.fk hm C aB) A I aB,(h.al.md hm Y).md A Z,dw aa A (fun k hk E=>dX aa J aB<|E ▸ hk),cQ (cQ h.dM hm C aB) A I aB,(h.nx.md hm Y).md A Z,⟨f,(E.md hm<|C.no (eR E) aB).md A (I.no ae aB),ac⟩,h.lo,h.gr⟩
theorem dI.Z9 {w G J:World} {B:Nat} {H:dD} {F F':aU} {R:iO} {rows:List Rw} {ln:Nat} {seen:List Tx} {v:Value} {q:c7} (h:dI w B H F R rows ln seen) (hm:Md (fun k=>R.vn.ownBlock=some k) w G) (aa:bz G B 3 1 v (F.rules++ [q]).length ((F.rules++ [q]).map fun r=>gP .i64 (r.line:Nat))) (A:Md (fun k=>k=H.rb) G J) (ab:J.heap[H.rb]? =some (.cells (xQ H {R with vn:=v} ln).toArray 167 (0,0))) (ag:F'.rules=F.rules++ [q]) (hd:∀ x,eV F' x=eV F x):dI J B H F' {R with vn:=v} rows ln seen:=by
 have I:TF w [5] (fun k=>R.vn.ownBlock=some k):=TF.own h.on aB;have C:=hm.iT I h.cells aB;have O:TF G [169] (fun k=>k=H.rb):=TF.eq (dN C) aB;obtain ⟨f,E,ac⟩:=h.sm;obtain ⟨g,Y,ae⟩:=h.tm;have V:=E.md hm<|I.no (eR E) aB;have Z:=Y.md hm<|I.no (eR Y) aB;exact ⟨ab,(h.rws.md hm<|iW h.on aB).md A (fT C aB),(h.rt.md hm<|iW h.on aB).md A (fT C aB),⟨f,V.md A (O.no (eR V) aB),ac⟩,⟨g,Z.md A (O.no (eR Z) aB),fun x ah=>by rw [hd]; exact ae x ah⟩,by rw [ag]; exact dw aa A (fun k hk E=>dX aa C aB<|E ▸ hk),h.lo,h.ne⟩
theorem Dn {cs:List dy} {x:Nat} (h:(ej cs x).isSome=false):cs.findIdx? (fun c=>decide (c.flag=x))=none:=by
 rw [P0];unfold ej at h;rw [Option.isSome_eq_false_iff,Option.isNone_iff_eq_none,GI] at h;intro c A;simpa using h c A
theorem Vu {F:aU} {c:dy} (y:Nat):eV {F with bE:=F.bE++ [c]} y=(decide (y=c.flag) || eV F y):=by
 have h1:(ej (F.bE++ [c]) y).isSome=((ej F.bE y).isSome || decide (y=c.flag)):=by
  unfold ej;rw [List.find?_append,Option.isSome_or];congr 1;by_cases h:c.flag=y
  · simp [h]
  · simp [h,Ne.symm h]
 unfold eV;show (decide (y∈F.sp) || (ej (F.bE++ [c]) y).isSome)=_;rw [h1];cases decide (y∈F.sp) <;> cases (ej F.bE y).isSome <;> cases decide (y=c.flag) <;> rfl
theorem UE {F:aU} {c:dy} {f:Value→Option Value} (hd:eV F c.flag=false) (A:∀ x:Nat,f (bo x)=(F.bE.findIdx? fun c=>decide (c.flag=x)).map fun i:Nat=>gP .i64 i) (y:Nat):bU f (bo c.flag) (.int .i64 (F.bE.length:Nat)) (bo y)=((F.bE++ [c]).findIdx? fun c=>decide (c.flag=y)).map fun i:Nat=>gP .i64 i:=by
 unfold eV at hd;rw [oP] at hd;rw [List.findIdx?_append];by_cases h:y=c.flag
 · subst h;rw [oI,Dn hd.2];simp
 · rw [mm (fun h2=>h<|OD h2),A y];cases F.bE.findIdx? fun c=>decide (c.flag=y) <;> simp [Ne.symm h]
theorem CV {eof ln e:Nat} {F:aU} {rows:List Rw} {r:List Tx} (h:im F (r.getD 1 [])= .error e):ic eof F rows ln r= .error (ln,e):=by unfold ic; rw [h]
theorem CW {eof ln x:Nat} {F:aU} {rows:List Rw} {r:List Tx} (h:im F (r.getD 1 [])= .ok x) (h1:r.getD 2 []≠[89]) (h2:r.getD 2 []≠[78]):ic eof F rows ln r= .error (ln,114):=by unfold ic; rw [h]; exact if_pos ⟨h1,h2⟩
theorem IK {eof ln x e:Nat} {F:aU} {rows:List Rw} {r:List Tx} (h:im F (r.getD 1 [])= .ok x) (h1:r.getD 2 []= [89]∨r.getD 2 []= [78]) (h2:fw (r.getD 3 []) 1024= .error e):ic eof F rows ln r= .error (ln,e):=by
 unfold ic; rw [h]; simp only; rw [if_neg (fun h3=>h1.elim h3.1 h3.2),h2]
theorem IL {eof ln x n:Nat} {F:aU} {rows:List Rw} {r:List Tx} (h:im F (r.getD 1 [])= .ok x) (h1:r.getD 2 []= [89]∨r.getD 2 []= [78]) (h2:fw (r.getD 3 []) 1024= .ok n) (h3:1024 < F.rules.length+n):ic eof F rows ln r= .error (ln,117):=by
 unfold ic; rw [h]; simp only; rw [if_neg (fun h3=>h1.elim h3.1 h3.2),h2]; simp only; rw [if_pos h3]
theorem CX {eof ln x n:Nat} {F:aU} {rows:List Rw} {r:List Tx} {e:Nat×Nat} (h:im F (r.getD 1 [])= .ok x) (h1:r.getD 2 []= [89]∨r.getD 2 []= [78]) (h2:fw (r.getD 3 []) 1024= .ok n) (h3:¬1024 < F.rules.length+n) (h4:group [r.getD 0 [],r.getD 1 []] (gd F.kind F.aliases (⟨x,(if r.getD 0 []=dB then 2 else 1:Nat),(decide (r.getD 2 []= [89])),F.rules.length,n⟩:dy)) eof n rows= .error e):ic eof F rows ln r= .error e:=by
 unfold ic; rw [h]; simp only; rw [if_neg (fun h3=>h1.elim h3.1 h3.2),h2]; simp only; rw [if_neg h3,h4]
theorem T6 {eof ln x n:Nat} {F:aU} {rows:List Rw} {r:List Tx} {q:List c7×List Rw} (h:im F (r.getD 1 [])= .ok x) (h1:r.getD 2 []= [89]∨r.getD 2 []= [78]) (h2:fw (r.getD 3 []) 1024= .ok n) (h3:¬1024 < F.rules.length+n) (h4:group [r.getD 0 [],r.getD 1 []] (gd F.kind F.aliases (⟨x,(if r.getD 0 []=dB then 2 else 1:Nat),(decide (r.getD 2 []= [89])),F.rules.length,n⟩:dy)) eof n rows= .ok q):ic eof F rows ln r= .ok ({F with bE:=F.bE++ [(⟨x,(if r.getD 0 []=dB then 2 else 1:Nat),(decide (r.getD 2 []= [89])),F.rules.length,n⟩:dy)],rules:=F.rules++q.1},q.2):=by
 unfold ic; rw [h]; simp only; rw [if_neg (fun h3=>h1.elim h3.1 h3.2),h2]; simp only; rw [if_neg h3,h4]
theorem IM (B:Nat) (H:dD) (F:aU) (rows:List Rw) (ln:Nat) (seen:List Tx) (r:List Tx) (cw:Nat) (ar:Option Addr) (cr:Nat) (w:World) (A:St w B H F rows ln seen) (cT:Tg w cw 9 r.length (.slice ar r.length cr) (r.map str)) (f5:r.length=4) (cp:∀ x∈r,x.length≤70000) (fN:F.dA.length+F.aliases.length+F.bE.length+F.rules.length+rows.length < 70000):
 fX aw 134 (bh [.pointer (some ⟨H.rb,0,none⟩),.slice ar r.length cr]) w (jZ B H seen (ic H.eof F rows ln r) w) (jY B H (ic H.eof F rows ln r) w):=by
 obtain ⟨V,R,O,ao,aF⟩:=A;have ag:=cT.dp;have f6:(r.getD 1 []).length≤70000:=cp _<|eb ab;have f7:(r.getD 2 []).length≤70000:=cp _<|eb ab;have f8:(r.getD 3 []).length≤70000:=cp _<|eb ab;have f3:=ao.lo;have fV:=aF.len;have f9:=(dO.1 ao.cells).1;obtain ⟨a12,lu,fi⟩:=cJ O.dM;obtain ⟨cx,kF,de⟩:=cJ O.eK;have eW:Hb.aW w.heap H.fb 12=some (.slice a12 F.rules.length lu):=by rw [← fi]; exact (bg O.cells).trans rfl
 have fY:Hb.aW w.heap H.fb 11=some (.slice cx F.bE.length kF):=by rw [← de]; exact (bg O.cells).trans rfl
 have e1:∀ b,w.heap.size≤b→¬(V.v11.ownBlock=some b):=fun b fM h=>by have :=dQ O.eK h; omega
 obtain ⟨tf,fh,dc⟩:=ao.tm;refine kH func134 aa ntmps134 aa ?_;refine eo (fun dq cv=> ∃ (x J:Nat),(im F (r.getD 1 [])= .ok x)∧(x≠0)∧(eV F x=false)∧(w.heap.size≤J)∧(cv.heap[J]? =some (.cells [bo x,.int .i64 (1:Nat),.bool false,.int .i64 (F.rules.length:Nat),.int .i64 (0:Nat)].toArray 192 (0,0)))∧(Wk w cv)∧(Sl dq [(0,.pointer (some ⟨H.rb,0,none⟩)),(1,.slice ar r.length cr),(4,.pointer (some ⟨J,0,none⟩))])) ?_ ?_;have E:(fun w'=>Wk w w') w.drew:=(Md.refl _ _).drew;refine bY (fun w'=>Wk w w') aa wide E<|hp 0 aa aj (fun _ _=>aX (.pointer<|some ⟨H.rb,0,none⟩) aa) E<|hp 1 aa aj (fun _ _=>aX (.slice ar r.length cr) aa) E<|hp 2 aa aj (fun _ _=>bc db aa aa ab<|aM.ok (ag.2)<|cg ab) E<|hp 3 aa aj (fun w' A=>ld bX aa<|Wk.aW A<|cM.get (i:=1) ag.2 ab) E<|hp 5 aa aj (fun _ _=>aX (.pointer<|some ⟨H.rb,0,none⟩) aa) E<|hp 6 aa aj (fun _ _=>nc aa) E<|hp 7 aa aj (fun _ _=>fa iU aa) E<|hp 8 aa aj (fun w' A=>ld gF aa<|Wk.aW A<|(bg ao.cells).trans aa) E<|hp 9 aa aj (fun _ _=>nc aa) E<|hp 10 aa aj (fun _ _=>fa il aa) E<|hp 11 aa aj (fun _ _=>fa pC aa) E<|hp 12 aa aj (fun w' A=>ld np aa<|Wk.aW A<|eW) E<|hp 13 aa aj (fun _ _=>bM sy aa aa) E<|Yg (Pn:=fun c w'=> ∃ e,im F (r.getD 1 [])= .error e∧c=jS 45 ln (e:Nat)∧Wk w.drew w') 4 15 aa aa aj aa aa ?_ (fun c w' C aP O=>by obtain ⟨e,he,h,h2⟩:=C; exact ⟨ln,e,CV he,h,Wk.mw<|Md.trans E h2⟩) ?_;refine eh Ct (DR B H F V R rows ln seen (r.getD 1 []) w.drew (O.wk E) (ao.wk E) aF.kd ab) aa fun v10 bW bi=> ?_;obtain ⟨x,ah,bw,rfl,aO,bF⟩:=bi;have aq:(fun w'=>Wk w w') bW:=Md.trans E bF;refine ⟨aq,?_⟩;refine hp 14 aa aj (fun _ _=>dj (ps:= [(0,bo x),(1,.int .i64 (1:Nat)),(3,.int .i64 (F.rules.length:Nat))]) (L:= [bo x,.int .i64 (1:Nat),.bool false,.int .i64 (F.rules.length:Nat),.int .i64 0]) FE aa<|aa) aq<|he 15 aa aj<|gk vE fun J b0 eO b7 b1=> ?_;have aA:(fun w'=>Wk w w') b0:=Md.trans aq b7.md;refine ⟨aA,?_⟩;refine he 16 aa aj<|fU th aa aa aa aa b1 aB fun ct b5 b2=> ?_;have bl:(fun w'=>Wk w w') ct:=Md.trans' aA b5 fun k hk h=>by have h1:=Md.size aq; have h2:=Md.size E; omega
 refine ⟨bl,?_⟩;exact hn aj<|tn<|⟨x,J,ah,bw,aO,(by have h1:=Md.size aq; have h2:=Md.size E; omega),b2,bl,aa⟩
 refine gk vE fun J b0 eO b7 b1=> ?_;have aA:(fun w'=>Wk w w') b0:=Md.trans E b7.md;refine ⟨aA,?_⟩;refine uZ 4 aa aj aa (eh Ct (DR B H F V R rows ln seen (r.getD 1 []) b0 (O.wk aA) (ao.wk aA) aF.kd ab) aa fun v10 bW bi=> ?_) fun c w' C aP O=>by obtain ⟨e,he,h,h2⟩:=C; exact ⟨ln,e,CV he,h,Wk.mw<|Md.trans aA h2⟩
 obtain ⟨x,ah,bw,rfl,aO,bF⟩:=bi;have aq:(fun w'=>Wk w w') bW:=Md.trans aA bF;refine ⟨aq,?_⟩;refine hp 14 aa aj (fun _ _=>dj (ps:= [(0,bo x),(1,.int .i64 (1:Nat)),(3,.int .i64 (F.rules.length:Nat))]) (L:= [bo x,.int .i64 (1:Nat),.bool false,.int .i64 (F.rules.length:Nat),.int .i64 0]) FE aa<|aa) aq<|he 16 aa aj<|fU th aa aa aa aa (Wk.aT bF b1) aB fun ct b5 b2=> ?_;have bl:(fun w'=>Wk w w') ct:=Md.trans' aq b5 fun k hk h=>by have h1:=Md.size aq; have h2:=Md.size E; omega
 refine ⟨bl,?_⟩;exact hn aj<|tn<|⟨x,J,ah,bw,aO,(by have h1:=Md.size aq; have h2:=Md.size E; omega),b2,bl,aa⟩
 rintro dq cv ⟨x,J,ah,bw,aO,e8,c9,bC,fd⟩;refine bG fd ?_;refine eo (fun dr a1=>(a1.heap[J]? =some (.cells [bo x,.int .i64 ((if r.getD 0 []=dB then 2 else 1:Nat):Nat),.bool false,.int .i64 (F.rules.length:Nat),.int .i64 (0:Nat)].toArray 192 (0,0)))∧(Wk w a1)∧(Sl dr [(0,.pointer (some ⟨H.rb,0,none⟩)),(1,.slice ar r.length cr),(4,.pointer (some ⟨J,0,none⟩))])) ?_ ?_;refine sq fun dv b4=>rg aa<|p (aX (.slice ar r.length cr) aa)<|p (bc db aa aa ab<|aM.ok (aM.wk ag.2 bC)<|cg ab)<|p (ld bX aa<|cM.get (i:=0) (aM.wk ag.2 bC) ab)<|p (et aa aa)<|nl<|tn<|b4 _ _<|cd aa (fun ci=> ?_) fun ci=> ?_;exact rg aa<|p (fa xj aa)<|e<|dx gR aa aa (v:= .int .i64 (2:Nat)) aa c9 (by show _ < 5; decide) fun gn d9 dK=>nl<|tn<|⟨(by rw [if_pos (show r.getD 0 []=dB from ci)]; exact dK),(bC.trans' d9 fun k hk h=>by omega),aa⟩
 exact aQ<|tn<|⟨(by rw [if_neg (show ¬r.getD 0 []=dB from ci)]; exact c9),bC,aa⟩
 rintro dr a1 ⟨e7,am,fe⟩;refine bG fe ?_;refine eo (fun ds dn=>(r.getD 2 []= [89]∨r.getD 2 []= [78])∧(dn=a1)∧(Sl ds [(0,.pointer (some ⟨H.rb,0,none⟩)),(1,.slice ar r.length cr),(4,.pointer (some ⟨J,0,none⟩))])) ?_ ?_;refine rg aa<|p (aX (.pointer<|some ⟨H.rb,0,none⟩) aa)<|p (aX (.slice ar r.length cr) aa)<|p (bc db aa aa ab<|aM.ok (aM.wk ag.2 am)<|cg ab)<|p (ld bX aa<|cM.get (i:=2) (aM.wk ag.2 am) ab)<|p (et aa aa)<|p mv<|gs (t:=31) aa (fun bQ=> ?_) fun bQ=> ?_;refine sk aa aa aa aa<|sk aa aa aa aa<|sk aa aa aa aa<|sk aa aa aa aa<|p (bH aa)<|eP aa (eh jc (jj H.rb ln _ 114 a1 (Wk.aW am ao.dC) aB) aa fun v37 fs b8=> ?_) fun c w' C aP O=>by first | exact absurd C.2.1 aB | exact ⟨ln,114,CW ah bQ (of_decide_eq_false C.2.1),C.1,by rw [C.2.2]; exact Wk.mw am⟩
 obtain ⟨rfl,df,rfl⟩:=b8;exact nl<|tn<|⟨(.inl bQ),aa,aa⟩
 refine pg aa aa aa (aX (.slice ar r.length cr) aa)<|pg aa aa aa (bc db aa aa ab<|aM.ok (aM.wk ag.2 am)<|cg ab)<|pg aa aa aa (ld bX aa<|cM.get (i:=2) (aM.wk ag.2 am) ab)<|pg aa aa aa (et aa aa)<|p (bA aa)<|eP aa (eh jc (jj H.rb ln _ 114 a1 (Wk.aW am ao.dC) aB) aa fun v37 fs b8=> ?_) fun c w' C aP O=>by first | exact absurd C.2.1 aB | exact ⟨ln,114,CW ah bQ (of_decide_eq_false C.2.1),C.1,by rw [C.2.2]; exact Wk.mw am⟩
 obtain ⟨rfl,df,rfl⟩:=b8;exact nl<|tn<|⟨(.inr<|of_decide_eq_true df),aa,aa⟩
 rintro ds dn ⟨aY,fj,ff⟩;refine bG ff ?_;subst fj;refine sq fun dv b4=>rg aa<|p (aX (.slice ar r.length cr) aa)<|p (bc db aa aa ab<|aM.ok (aM.wk ag.2 am)<|cg ab)<|p (ld bX aa<|cM.get (i:=2) (aM.wk ag.2 am) ab)<|p (et aa aa)<|p (fa KL aa)<|e<|dx Jd aa aa (v:= .bool<|decide (r.getD 2 []= [89])) aa e7 (by show _ < 5; decide) fun ft ea dL=> ?_;have a9:=am.trans' ea fun k hk h=>by omega
 refine nl<|tn<|b4 _ _<|sq fun fA d1=>rg aa<|p (aX (.pointer<|some ⟨H.rb,0,none⟩) aa)<|p (aX (.slice ar r.length cr) aa)<|p (bc db aa aa ab<|aM.ok (aM.wk ag.2 a9)<|cg ab)<|p (ld bX aa<|cM.get (i:=3) (aM.wk ag.2 a9) ab)<|eP aa (eh y5 (Az H.rb ln (r.getD 3 []) 1024 ft (Wk.aW a9 ao.dC) ab ab) aa fun gj gm ez=> ?_) fun c w' C aP O=>by obtain ⟨e,he,h,h2⟩:=C; exact ⟨ln,e,IK ah aY he,h,Wk.mw<|a9.trans h2⟩
 obtain ⟨n,aV,rfl,cz⟩:=ez;have f4:=EI aV;refine p (fa zR aa)<|e<|dx gR aa aa (v:= .int .i64 (n:Nat)) aa (Wk.aT cz dL) (by show _ < 5; decide) fun dk ee dP=> ?_;have aH:=(a9.trans cz).trans' ee fun k hk h=>by omega
 have br:dk.heap[J]? =some (.cells [bo x,.int .i64 ((if r.getD 0 []=dB then 2 else 1:Nat):Nat),.bool (decide (r.getD 2 []= [89])),.int .i64 (F.rules.length:Nat),.int .i64 (n:Nat)].toArray 192 (0,0)):=dP;refine nl<|tn<|d1 _ _<|sq fun fB d2=>rg aa<|p (aX (.pointer<|some ⟨H.rb,0,none⟩) aa)<|p (fa KM aa)<|p (ld bD aa<|(bg br).trans aa)<|p (fa zR aa)<|p (ld bD aa<|(bg br).trans aa)<|p (bJ ((F.rules.length+n:Nat):Int) aa aa<|bp ab ab)<|p (le aa aa)<|eP aa (eh jc (jj H.rb ln _ 117 dk (Wk.aW aH ao.dC) aB) aa fun gl cu eA=> ?_) fun c w' C aP O=>⟨ln,117,IL ah aY aV (by have :=of_decide_eq_false C.2.1; omega),C.1,by rw [C.2.2]; exact Wk.mw aH⟩
 obtain ⟨rfl,fk,rfl⟩:=eA;have bx:¬1024 < F.rules.length+n:=by have :=of_decide_eq_true fk; omega
 have bK:=ao.wk aH;have dT:=O.wk aH;have bR:=fh.wk aH;refine nl<|tn<|d2 _ _<|sq fun fC d3=> ?_;have av:(fun w'=>Wk cu w') cu.drew:=(Md.refl _ _).drew;refine e5 (fun w'=>Wk cu w') 8 aa wide av<|lq 0 aa aj (fun _ _=>aX (.pointer<|some ⟨H.rb,0,none⟩) aa) av<|lq 1 aa aj (fun _ _=>nc aa) av<|lq 2 aa aj (fun _ _=>fa DD aa) av<|lq 3 aa aj (fun w' A=>ld wg aa<|Wk.aW A<|(bg bK.cells).trans aa) av<|lq 4 aa aj (fun _ _=>fa DG aa) av<|lq 5 aa aj (fun w' A=>ld du aa<|Wk.aW A<|(bg br).trans aa) av<|lq 6 aa aj (fun w' A=>mQ tI oO tt (di.md (bR) A id) aa aa (⟨_,aa⟩) (show _=gP .i64 0 from (dc x bw).trans<|by rw [aO]; rfl)) av<|lq 7 aa aj (fun _ _=>bJ ((1:Nat):Int) aa aa<|bp ab ab) av<|dU 8 aa aj aj<|tK tI tt (bR.wk av) aa aa aa (⟨_,aa⟩) fun a2 ed es=> ?_;have bd:=iY ed;have bk:dI a2 B H {F with bE:=F.bE++ [(⟨x,(if r.getD 0 []=dB then 2 else 1:Nat),(decide (r.getD 2 []= [89])),F.rules.length,n⟩:dy)]} R rows ln seen:=bK.xH bd es rfl (Oo aO dc fun y _=>Vu y);have ba:=dT.xH bK bd;have c3:=bd.aT br fun h=>bR.pI<|h ▸ br;have eJ:=(cT.wk aH).md bd fun k hk cur z cl=>by subst hk; exact bR.pI cl
 have el:=(Wk.mw aH).trans<|fW.mt bK bd;obtain ⟨cf,cj,eX⟩:=ba.cm;have eU:Hb.aW a2.heap H.fb 11=some (.slice cx F.bE.length kF):=by rw [← de]; exact (bg ba.cells).trans rfl
 refine eZ aj<|tn<|d3 _ _<|sq fun fD d4=> ?_;have G:(fun w'=>Wk a2 w') a2.drew:=(Md.refl _ _).drew;refine e5 (fun w'=>Wk a2 w') 18 aa wide G<|lq 0 aa aj (fun _ _=>aX (.pointer<|some ⟨H.rb,0,none⟩) aa) G<|lq 1 aa aj (fun _ _=>nc aa) G<|lq 2 aa aj (fun _ _=>fa iU aa) G<|lq 3 aa aj (fun w' A=>ld gF aa<|Wk.aW A<|(bg bk.cells).trans aa) G<|lq 4 aa aj (fun _ _=>nc aa) G<|lq 5 aa aj (fun _ _=>fa KI aa) G<|lq 6 aa aj (fun w' A=>ld wg aa<|Wk.aW A<|(bg ba.cells).trans aa) G<|lq 7 aa aj (fun _ _=>fa DG aa) G<|lq 8 aa aj (fun w' A=>ld du aa<|Wk.aW A<|(bg c3).trans aa) G<|lq 9 aa aj (fun _ _=>aX (.pointer<|some ⟨H.rb,0,none⟩) aa) G<|lq 10 aa aj (fun _ _=>nc aa) G<|lq 11 aa aj (fun _ _=>fa iU aa) G<|lq 12 aa aj (fun w' A=>ld gF aa<|Wk.aW A<|(bg bk.cells).trans aa) G<|lq 13 aa aj (fun _ _=>nc aa) G<|lq 14 aa aj (fun _ _=>fa il aa) G ?_;refine lq 15 aa aj (fun _ _=>fa uR aa) G<|lq 16 aa aj (fun w' A=>ld yR aa<|Wk.aW A<|eU) G<|lq 17 aa aj (fun _ _=>bM OG aa aa) G<|dU 18 aa aj aj<|tK tI tt (cj.wk G) aa aa aa (⟨_,aa⟩) fun a3 ef eu=> ?_;have ev:di a3.heap H.mc (k5 .u16) (bU cf (bo x)<|.int .i64 (F.bE.length:Nat)):=eu;have bf:=iY ef;have ca:TF a2 [1] (fun k=>k=H.mc):=TF.eq (eR cj) aB;have bq:=(Wu ba).md (L:= [1]) bf ca aB;have bN:=bk.md (L:= [1]) bf ca aB bk.ne.2.1 bk.ne.2.2;have cZ:=bf.iT ca c3 aB;have eL:=eJ.md bf fun k hk cur z cl=>by subst hk; exact cj.pI cl
 have en:=el.trans<|bf.mono fun k _ hk=>⟨hk ▸ ba.lo.2,.inr<|.inr<|.inl hk⟩
 have c4:=e1 J e8;have bv:¬(V.v11.ownBlock=some H.rb):=dX bq.eK bN.cells aB;have cn:¬(V.v11.ownBlock=some H.fb):=dX bq.eK bq.cells aB;refine eZ aj<|tn<|d4 _ _<|sq fun fE d5=> ?_;have Z:(fun w'=>Md (fun k=>V.v11.ownBlock=some k) a3 w') a3.drew:=(Md.refl _ _).drew;refine e5 (fun w'=>Md (fun k=>V.v11.ownBlock=some k) a3 w') 18 aa wide Z<|dH 0 aa aj (fun _=>aX (.pointer<|some ⟨H.rb,0,none⟩) aa) (fun _=>Z)<|dH 1 aa aj (fun _=>nc aa) (fun _=>Z)<|dH 2 aa aj (fun _=>fa iU aa) (fun _=>Z)<|k8 3 aa aj (fun w' A=>ld gF aa<|Md.aW A ((bg bN.cells).trans aa) bv) Z<|dH 4 aa aj (fun _=>aX (.pointer<|some ⟨H.rb,0,none⟩) aa) (fun _=>Z)<|dH 5 aa aj (fun _=>nc aa) (fun _=>Z)<|dH 6 aa aj (fun _=>fa iU aa) (fun _=>Z)<|k8 7 aa aj (fun w' A=>ld gF aa<|Md.aW A ((bg bN.cells).trans aa) bv) Z<|dH 8 aa aj (fun _=>nc aa) (fun _=>Z)<|dH 9 aa aj (fun _=>fa il aa) (fun _=>Z)<|dH 10 aa aj (fun _=>fa uR aa) (fun _=>Z)<|k8 11 aa aj (fun w' A=>ld yR aa<|Md.aW A ((bg bq.cells).trans aa) cn) Z<|k8 12 aa aj (fun w' A=>cW wh aa (aa) fun j eY=>bS.bB ⟨_,Md.aT A cZ c4⟩ j) Z<|gS 13 aa aj<|kY AT aa aa aa fun fL fv fS cI dR=> ?_;have aR:=iY cI.md;have ax:=bq.wk aR;have cL:=bN.wk aR;have gc:=(dO.1 cL.cells).1;have cS:(fun w'=>Md (fun k=>V.v11.ownBlock=some k) a3 w') fv:=Z.trans' cI.md fun _ _ h=>h.elim;refine ⟨cS,?_⟩;refine gS 14 aa aj<|ap AT (ax.eK) aa ab aa (aM.ec dR) (aa) (aa) ab ab fun cq dl c8 aL gg f2=> ?_;have ep:=(en.trans<|Wk.mw aR).trans<|Mw.of aL (TF.own ax.eK aB) fun k hk=>(dQ ax.eK hk).1;have bi:=dI.own cL ax.eK aL aB;have bs:=aL.aT ax.cells<|dX ax.eK ax.cells aB;have cb:=aL.aT (Wk.aT aR cZ) c4;have eD:=(eL.wk aR).md aL<|iW ax.eK aB;have e4:bz dl B 192 5 cq (F.bE++ [(⟨x,(if r.getD 0 []=dB then 2 else 1:Nat),(decide (r.getD 2 []= [89])),F.rules.length,n⟩:dy)]).length (oq<|F.bE++ [(⟨x,(if r.getD 0 []=dB then 2 else 1:Nat),(decide (r.getD 2 []= [89])),F.rules.length,n⟩:dy)]):=by rw [show oq (F.bE++ [(⟨x,(if r.getD 0 []=dB then 2 else 1:Nat),(decide (r.getD 2 []= [89])),F.rules.length,n⟩:dy)])=oq F.bE++ph (⟨x,(if r.getD 0 []=dB then 2 else 1:Nat),(decide (r.getD 2 []= [89])),F.rules.length,n⟩:dy) from by simp [oq],bL]; exact c8
 have bP:(fun w'=>Md (fun k=>V.v11.ownBlock=some k) a3 w') dl:=cS.trans' aL fun _ _ h=>h;refine ⟨bP,?_⟩;refine dH 15 aa aj (fun _=>nc aa) (fun _=>bP)<|dH 16 aa aj (fun _=>fa il aa) (fun _=>bP)<|dH 17 aa aj (fun _=>fa uR aa) (fun _=>bP)<|dU 18 aa aj aj<|dx Ji aa aa (v:=cq) (fy c8) bs (by show _ < 14; omega) fun a0 an b3=> ?_;have dS:=pY.B9 (x:=(⟨x,(if r.getD 0 []=dB then 2 else 1:Nat),(decide (r.getD 2 []= [89])),F.rules.length,n⟩:dy)) ax (ev.wk aR) (UE (c:=(⟨x,(if r.getD 0 []=dB then 2 else 1:Nat),(decide (r.getD 2 []= [89])),F.rules.length,n⟩:dy)) aO eX) aL e4 an b3;have ew:=dI.p9 bi bs an;have c0:=an.aT cb fun h=>by rw [h,bs] at cb; cases cb
 have eE:=eD.md an<|fT bs aB;have eg:=ep.trans<|Mw.of an (TF.eq (dN bs) aB) fun k hk=>hk ▸ ax.lo.1;refine eZ aj<|tn<|d5 _ _<|sq fun fF d6=>rg aa<|p (fa zR aa)<|p (ld bD aa<|(bg c0).trans aa)<|p mv<|nl<|tn<|d6 _ _<|aT<|lp (fun cy dt ai=> ∃ (i:Nat) (xs:List c7) (rows':List Rw) (bT:Nat) (I:fH) (R':iO),(i≤n)∧(jz [r.getD 0 [],r.getD 1 []] (gd F.kind F.aliases (⟨x,(if r.getD 0 []=dB then 2 else 1:Nat),(decide (r.getD 2 []= [89])),F.rules.length,n⟩:dy)) H.eof (group [r.getD 0 [],r.getD 1 []] (gd F.kind F.aliases (⟨x,(if r.getD 0 []=dB then 2 else 1:Nat),(decide (r.getD 2 []= [89])),F.rules.length,n⟩:dy)) H.eof n rows) xs (n - i) rows')∧(xs.length=i)∧(ei ai B H.fb H.mc {F with bE:=F.bE++ [(⟨x,(if r.getD 0 []=dB then 2 else 1:Nat),(decide (r.getD 2 []= [89])),F.rules.length,n⟩:dy)],rules:=F.rules++xs} I)∧(dI ai B H {F with bE:=F.bE++ [(⟨x,(if r.getD 0 []=dB then 2 else 1:Nat),(decide (r.getD 2 []= [89])),F.rules.length,n⟩:dy)],rules:=F.rules++xs} R' rows' bT seen)∧(lj {F with bE:=F.bE++ [(⟨x,(if r.getD 0 []=dB then 2 else 1:Nat),(decide (r.getD 2 []= [89])),F.rules.length,n⟩:dy)],rules:=F.rules++xs} rows' seen)∧(fW B H w ai)∧(ai.heap[J]? =some (.cells [bo x,.int .i64 ((if r.getD 0 []=dB then 2 else 1:Nat):Nat),.bool (decide (r.getD 2 []= [89])),.int .i64 (F.rules.length:Nat),.int .i64 (n:Nat)].toArray 192 (0,0)))∧(Tg ai cw 9 r.length (.slice ar r.length cr)<|r.map str)∧(Sl dt [(0,.pointer (some ⟨H.rb,0,none⟩)),(1,.slice ar r.length cr),(4,.pointer (some ⟨J,0,none⟩)),(102,.int .i64 (n:Nat)),(103,.int .i64 (i:Nat))])∧(n - i=cy)) _ ⟨0,[],rows,ln,{V with v11:=cq},R,ab,jz.start,aa,(by rw [eB]; exact dS),(by rw [eB]; exact ew),(⟨by simp only [bL,fu,gB]; omega,aF.sl,aF.row,aF.kd,aF.al⟩),eg,c0,eE,aa,aa⟩ ?_;rintro cy dt ai ⟨i,xs,rows',bT,I,R',hi,aS,fl,cA,ay,a7,cE,da,bm,fg,rfl⟩;refine bG fg<|sq fun fG d7=>rg aa<|p (lt aa aa)<|nl<|tn<|d7 _ _<|sq fun fI d8=>cd aa (fun eT=> ?_) fun eT=> ?_;refine aQ<|tn<|d8 _ _<|sq fun fw dY=>aT<|sq fun fx dZ=> ?_;have az:(fun w'=>Md (fun k=>k=H.rb) ai w') ai.drew:=(Md.refl _ _).drew;refine bY (fun w'=>Md (fun k=>k=H.rb) ai w') aa wide az<|hp 0 aa aj (fun _ _=>aX (.pointer<|some ⟨H.rb,0,none⟩) aa) az<|hp 1 aa aj (fun _ _=>aX (.slice ar r.length cr) aa) az<|hp 2 aa aj (fun _ _=>bc db aa aa ab<|aM.ok (bm.dp.2)<|cg ab) az<|hp 3 aa aj (fun w' A=>ld bX aa<|cM.get (i:=0) (bm.md A<|fT ay.cells aB).dp.2 ab) az<|hp 4 aa aj (fun _ _=>aX (.slice ar r.length cr) aa) az<|hp 5 aa aj (fun _ _=>bc db aa aa ab<|aM.ok (bm.dp.2)<|cg ab) az<|hp 6 aa aj (fun w' A=>ld bX aa<|cM.get (i:=1) (bm.md A<|fT ay.cells aB).dp.2 ab) az<|he 7 aa aj<|tc (L:= [str (r.getD 0 []),str (r.getD 1 [])]) gq aa aa aa aa fun dz cs fQ cH dG=> ?_;have ak:Wk ai cs:=iY cH.md;have cF:=cE.trans<|Wk.mw ak;have cN:(fun w'=>Md (fun k=>k=H.rb) ai w') cs:=az.trans' cH.md fun _ _ h=>h.elim;refine ⟨cN,?_⟩
 refine uZ 8 aa aj aa (eh Cu (Ec B H {F with bE:=F.bE++ [(⟨x,(if r.getD 0 []=dB then 2 else 1:Nat),(decide (r.getD 2 []= [89])),F.rules.length,n⟩:dy)],rules:=F.rules++xs} R' rows' bT seen [r.getD 0 [],r.getD 1 []] dz 2 _ _ cs (ay.wk ak) (Tg.EN dG aa) aa aB fun q co=>(a7.row q co).2.1) aa fun gi aC ey=> ?_) (fun c w' C aP O=>by
  obtain ⟨h1,h2⟩:=C;have hm:=cF.trans<|fW.rb (ay.wk ak) h2;rcases h1 with ⟨rfl,h3⟩ | ⟨bV,aZ,rest,rfl,h4,h3⟩;exact ⟨_,_,CX ah aY aV bx (aS.ends ab),h3,hm⟩;exact ⟨_,_,CX ah aY aV bx (aS.other ab h4),h3,hm⟩)
 obtain ⟨bV,aZ,rest,rfl,dd,⟨aD,bj⟩,hT15,hM15⟩:=ey;obtain ⟨dw,wv,rfl⟩:=hT15.slice;have aI:=(cA.wk ak).rb (ay.wk ak) hM15;have cG:=cF.trans<|fW.rb (ay.wk ak) hM15;have fc:aZ≠[]∧aZ.length≤70000∧∀ x∈aZ,x.length≤70000:=a7.row (bV,aZ)<|by simp
 have a6:=lj.qT a7;have eQ:=a7.len;simp only [cV,bL] at eQ;have eF:=(bm.wk ak).md hM15<|fT (ay.wk ak).cells aB;have cc:=hM15.aT (Wk.aT ak da) fun h=>by have h1:=(ay.wk ak).cells; rw [← h,Wk.aT ak da] at h1; cases h1
 have cO:(fun w'=>Md (fun k=>k=H.rb) ai w') aC:=cN.trans' hM15 fun _ _ h=>h;refine ⟨cO,?_⟩;refine hp 9 aa aj (fun _ _=>aE) cO<|hn aj<|tn<|dZ _ _<|sq fun fz d0=> ?_;have bv:¬(I.v12.ownBlock=some H.rb):=dX aI.dM bj.cells aB;have cn:¬(I.v12.ownBlock=some H.fb):=dX aI.dM aI.cells aB;have e0:¬(I.v12.ownBlock=some J):=dX aI.dM cc aB;have Y:(fun w'=>Md (fun k=>I.v12.ownBlock=some k) aC w') aC.drew:=(Md.refl _ _).drew;refine e5 (fun w'=>Md (fun k=>I.v12.ownBlock=some k) aC w') 21 aa wide Y<|dH 0 aa aj (fun _=>aX (.pointer<|some ⟨H.rb,0,none⟩) aa) (fun _=>Y)<|dH 1 aa aj (fun _=>nc aa) (fun _=>Y)<|dH 2 aa aj (fun _=>fa iU aa) (fun _=>Y)<|k8 3 aa aj (fun w' A=>ld gF aa<|Md.aW A ((bg bj.cells).trans aa) bv) Y<|dH 4 aa aj (fun _=>aX (.pointer<|some ⟨H.rb,0,none⟩) aa) (fun _=>Y)<|dH 5 aa aj (fun _=>nc aa) (fun _=>Y)<|dH 6 aa aj (fun _=>fa iU aa) (fun _=>Y)<|k8 7 aa aj (fun w' A=>ld gF aa<|Md.aW A ((bg bj.cells).trans aa) bv) Y<|dH 8 aa aj (fun _=>nc aa) (fun _=>Y)<|dH 9 aa aj (fun _=>fa il aa) (fun _=>Y)<|dH 10 aa aj (fun _=>fa pC aa) (fun _=>Y)<|k8 11 aa aj (fun w' A=>ld np aa<|Md.aW A ((bg aI.cells).trans aa) cn) Y<|dH 12 aa aj (fun _=>aX (.pointer<|some ⟨H.rb,0,none⟩) aa) (fun _=>Y)<|k8 13 aa aj (fun w' A=>cW wh aa (aa) fun j eY=>bS.bB ⟨_,Md.aT A cc e0⟩ j) Y<|dH 14 aa aj (fun _=>mv) (fun _=>Y) ?_;refine Mb 15 aa aj aa (eh Sp (AE B H {F with bE:=F.bE++ [(⟨x,(if r.getD 0 []=dB then 2 else 1:Nat),(decide (r.getD 2 []= [89])),F.rules.length,n⟩:dy)],rules:=F.rules++xs} I aD rest bV seen (⟨x,(if r.getD 0 []=dB then 2 else 1:Nat),(decide (r.getD 2 []= [89])),F.rules.length,n⟩:dy) aZ B dw wv aC.drew (aI.wk (Md.refl _ _).drew) (bj.wk (Md.refl _ _).drew) a6 (by show (if r.getD 0 []=dB then 2 else 1)=1∨(if r.getD 0 []=dB then 2 else 1)=2; split <;> simp) (hT15.wk (Md.refl _ _).drew) fc.2) aa fun gh fq ex=> ?_) fun c w' C aP O=>by obtain ⟨e,he,h,h2⟩:=C; exact ⟨_,_,CX ah aY aV bx (aS.bad ab dd he),h,cG.trans<|Wk.mw<|iY h2⟩
 obtain ⟨q,co,e9,⟨vn,rfl,cY⟩,bI⟩:=ex;obtain ⟨a4,a5,rfl⟩:=cY.slice;have bI:=iY bI;have cP:(fun w'=>Md (fun k=>I.v12.ownBlock=some k) aC w') fq:=Md.mono bI fun _ _ h=>h.elim;refine ⟨cP,?_⟩;refine gS 16 aa aj<|kY AJ aa aa aa fun fJ fr fO b6 dF=> ?_;have a8:=bI.trans b6.md;have ac:=aI.wk a8;have cK:=bj.wk a8;have eG:=eF.wk a8;have c1:=Wk.aT a8 cc;have eN:=cY.wk b6.md;have ga:=(dO.1 cK.cells).1;have cQ:(fun w'=>Md (fun k=>I.v12.ownBlock=some k) aC w') fr:=cP.trans' b6.md fun _ _ h=>h.elim;refine ⟨cQ,?_⟩;refine gS 17 aa aj<|ap AJ (ac.dM) aa ab aa (aM.ec dF) (aa) (aa) (by simp only [bL]; omega) (by simp only [bL]; omega) fun v131 dg c5 aJ ge fZ=> ?_;have ej:=(cG.trans<|Wk.mw a8).trans<|Mw.of aJ (TF.own ac.dM aB) fun k hk=>(dQ ac.dM hk).1;have eC:=dI.own cK ac.dM aJ aB;have bt:=aJ.aT ac.cells<|dX ac.dM ac.cells aB;have ce:=aJ.aT c1<|dX ac.dM c1 aB;have eH:=eG.md aJ<|iW ac.dM aB;have e2:bz dg B 134 7 v131 ((F.rules++xs)++ [q]).length (iG<|((F.rules++xs)++ [q]).zip<|I.rn++ [.slice a4 q.next.length a5]):=by
  have fo:(F.rules++xs).length=I.rn.length:=by have :=ac.nx.1; rw [fP] at this; exact this.symm
  rw [List.zip_append fo,show iG ((F.rules++xs).zip I.rn++ [q].zip [.slice a4 q.next.length a5])=iG ((F.rules++xs).zip I.rn)++e6 (q,.slice a4 q.next.length a5) from by simp [iG],bL];exact c5
 have bO:(fun w'=>Md (fun k=>I.v12.ownBlock=some k) aC w') dg:=cQ.trans' aJ fun _ _ h=>h;refine ⟨bO,?_⟩;refine dH 18 aa aj (fun _=>nc aa) (fun _=>bO)<|dH 19 aa aj (fun _=>fa il aa) (fun _=>bO)<|dH 20 aa aj (fun _=>fa pC aa) (fun _=>bO)<|dU 21 aa aj aj<|dx I6 aa aa (v:=v131) (fy c5) bt (by show _ < 14; omega) fun a0 an b3=> ?_;have dV:=ei.yV (x:=q) (vx:= .slice a4 q.next.length a5) ac eN aJ e2 an b3;have aN:=dI.p9 eC bt an;have c2:=an.aT ce fun h=>by rw [h,bt] at ce; cases ce
 have eI:=eH.md an<|fT bt aB;have ek:=ej.trans<|Mw.of an (TF.eq (dN bt) aB) fun k hk=>hk ▸ ac.lo.1;refine eZ aj<|tn<|d0 _ _ ?_;have au:(fun w'=>Md (fun k=>aD.vn.ownBlock=some k) a0 w') a0.drew:=(Md.refl _ _).drew;refine e5 (fun w'=>Md (fun k=>aD.vn.ownBlock=some k) a0 w') 13 aa wide au<|dH 0 aa aj (fun _=>aX (.pointer<|some ⟨H.rb,0,none⟩) aa) (fun _=>au)<|dH 1 aa aj (fun _=>aX (.pointer<|some ⟨H.rb,0,none⟩) aa) (fun _=>au)<|dH 2 aa aj (fun _=>nc aa) (fun _=>au)<|dH 3 aa aj (fun _=>fa DE aa) (fun _=>au)<|k8 4 aa aj (fun w' A=>ld qO aa<|Md.aW A ((bg aN.cells).trans aa)<|dX aN.on aN.cells aB) au<|dH 5 aa aj (fun _=>aX (.pointer<|some ⟨H.rb,0,none⟩) aa) (fun _=>au)<|dH 6 aa aj (fun _=>nc aa) (fun _=>au)<|dH 7 aa aj (fun _=>fa xh aa) (fun _=>au)<|k8 8 aa aj (fun w' A=>ld bD aa<|Md.aW A ((bg aN.cells).trans aa)<|dX aN.on aN.cells aB) au<|gS 9 aa aj<|gz lG aa aa fun fK dh fR er dJ=> ?_;have aG:=iY er.md;have ae:=aN.wk aG;have cC:=dV.wk aG;have gb:=(dO.1 ae.cells).1;have cR:(fun w'=>Md (fun k=>aD.vn.ownBlock=some k) a0 w') dh:=Md.mono aG fun _ _ h=>h.elim;refine ⟨cR,?_⟩;refine gS 10 aa aj<|ap lG (ae.on) aa ab aa (aM.ec dJ) (aa) (aa) (by simp only [bL]; omega) (by simp only [bL]; omega) fun v145 bZ c6 aK gf f1=> ?_;have em:=(ek.trans<|Wk.mw aG).trans<|Mw.of aK (TF.own ae.on aB) fun k hk=>(dQ ae.on hk).1;have cX:TF dh [5] (fun k=>aD.vn.ownBlock=some k):=TF.own ae.on aB;have cD:=cC.md aK cX aB fun h=>by obtain ⟨f,ck,_⟩:=cC.cm; exact cX.no (eR ck) aB h
 have bu:=aK.aT ae.cells<|dX ae.on ae.cells aB;have ch:=aK.aT (Wk.aT aG c2)<|dX ae.on (Wk.aT aG c2) aB;have eM:=(eI.wk aG).md aK<|iW ae.on aB;have e3:bz bZ B 3 1 v145 ((F.rules++xs)++ [q]).length (((F.rules++xs)++ [q]).map fun r=>gP .i64 (r.line:Nat)):=by
  rw [gW,bL];show bz bZ B 3 1 v145 _ (_++ [gP .i64 (q.line:Nat)]);rw [e9];exact c6
 have b9:(fun w'=>Md (fun k=>aD.vn.ownBlock=some k) a0 w') bZ:=cR.trans' aK fun _ _ h=>h;refine ⟨b9,?_⟩;refine dH 11 aa aj (fun _=>nc aa) (fun _=>b9)<|dH 12 aa aj (fun _=>fa DE aa) (fun _=>b9)<|dU 13 aa aj aj<|dx Jf aa aa (v:=v145) (fy c6) bu (by show _ < 7; omega) fun bW bb dE=> ?_;have cU:TF bZ [169] (fun k=>k=H.rb):=TF.eq (dN bu) aB;have dW:=cD.md bb cU aB fun h=>by obtain ⟨f,ck,_⟩:=cD.cm; exact cU.no (eR ck) aB h
 exact eZ aj<|bn<|tn<|dY _ _<|rg aa<|p (ad aa aa<|cB ab)<|p mv<|nl<|tn<|⟨_,ab,i+1,xs++ [q],rest,bV,{I with v12:=v131,rn:=I.rn++ [.slice a4 q.next.length a5]},{aD with vn:=v145},ab,(by rw [show n - (i+1)=n - i - 1 by omega]; exact aS.step ab dd co),(by rw [bL,fl]; rfl),(by rw [← eS]; exact dW),(by rw [← eS]; exact dI.Z9 (q:=q) ae aK e3 bb dE aa fun _=>rfl),(⟨by simp only [bL,fu]; omega,a6.sl,a6.row,a6.kd,a6.al⟩),(em.trans<|Mw.of bb (TF.eq (dN bu) aB) fun k hk=>hk ▸ ae.lo.1),(bb.aT ch fun h=>by rw [h,bu] at ch; cases ch),(eM.md bb<|fT bu aB),aa,aa⟩
 refine ext<|te _<|te _<|be<|kg<|f0 aa ?_;rw [show n - i=0 by omega] at aS;exact ⟨aa,_,rows',bT,T6 ah aY aV bx aS.done,⟨I,R',cA,ay,a7⟩,cE⟩
end Go.Hb.oV
end
section
namespace Go.Hb
open Go.Hb.oV Go.Hb.oX
def uH:dy:=⟨0,0,false,0,0⟩
theorem WG {x:Nat} :∀ {cs:List dy} {i:Nat},cs.findIdx? (fun c=>decide (c.flag=x))=some i→∃ c,cs[i]? =some c∧ej cs x=some c:=by
 intro cs
 induction cs with
 | nil=>intro i h; simp at h
 | cons a l E=>
   intro i h;rw [List.findIdx?_cons] at h;unfold ej;rw [PZ];by_cases A:a.flag=x
   · simp only [A,decide_true,if_true] at h ⊢;cases h;exact ⟨a,aa,aa⟩
   · simp only [A,decide_false] at h ⊢;simp only [Bool.false_eq_true,if_false,Option.map_eq_some_iff] at h;obtain ⟨j,C,rfl⟩:=h;obtain ⟨c,h1,h2⟩:=E C;exact ⟨c,by simpa using h1,h2⟩
theorem MY {F:aU} {x:Nat} (h:x=F.sp.getD 0 0):nH F x=true :=by unfold nH; rw [decide_eq_true h]; rfl
theorem MZ {F:aU} {x:Nat} (h:(ej F.bE x).isSome=true) (hk:((ej F.bE x).getD uH).kind=2):nH F x=true :=by
 unfold nH;obtain ⟨c,A⟩:=nX.1 h;rw [A] at hk ⊢;simp only [BQ] at hk;simp [hk]
theorem Au {F:aU} {x:Nat} (A:x≠F.sp.getD 0 0) (h:(ej F.bE x).isSome=true) (hk:((ej F.bE x).getD uH).kind≠2):nH F x=false :=by
 unfold nH;obtain ⟨c,C⟩:=nX.1 h;rw [C] at hk ⊢;simp only [BQ] at hk;rw [decide_eq_false A];simp [hk]
theorem Av {F:aU} {x:Nat} (A:x≠F.sp.getD 0 0) (h:(ej F.bE x).isSome=false):nH F x=false :=by
 unfold nH;rw [decide_eq_false A];cases hc:ej F.bE x with
 | none=>rfl
 | some c=>rw [hc] at h; cases h
theorem rN {F:aU} {q:c7} {j:Nat} (A:j < q.next.length) (h:nH F (q.next.getD j 0)=false):o5 F q=true :=by
 unfold o5;rw [List.any_eq_true];exact ⟨_,eb A,by rw [h]; rfl⟩
theorem Hv {F:aU} {q:c7} (h:∀ j,j < q.next.length→nH F (q.next.getD j 0)=true):o5 F q=false :=by
 unfold o5;rw [List.any_eq_false];intro x C;obtain ⟨j,A,rfl⟩:=mR 0 C;rw [h j A]; simp
theorem rY {p:c7→Bool} {q:c7} :∀ {l:List c7} {i:Nat},(∀ j A,j < i→l[j]? =some A→p A=false)→l[i]? =some q→p q=true→l.find? p=some q:=by
 intro l
 induction l with
 | nil=>intro i _ h; simp at h
 | cons a l G=>
   intro i C hi hp;rw [PZ];cases i with
   | zero=>simp only [vP,Option.some.injEq] at hi; subst hi; rw [hp]
   | succ i=>
     rw [C 0 a ab rfl];exact G (i:=i) (fun j A I E=>C (j+1) A ab<|by simpa using E) (by simpa using hi) hp
theorem Kf {p:c7→Bool} {l:List c7} (h:∀ j C,j < l.length→l[j]? =some C→p C=false):l.find? p=none:=by
 rw [GI];intro q E;obtain ⟨j,A⟩:=tZ E;rw [h j q (fL.1 A).1 A]; simp
theorem WI {x:Nat} {cs:List dy} (h:cs.findIdx? (fun c=>decide (c.flag=x))=none):ej cs x=none:=by
 rw [P0] at h;unfold ej;rw [GI];intro c A;simpa using h c A
theorem Dj (B fb mc:Nat) (F:aU) (V:fH) (x:Nat) (w:World) (C:ei w B fb mc F V) (aP:F.bE.length≤70000):
 bm aw 136 (bh [aV fb,bo x]) w (fun v w'=>v= .tuple #[.agg (ph<|(ej F.bE x).getD uH).toArray,.bool (ej F.bE x).isSome]∧Wk w w'):=by
 obtain ⟨ao,kF,ac⟩:=cJ C.eK;have Y:=C.eK;rw [ac] at Y;have aA:Hb.aW w.heap fb 11=some (.slice ao F.bE.length kF):=by rw [← ac]; exact (bg C.cells).trans rfl
 obtain ⟨f,aD,aF⟩:=C.cm;obtain ⟨iv,ob,aG,aI,J⟩:∃ (iv:Nat) (ob:Bool),(f<|bo x).getD (.int .i64 0)=ak iv∧(f<|bo x).isSome=ob∧((ob=false∧ej F.bE x=none)∨(ob=true∧∃ c,F.bE[iv]? =some c∧ej F.bE x=some c)):=by
  rw [aF x];cases hfi:F.bE.findIdx? (fun c=>decide (c.flag=x)) with
  | none=>exact ⟨0,false,rfl,rfl,.inl ⟨rfl,WI hfi⟩⟩
  | some i=>exact ⟨i,true,rfl,rfl,.inr ⟨rfl,WG hfi⟩⟩
 refine enter func136 aa ntmps136 aa<|ag fun ae=>e<|al vE fun aL aR aN A I=>ay<|ae<|az fun ah=>az fun ai=>rg aa<|au (aV fb)<|p (ly x9 aa aa)<|nl<|ai<|cf (aa)<|aQ<|ah<|ag fun aj=>au (aV fb)<|p (nc aa)<|p (fa KI aa)<|p (ld wg aa<|Wk.aW A.md<|(bg C.cells).trans aa)<|au (bo x)<|p (Mi tI oO tt (aD.wk A.md) aa aa (⟨_,aa⟩) (aG)<|aI)<|p mv<|p (xt aa aa)<|p (xt aa aa)<|p aE<|ay<|aj<|az fun am=>ag fun an=>p mv<|p (no aa)<|nl<|an<|cb aa (fun G=> ?_) fun G=> ?_;have aJ:ob=false :=by simpa using G
 have aC:ej F.bE x=none:=by rcases J with ⟨_,h⟩ | ⟨h,_⟩; exact h; rw [aJ] at h; cases h
 exact ag fun E=>p (dj (ps:= []) (L:= [.int .u16 0,.int .i64 0,.bool false,.int .i64 0,.int .i64 0]) FE aa<|aa)<|e<|dt th aa aa aa aa (I) (by simp) fun aS av ap=>ay<|E<|rt<|tr<|eN aa (ed (cs:=ph uH) aa wh aa fun j aH=>ap.bB j) eD<|⟨by rw [aC]; rfl,A.md.trans' av fun k hk h=>by omega⟩
 have aK:ob=true :=by simpa using G
 obtain ⟨c,O,aB⟩:∃ c,F.bE[iv]? =some c∧ej F.bE x=some c:=by rcases J with ⟨h,_⟩ | ⟨_,h⟩; rw [aK] at h; cases h; exact h
 have aO:=(fL.1 O).1;have Z:=a7 Y A.md;exact aQ<|am<|ag fun E=>au (aV fb)<|p (nc aa)<|p (fa il aa)<|p (fa uR aa)<|p (ld yR aa<|Wk.aW A.md aA)<|p mv<|p (bc Wt aa aa ab<|aM.ok ((ba Z).2) fun h=>by have :=congrArg j7 h; rw [show (oq F.bE).length=F.bE.length*5 from mL (f:=ph) (m:=5) (fun _=>rfl) _] at this; simp at this; omega)<|p (cW wh aa (aa)<|fC (f:=ph) (m:=5) (fun _=>rfl) (ba Z).2 O)<|e<|dt th aa aa aa aa (I) (by simp) fun aT ax aq=>ay<|E<|rt<|eN aa (ed (cs:=ph c) aa wh aa fun j aH=>aq.bB j) eD<|⟨by rw [aB]; rfl,A.md.trans' ax fun k hk h=>by omega⟩
theorem TY (B:Nat) (H:dD) (F:aU) (rows:List Rw) (ln:Nat) (seen:List Tx) (w:World) (bE:St w B H F rows ln seen) (bP:∀ q∈F.rules,q.next.length≤64):
 fX aw 76 (bh [.pointer (some ⟨H.rb,0,none⟩)]) w (fun v w'=>v= .tuple #[]∧F.rules.find? (o5 F)=none∧(∃ V R' av,ei w' B H.fb H.mc F V∧dI w' B H F R' rows av seen)∧fW B H w w') (fun c w'=> ∃ q,F.rules.find? (o5 F)=some q∧c=jS 45 q.line 118∧fW B H w w'):=by
 obtain ⟨V,R,O,ap,a5⟩:=bE;obtain ⟨a12,lu,aL⟩:=cJ O.dM;have bR:=O.dM;rw [aL] at bR;have bJ:Hb.aW w.heap H.fb 12=some (.slice a12 F.rules.length lu):=by rw [← aL]; exact (bg O.cells).trans rfl
 obtain ⟨vr,vs,vn⟩:=R;obtain ⟨am,cv,bX⟩:=cJ ap.on;obtain rfl :vn= .slice am F.rules.length cv:=bX;have cj:=a5.len;have ck:=ap.lo;refine kH func76 aa ntmps76 aa<|sq fun b1 bi=>rg aa<|p (aX (.pointer<|some ⟨H.rb,0,none⟩) aa)<|p (nc aa)<|p (fa iU aa)<|p (ld gF aa<|(bg ap.cells).trans aa)<|p (nc aa)<|p (fa il aa)<|p (fa pC aa)<|p (ld np aa<|bJ)<|p (bM sy aa aa)<|p mv<|nl<|tn<|bi _ _<|aT<|lp (fun ae a3 ak=> ∃ (i av:Nat),(i≤F.rules.length)∧(∀ j q,j < i→F.rules[j]? =some q→o5 F q=false)∧(ei ak B H.fb H.mc F V)∧(dI ak B H F ⟨vr,vs,.slice am F.rules.length cv⟩ rows av seen)∧(fW B H w ak)∧(Sl a3 [(0,.pointer (some ⟨H.rb,0,none⟩)),(15,.slice a12 F.rules.length lu),(16,.int .i64 (F.rules.length:Nat)),(17,.int .i64 (i:Nat))])∧(F.rules.length - i=ae)) _ ⟨0,ln,ab,(fun j q aV=>by omega),O,ap,(Md.refl _ _),aa,aa⟩ ?_;rintro ae a3 ak ⟨i,av,hi,J,ao,aF,aO,bU,rfl⟩;refine bG bU<|sq fun b5 bl=>rg aa<|p (lt aa aa)<|nl<|tn<|bl _ _<|sq fun b6 bm=>cd aa (fun bK=> ?_) fun bK=> ?_;refine aQ<|tn<|bm _ _<|sq fun b7 bp=>aT<|sq fun b8 bq=> ?_;have aI:=ao.dM;rw [aL] at aI;have aS:i < F.rules.length:=ab;obtain ⟨vn,bW,aH⟩:=eL.get ao.nx (i:=i)<|by rw [fP]; exact aS
 obtain ⟨q,C⟩:∃ q,F.rules[i]? =some q:=⟨_,cx aS⟩
 have bT:(F.rules.map (·.next)).getD i []=q.next:=by rw [cX,gx,C]; rfl
 rw [bT] at aH;have cn:=bP q<|gC C;obtain ⟨ay,az,rfl⟩:=aH.slice;have aY:(F.rules.zip V.rn)[i]? =some (q,.slice ay q.next.length az):=by rw [jW]; exact ⟨C,bW⟩
 have aZ:(iG<|F.rules.zip V.rn).length=(F.rules.zip V.rn).length*7:=mL (f:=e6) (m:=7) (fun _=>rfl) _;have bO:(F.rules.map fun r=>gP .i64 (r.line:Nat))[i]? =some (.int .i64 (q.line:Nat)):=by rw [gx,C]; rfl
 refine rg aa<|p (aX (.int .i64 (i:Nat)) aa)<|p (bc ny aa aa ab<|aM.ok ((ba aI).2) (fun h=>by rw [h] at aZ; have h2:0=(F.rules.zip V.rn).length*7:=aZ; have h3:=(fL.1 aY).1; omega)) ?_;refine p (cW lS aa (aa)<|fC (f:=e6) (m:=7) (fun _=>rfl) (ba aI).2 aY)<|e<|al rp fun ce cq ch aR a7=> ?_
 skip
 refine p (cE (.int .i64 (i:Nat)) aa)<|e<|dt po aa aa aa aa (a7) (by simp) fun b0 bv a6=> ?_;have an:Wk ak b0:=aR.md.trans' bv fun k hk h=>by omega
 have bd:=ao.wk an;have E:=aF.wk an;have co:=aR.size;have cm:=(dO.1 aF.cells).1;refine nl<|tn<|bq _ _<|sq fun b9 br=>rg aa<|p (aX (.pointer<|some ⟨H.rb,0,none⟩) aa)<|p (aX (.pointer<|some ⟨H.rb,0,none⟩) aa)<|p (nc aa)<|p (fa DE aa)<|p (ld qO aa<|(bg E.cells).trans aa)<|p (aX (.int .i64 (i:Nat)) aa)<|p (bc ke aa aa ab<|aM.ok ((ba E.on).2)<|by simp; intro h; rw [h] at C; simp at C)<|p (ld bD aa<|aM.gY (ba E.on).2 bO)<|p (nc aa)<|p (fa xh aa)<|e<|dx gR aa aa (v:= .int .i64 (q.line:Nat)) aa E.cells (by show _ < 7; decide) fun cu ah bb=> ?_;have bC:=E.dT (R':=⟨vr,vs,.slice am F.rules.length cv⟩) (ln':=q.line) ah bb rfl E.rws E.rt;have bf:=bd.rb E ah;have bI:=ah.B a6 fun h=>by omega
 have bF:=(aH.wk an).md ah<|fT E.cells aB;have bx:=(aO.trans<|Wk.mw an).trans<|fW.rb E ah;refine nl<|tn<|br _ _<|sq fun ca bs=>rg aa<|p (fa r4 aa)<|p (ld od aa<|(bI.aW 6).trans aa)<|p (bM qn aa aa)<|p mv<|nl<|tn<|bs _ _<|aT<|lp (fun ae a4 ac=> ∃ (j:Nat),(j≤q.next.length)∧(∀ aj,aj < j→nH F (q.next.getD aj 0)=true)∧(ei ac B H.fb H.mc F V)∧(dI ac B H F ⟨vr,vs,.slice am F.rules.length cv⟩ rows q.line seen)∧(fW B H w ac)∧(Tg ac B 95 q.next.length (.slice ay q.next.length az)<|q.next.map bo)∧(Sl a4 [(0,.pointer (some ⟨H.rb,0,none⟩)),(15,.slice a12 F.rules.length lu),(16,.int .i64 (F.rules.length:Nat)),(17,.int .i64 (i:Nat)),(33,.slice ay q.next.length az),(34,.int .i64 (q.next.length:Nat)),(35,.int .i64 (j:Nat))])∧(q.next.length - j=ae)) _ ⟨0,ab,(fun aj bN=>by omega),bf,bC,bx,bF,aa,aa⟩ ?_;rintro ae a4 ac ⟨j,aV,aJ,aC,aG,aP,aq,bV,rfl⟩;refine bG bV<|sq fun cb bt=>rg aa<|p (lt aa aa)<|nl<|tn<|bt _ _<|sq fun cc bu=>cd aa (fun bL=> ?_) fun bL=> ?_;refine aQ<|tn<|bu _ _<|sq fun b2 aD=>aT<|sq fun b3 bj=> ?_;have bY:(q.next.map bo)[j]? =some (bo<|q.next.getD j 0):=by rw [gx,cX,cx (by omega :j < q.next.length)]; rfl
 refine rg aa<|p (bc cy aa aa ab<|aM.ok (aq.dp.2)<|cg ab)<|p (ld du aa<|aM.gY aq.dp.2 bY)<|p aE<|nl<|tn<|bj _ _<|sq fun b4 bk=>rg aa<|p (aX (.pointer<|some ⟨H.rb,0,none⟩) aa)<|p (nc aa)<|p (fa iU aa)<|p (ld gF aa<|(bg aG.cells).trans aa)<|p mv<|e<|cl Cm (Dj B H.fb H.mc F V (q.next.getD j 0) _ aC ab) aa fun v45 cs bB=> ?_;obtain ⟨rfl,aN⟩:=bB;have cp:=aN.size;refine p mv<|p (xt aa aa)<|p (xt aa aa)<|e<|al vE fun cf ct ci bz a8=>e<|dt th aa aa aa aa (a8) (by simp) fun ax bw a9=> ?_;have ag:Wk ac ax:=(aN.trans bz.md).trans' bw fun k hk h=>by omega
 have aA:=aC.wk ag;have Z:=aG.wk ag;have G:=aP.trans<|Wk.mw ag;refine p aE<|nl<|tn<|bk _ _<|rg aa<|p (aX (.pointer<|some ⟨H.rb,0,none⟩) aa)<|p mv<|p (aX (.pointer<|some ⟨H.rb,0,none⟩) aa)<|p (nc aa)<|p (fa iU aa)<|p (ld gF aa<|(bg Z.cells).trans aa)<|p (nc aa)<|p (fa il aa)<|p (fa zJ aa)<|p (kJ wm aa aa ab)<|p (ld du aa<|(bg aA.cells).trans aa)<|p (bQ aa aa)<|p mv<|gs (t:=60) aa (fun Y=> ?_) fun Y=> ?_;refine sk aa aa aa aa<|sk aa aa aa aa<|AI aa aa aa<|AI aa aa aa<|AI aa aa aa<|sk aa aa aa aa<|p (bH aa) ?_;refine eP aa (eh jc (jj H.rb q.line _ 118 ax Z.dC aB) aa fun a0 a1 ai=> ?_) (fun c w' A a2 O=>by
  first
   | exact absurd A.2.1 aB
   | exact ⟨q,rY J C (rN (j:=j) ab<|Au (fun h=>Y<|by rw [h]) I<|by have :=of_decide_eq_false A.2.1; omega),A.1,by rw [A.2.2]; exact G⟩
   | exact ⟨q,rY J C (rN (j:=j) ab<|Av (fun h=>Y<|by rw [h])<|by simpa using I),A.1,by rw [A.2.2]; exact G⟩)
 obtain ⟨rfl,au,rfl⟩:=ai;exact nl<|bn<|tn<|aD _ _<|rg aa<|p (ad aa aa<|cB ab)<|p mv<|nl<|tn<|⟨_,ab,j+1,ab,(fun k hk=>by rcases fM k j with h | h <;> first | exact aJ k h | (rw [show k=j by omega]; exact MY ab)),aA,Z,G,(aq.wk ag),aa,aa⟩
 refine pg aa aa aa mv<|pg aa aa aa mv<|gb (t:=62) aa (fun I=> ?_) fun I=> ?_;refine pg aa aa aa (fa xj aa)<|pg aa aa aa (ld bD aa<|(a9.aW 1).trans aa)<|pg aa aa aa (bQ aa aa)<|pg aa aa aa (bH aa)<|p (bA aa) ?_;refine eP aa (eh jc (jj H.rb q.line _ 118 ax Z.dC aB) aa fun a0 a1 ai=> ?_) (fun c w' A a2 O=>by
  first
   | exact absurd A.2.1 aB
   | exact ⟨q,rY J C (rN (j:=j) ab<|Au (fun h=>Y<|by rw [h]) I<|by have :=of_decide_eq_false A.2.1; omega),A.1,by rw [A.2.2]; exact G⟩
   | exact ⟨q,rY J C (rN (j:=j) ab<|Av (fun h=>Y<|by rw [h])<|by simpa using I),A.1,by rw [A.2.2]; exact G⟩)
 obtain ⟨rfl,au,rfl⟩:=ai;exact nl<|bn<|tn<|aD _ _<|rg aa<|p (ad aa aa<|cB ab)<|p mv<|nl<|tn<|⟨_,ab,j+1,ab,(fun k hk=>by rcases fM k j with h | h <;> first | exact aJ k h | (rw [show k=j by omega]; exact MZ I<|by have :=of_decide_eq_true au; omega)),aA,Z,G,(aq.wk ag),aa,aa⟩
 refine sk aa aa aa aa<|sk aa aa aa aa<|sk aa aa aa aa<|pg aa aa aa (bA aa)<|p (bA aa) ?_;refine eP aa (eh jc (jj H.rb q.line _ 118 ax Z.dC aB) aa fun a0 a1 ai=> ?_) (fun c w' A a2 O=>by
  first
   | exact absurd A.2.1 aB
   | exact ⟨q,rY J C (rN (j:=j) ab<|Au (fun h=>Y<|by rw [h]) I<|by have :=of_decide_eq_false A.2.1; omega),A.1,by rw [A.2.2]; exact G⟩
   | exact ⟨q,rY J C (rN (j:=j) ab<|Av (fun h=>Y<|by rw [h])<|by simpa using I),A.1,by rw [A.2.2]; exact G⟩)
 obtain ⟨rfl,au,rfl⟩:=ai;exact nl<|bn<|tn<|aD _ _<|rg aa<|p (ad aa aa<|cB ab)<|p mv<|nl<|tn<|absurd au aB;exact ext<|te _<|te _<|be<|bn<|tn<|bp _ _<|rg aa<|p (ad aa aa<|cB ab)<|p mv<|nl<|tn<|⟨_,ab,i+1,q.line,ab,(fun k bZ hk aK=>by rcases fM k i with h | h <;> first | exact J k bZ h aK | (rw [show k=i by omega,C] at aK; cases aK; exact Hv fun aj bN=>aJ aj ab)),aC,aG,aP,aa,aa⟩
 refine ext<|te _<|te _<|be<|kg<|f0 aa ?_;exact ⟨aa,Kf (fun j q aV bS=>J j q ab bS),⟨V,_,_,ao,aF⟩,aO⟩
end Go.Hb
end
namespace Go.Hb
def Nx (F:aU):Prop :=(∀ l∈F.aliases,l.length≤64)∧∀ q∈F.rules,q.next.length≤64
theorem D2 {α:Type} {hd:List Tx} {rd:Nat→List Tx→Except Nat α} {eof:Nat} :∀ (n:Nat) (rows:List Rw) (r:List α×List Rw),group hd rd eof n rows= .ok r→∀ x∈r.1,∃ ln row,rd ln row= .ok x:=by
 intro n
 induction n with
 | zero=>intro rows r h; simp only [group,tO] at h; subst h; intro x A; cases A
 | succ n C=>
   intro rows r h;cases rows with
   | nil=>simp [group] at h
   | cons q rows=>
     obtain ⟨ln,row⟩:=q;simp only [group] at h;split at h
     · cases h
     · cases hr:rd ln row with
       | error e=>rw [hr] at h; cases h
       | ok y=>
         rw [hr] at h;simp only at h;cases hg:group hd rd eof n rows with
         | error e=>rw [hg] at h; cases h
         | ok E=>
           rw [hg] at h;simp only [tO] at h;subst h;intro x A;rcases fG.1 A with A | A
           · exact ⟨ln,row,by rw [A]; exact hr⟩
           · exact C rows E hg x A
theorem KX {kind:Nat} {s:Tx} {l:List Nat} (h:lz kind s= .ok l):l.length≤64:=by
 unfold lz at h;split at h
 · cases h
 · rename_i A;cases h;exact (KV<|jM.1 A).1
theorem QV {kind ln:Nat} {row:List Tx} {l:List Nat} (h:kX kind ln row= .ok l):l.length≤64:=by
 unfold kX at h;split at h
 · cases h
 · exact KX h
theorem zC {kind:Nat} {al:List (List Nat)} {s:Tx} {l:List Nat} (A:∀ l∈al,l.length≤64) (h:gA kind al s= .ok l):l.length≤64:=by
 unfold gA at h;split at h
 · exact KX h
 · split at h
   · cases h
   · split at h
     · cases h
     · cases h;rename_i n _ _;rw [cX];cases hg:al[n - 1]? with
       | none=>simp
       | some x=>exact A x<|gC hg
theorem abI {kind ln:Nat} {al:List (List Nat)} {c:dy} {row:List Tx} {q:c7} (C:∀ l∈al,l.length≤64) (h:gd kind al c ln row= .ok q):q.next.length≤64:=by
 unfold gd at h;split at h
 · cases h
 · split at h
   · cases h
   · split at h
     · cases h
     · split at h
       · cases h
       · rename_i nx A;split at h
         · cases h
         · cases h;unfold lD at A;split at A
           · split at A
             · cases A
             · exact zC C A
           · cases A; simp
theorem z7 {eof ln:Nat} {F F':aU} {hs:List Tx} {rows rows':List Rw} {row:List Tx} (h:Nx F) (A:cH eof F hs rows ln row= .ok (F',rows')):Nx F':=by
 unfold cH at A;split at A
 · unfold kr at A;split at A
   · cases A
   · cases A; exact h
 · split at A
   · unfold kM at A;split at A
     · cases A
     · split at A
       · cases A
       · cases A; exact h
   · split at A
     · unfold mU at A;split at A
       · cases A
       · cases A; exact h
     · split at A
       · unfold mZ at A;split at A
         · cases A
         · cases A; exact h
       · split at A
         · unfold k9 at A;split at A
           · cases A
           · split at A
             · cases A
             · cases A; exact h
         · split at A
           · unfold kq at A;split at A
             · cases A
             · split at A
               · cases A
               · cases A; exact h
           · split at A
             · unfold j9 at A;split at A
               · cases A
               · split at A
                 · cases A
                 · split at A
                   · cases A
                   · rename_i r G;cases A;refine ⟨fun l C=> ?_,h.2⟩;rcases jm.1 C with C | C
                     · exact h.1 l C
                     · obtain ⟨_,_,h2⟩:=D2 _ _ _ G l C;exact QV h2
             · unfold ic at A;split at A
               · cases A
               · split at A
                 · cases A
                 · split at A
                   · cases A
                   · split at A
                     · cases A
                     · split at A
                       · cases A
                       · rename_i r G;cases A;refine ⟨h.1,fun q E=> ?_⟩;rcases jm.1 E with E | E
                         · exact h.2 q E
                         · obtain ⟨_,_,h2⟩:=D2 _ _ _ G q E;exact abI h.1 h2
theorem Yl {eof ln:Nat} {F F':aU} {hs:List Tx} {rows rows':List Rw} {row:List Tx} (C:row.getD 0 []∉ez) (A:cH eof F hs rows ln row= .ok (F',rows')):F'.sp=F.sp:=by
 unfold cH at A;rw [if_neg C] at A;unfold kM mU mZ k9 kq j9 ic at A
 repeat' split at A
 all_goals first
  | (cases A; done)
  | (cases A; rfl)
theorem LG {eof ln:Nat} {F F':aU} {seen:List Tx} {rows rows':List Rw} {row:List Tx} (h:kW F seen) (A:cH eof F seen rows ln row= .ok (F',rows')):kW F' (seen++ [row.getD 0 []]):=by
 intro k hk E;rw [jm,List.mem_singleton] at E;have I:k∉seen:=fun h=>E<|.inl h;have J:k≠row.getD 0 []:=fun h=>E<|.inr h;by_cases C:row.getD 0 []∈ez
 · unfold cH at A;rw [if_pos C] at A;unfold kr at A;split at A
   · cases A
   · cases A;show (F.sp.set (ez.idxOf<|row.getD 0 []) _).getD (ez.idxOf k) 0=0;rw [cX,lK,if_neg,← cX]
     · exact h k hk I
     · intro he;have G:∀ a∈ez,ez.getD (ez.idxOf a) []=a:=aB;have h1:=G _ C;have h2:=G _ hk;rw [he] at h1;exact J<|h2.symm.trans h1
 · rw [Yl C A]; exact h k hk I
def jg (s:Tx):Option Value:=if s=dB then some (bV #[.int .i64 (4:Nat),.func (.func 134) #[] #[]]) else if s=ga then some (bV #[.int .i64 (4:Nat),.func (.func 134) #[] #[]]) else if s=eX then some (bV #[.int .i64 (2:Nat),.func (.func 133) #[] #[]]) else if s=fK then some (bV #[.int .i64 (2:Nat),.func (.func 132) #[] #[]]) else if s=kK then some (bV #[.int .i64 (2:Nat),.func (.func 131) #[] #[]]) else if s=ml then some (bV #[.int .i64 (2:Nat),.func (.func 130) #[] #[]]) else if s=lZ then some (bV #[.int .i64 (2:Nat),.func (.func 130) #[] #[]]) else if s=lB then some (bV #[.int .i64 (2:Nat),.func (.func 130) #[] #[]]) else if s=k6 then some (bV #[.int .i64 (2:Nat),.func (.func 130) #[] #[]]) else if s=kL then some (bV #[.int .i64 (2:Nat),.func (.func 130) #[] #[]]) else if s=jt then some (bV #[.int .i64 (2:Nat),.func (.func 129) #[] #[]]) else if s=jh then some (bV #[.int .i64 (2:Nat),.func (.func 128) #[] #[]]) else if s=iV then some (bV #[.int .i64 (2:Nat),.func (.func 127) #[] #[]]) else none
def zF:Value→Option Value:=fun _=>none
def zG:Tx→Option Value:=fun _=>none
theorem str_inj {a b:Tx} :str a=str b↔a=b:=⟨fun h=>by unfold str at h; cases h; rfl,fun h=>by rw [h]⟩
theorem nK {f:Value→Option Value} {g:Tx→Option Value} {k:Tx} {v:Value} (h:∀ s,f (str s)=g s) (s:Tx):bU f (str k) v (str s)=if s=k then some v else g s:=by
 by_cases hs:s=k
 · subst hs; rw [oI,if_pos rfl]
 · rw [mm (fun h2=>hs<|str_inj.1 h2),if_neg hs,h s]
theorem Ym (w:World):
 bm aw 73 (bh []) w (fun v w'=> ∃ b,v= .map (some b)∧b=w.heap.size∧(∃ f,di w'.heap b jT f∧∀ s,f (str s)=jg s)∧Wk w w'):=by
 refine enter func73 aa ntmps73 aa<|ag fun aj=>ay<|aj<|ag fun al=>e<|tA fun A C bp aT am=> ?_;have aU:di C.heap A jT zF:=di.nil am;have bq:∀ s:Tx,zF (str s)=zG s:=fun _=>rfl;have an:Wk w C:=aT.md;refine p (dj (ps:= [(0,ak 2),(1,.func (.func 127) #[] #[])]) (L:= [ak 2,.func (.func 127) #[] #[]]) nP aa<|aa)<|e<|nD na ju (aU) aa aa aa (⟨_,aa⟩) fun V aL a0=> ?_;have a9:di V.heap A jT (bU zF (str iV)<|bV #[ak 2,.func (.func 127) #[] #[]]):=a0;have br:=nK (k:=iV) (v:=bV #[ak 2,.func (.func 127) #[] #[]]) bq;have ao:Wk w V:=an.trans' aL fun k hk h=>by omega
 refine p (dj (ps:= [(0,ak 2),(1,.func (.func 128) #[] #[])]) (L:= [ak 2,.func (.func 128) #[] #[]]) nP aa<|aa)<|e<|nD na ju (a9) aa aa aa (⟨_,aa⟩) fun ae aQ a5=> ?_;have ba:di ae.heap A jT (bU (bU zF (str iV)<|bV #[ak 2,.func (.func 127) #[] #[]]) (str jh)<|bV #[ak 2,.func (.func 128) #[] #[]]):=a5;have bw:=nK (k:=jh) (v:=bV #[ak 2,.func (.func 128) #[] #[]]) br;have ax:Wk w ae:=ao.trans' aQ fun k hk h=>by omega
 refine p (dj (ps:= [(0,ak 2),(1,.func (.func 129) #[] #[])]) (L:= [ak 2,.func (.func 129) #[] #[]]) nP aa<|aa)<|e<|nD na ju (ba) aa aa aa (⟨_,aa⟩) fun ah aR a7=> ?_;have bf:di ah.heap A jT (bU (bU (bU zF (str iV)<|bV #[ak 2,.func (.func 127) #[] #[]]) (str jh)<|bV #[ak 2,.func (.func 128) #[] #[]]) (str jt)<|bV #[ak 2,.func (.func 129) #[] #[]]):=a7;have bx:=nK (k:=jt) (v:=bV #[ak 2,.func (.func 129) #[] #[]]) bw;have az:Wk w ah:=ax.trans' aR fun k hk h=>by omega
 refine p (dj (ps:= [(0,ak 2),(1,.func (.func 130) #[] #[])]) (L:= [ak 2,.func (.func 130) #[] #[]]) nP aa<|aa)<|e<|nD na ju (bf) aa aa aa (⟨_,aa⟩) fun ai aS a8=> ?_;have bg:di ai.heap A jT (bU (bU (bU (bU zF (str iV)<|bV #[ak 2,.func (.func 127) #[] #[]]) (str jh)<|bV #[ak 2,.func (.func 128) #[] #[]]) (str jt)<|bV #[ak 2,.func (.func 129) #[] #[]]) (str kL)<|bV #[ak 2,.func (.func 130) #[] #[]]):=a8;have bz:=nK (k:=kL) (v:=bV #[ak 2,.func (.func 130) #[] #[]]) bx;have aA:Wk w ai:=az.trans' aS fun k hk h=>by omega
 refine p (dj (ps:= [(0,ak 2),(1,.func (.func 130) #[] #[])]) (L:= [ak 2,.func (.func 130) #[] #[]]) nP aa<|aa)<|e<|nD na ju (bg) aa aa aa (⟨_,aa⟩) fun E aG aV=> ?_;have bi:di E.heap A jT (bU (bU (bU (bU (bU zF (str iV)<|bV #[ak 2,.func (.func 127) #[] #[]]) (str jh)<|bV #[ak 2,.func (.func 128) #[] #[]]) (str jt)<|bV #[ak 2,.func (.func 129) #[] #[]]) (str kL)<|bV #[ak 2,.func (.func 130) #[] #[]]) (str k6)<|bV #[ak 2,.func (.func 130) #[] #[]]):=aV;have bA:=nK (k:=k6) (v:=bV #[ak 2,.func (.func 130) #[] #[]]) bz;have aB:Wk w E:=aA.trans' aG fun k hk h=>by omega
 refine p (dj (ps:= [(0,ak 2),(1,.func (.func 130) #[] #[])]) (L:= [ak 2,.func (.func 130) #[] #[]]) nP aa<|aa)<|e<|nD na ju (bi) aa aa aa (⟨_,aa⟩) fun G aH aW=> ?_;have bj:di G.heap A jT (bU (bU (bU (bU (bU (bU zF (str iV)<|bV #[ak 2,.func (.func 127) #[] #[]]) (str jh)<|bV #[ak 2,.func (.func 128) #[] #[]]) (str jt)<|bV #[ak 2,.func (.func 129) #[] #[]]) (str kL)<|bV #[ak 2,.func (.func 130) #[] #[]]) (str k6)<|bV #[ak 2,.func (.func 130) #[] #[]]) (str lB)<|bV #[ak 2,.func (.func 130) #[] #[]]):=aW;have bB:=nK (k:=lB) (v:=bV #[ak 2,.func (.func 130) #[] #[]]) bA;have aC:Wk w G:=aB.trans' aH fun k hk h=>by omega
 refine p (dj (ps:= [(0,ak 2),(1,.func (.func 130) #[] #[])]) (L:= [ak 2,.func (.func 130) #[] #[]]) nP aa<|aa)<|e<|nD na ju (bj) aa aa aa (⟨_,aa⟩) fun I aI aX=> ?_;have bk:di I.heap A jT (bU (bU (bU (bU (bU (bU (bU zF (str iV)<|bV #[ak 2,.func (.func 127) #[] #[]]) (str jh)<|bV #[ak 2,.func (.func 128) #[] #[]]) (str jt)<|bV #[ak 2,.func (.func 129) #[] #[]]) (str kL)<|bV #[ak 2,.func (.func 130) #[] #[]]) (str k6)<|bV #[ak 2,.func (.func 130) #[] #[]]) (str lB)<|bV #[ak 2,.func (.func 130) #[] #[]]) (str lZ)<|bV #[ak 2,.func (.func 130) #[] #[]]):=aX;have bC:=nK (k:=lZ) (v:=bV #[ak 2,.func (.func 130) #[] #[]]) bB;have aD:Wk w I:=aC.trans' aI fun k hk h=>by omega
 refine p (dj (ps:= [(0,ak 2),(1,.func (.func 130) #[] #[])]) (L:= [ak 2,.func (.func 130) #[] #[]]) nP aa<|aa)<|e<|nD na ju (bk) aa aa aa (⟨_,aa⟩) fun J aJ aY=> ?_;have bl:di J.heap A jT (bU (bU (bU (bU (bU (bU (bU (bU zF (str iV)<|bV #[ak 2,.func (.func 127) #[] #[]]) (str jh)<|bV #[ak 2,.func (.func 128) #[] #[]]) (str jt)<|bV #[ak 2,.func (.func 129) #[] #[]]) (str kL)<|bV #[ak 2,.func (.func 130) #[] #[]]) (str k6)<|bV #[ak 2,.func (.func 130) #[] #[]]) (str lB)<|bV #[ak 2,.func (.func 130) #[] #[]]) (str lZ)<|bV #[ak 2,.func (.func 130) #[] #[]]) (str ml)<|bV #[ak 2,.func (.func 130) #[] #[]]):=aY;have bD:=nK (k:=ml) (v:=bV #[ak 2,.func (.func 130) #[] #[]]) bC;have aE:Wk w J:=aD.trans' aJ fun k hk h=>by omega
 refine p (dj (ps:= [(0,ak 2),(1,.func (.func 131) #[] #[])]) (L:= [ak 2,.func (.func 131) #[] #[]]) nP aa<|aa)<|e<|nD na ju (bl) aa aa aa (⟨_,aa⟩) fun O aK aZ=> ?_;have bn:di O.heap A jT (bU (bU (bU (bU (bU (bU (bU (bU (bU zF (str iV)<|bV #[ak 2,.func (.func 127) #[] #[]]) (str jh)<|bV #[ak 2,.func (.func 128) #[] #[]]) (str jt)<|bV #[ak 2,.func (.func 129) #[] #[]]) (str kL)<|bV #[ak 2,.func (.func 130) #[] #[]]) (str k6)<|bV #[ak 2,.func (.func 130) #[] #[]]) (str lB)<|bV #[ak 2,.func (.func 130) #[] #[]]) (str lZ)<|bV #[ak 2,.func (.func 130) #[] #[]]) (str ml)<|bV #[ak 2,.func (.func 130) #[] #[]]) (str kK)<|bV #[ak 2,.func (.func 131) #[] #[]]):=aZ;have bE:=nK (k:=kK) (v:=bV #[ak 2,.func (.func 131) #[] #[]]) bD;have aF:Wk w O:=aE.trans' aK fun k hk h=>by omega
 refine p (dj (ps:= [(0,ak 2),(1,.func (.func 132) #[] #[])]) (L:= [ak 2,.func (.func 132) #[] #[]]) nP aa<|aa)<|e<|nD na ju (bn) aa aa aa (⟨_,aa⟩) fun Y aM a1=> ?_;have bo:di Y.heap A jT (bU (bU (bU (bU (bU (bU (bU (bU (bU (bU zF (str iV)<|bV #[ak 2,.func (.func 127) #[] #[]]) (str jh)<|bV #[ak 2,.func (.func 128) #[] #[]]) (str jt)<|bV #[ak 2,.func (.func 129) #[] #[]]) (str kL)<|bV #[ak 2,.func (.func 130) #[] #[]]) (str k6)<|bV #[ak 2,.func (.func 130) #[] #[]]) (str lB)<|bV #[ak 2,.func (.func 130) #[] #[]]) (str lZ)<|bV #[ak 2,.func (.func 130) #[] #[]]) (str ml)<|bV #[ak 2,.func (.func 130) #[] #[]]) (str kK)<|bV #[ak 2,.func (.func 131) #[] #[]]) (str fK)<|bV #[ak 2,.func (.func 132) #[] #[]]):=a1;have bs:=nK (k:=fK) (v:=bV #[ak 2,.func (.func 132) #[] #[]]) bE;have ap:Wk w Y:=aF.trans' aM fun k hk h=>by omega
 refine p (dj (ps:= [(0,ak 2),(1,.func (.func 133) #[] #[])]) (L:= [ak 2,.func (.func 133) #[] #[]]) nP aa<|aa)<|e<|nD na ju (bo) aa aa aa (⟨_,aa⟩) fun Z aN a2=> ?_;have bb:di Z.heap A jT (bU (bU (bU (bU (bU (bU (bU (bU (bU (bU (bU zF (str iV)<|bV #[ak 2,.func (.func 127) #[] #[]]) (str jh)<|bV #[ak 2,.func (.func 128) #[] #[]]) (str jt)<|bV #[ak 2,.func (.func 129) #[] #[]]) (str kL)<|bV #[ak 2,.func (.func 130) #[] #[]]) (str k6)<|bV #[ak 2,.func (.func 130) #[] #[]]) (str lB)<|bV #[ak 2,.func (.func 130) #[] #[]]) (str lZ)<|bV #[ak 2,.func (.func 130) #[] #[]]) (str ml)<|bV #[ak 2,.func (.func 130) #[] #[]]) (str kK)<|bV #[ak 2,.func (.func 131) #[] #[]]) (str fK)<|bV #[ak 2,.func (.func 132) #[] #[]]) (str eX)<|bV #[ak 2,.func (.func 133) #[] #[]]):=a2;have bt:=nK (k:=eX) (v:=bV #[ak 2,.func (.func 133) #[] #[]]) bs;have aq:Wk w Z:=ap.trans' aN fun k hk h=>by omega
 refine p (dj (ps:= [(0,ak 4),(1,.func (.func 134) #[] #[])]) (L:= [ak 4,.func (.func 134) #[] #[]]) nP aa<|aa)<|e<|nD na ju (bb) aa aa aa (⟨_,aa⟩) fun ab aO a3=> ?_;have bc:di ab.heap A jT (bU (bU (bU (bU (bU (bU (bU (bU (bU (bU (bU (bU zF (str iV)<|bV #[ak 2,.func (.func 127) #[] #[]]) (str jh)<|bV #[ak 2,.func (.func 128) #[] #[]]) (str jt)<|bV #[ak 2,.func (.func 129) #[] #[]]) (str kL)<|bV #[ak 2,.func (.func 130) #[] #[]]) (str k6)<|bV #[ak 2,.func (.func 130) #[] #[]]) (str lB)<|bV #[ak 2,.func (.func 130) #[] #[]]) (str lZ)<|bV #[ak 2,.func (.func 130) #[] #[]]) (str ml)<|bV #[ak 2,.func (.func 130) #[] #[]]) (str kK)<|bV #[ak 2,.func (.func 131) #[] #[]]) (str fK)<|bV #[ak 2,.func (.func 132) #[] #[]]) (str eX)<|bV #[ak 2,.func (.func 133) #[] #[]]) (str ga)<|bV #[ak 4,.func (.func 134) #[] #[]]):=a3;have bu:=nK (k:=ga) (v:=bV #[ak 4,.func (.func 134) #[] #[]]) bt;have au:Wk w ab:=aq.trans' aO fun k hk h=>by omega
 refine p (dj (ps:= [(0,ak 4),(1,.func (.func 134) #[] #[])]) (L:= [ak 4,.func (.func 134) #[] #[]]) nP aa<|aa)<|e<|nD na ju (bc) aa aa aa (⟨_,aa⟩) fun ac aP a4=> ?_;have bd:di ac.heap A jT (bU (bU (bU (bU (bU (bU (bU (bU (bU (bU (bU (bU (bU zF (str iV)<|bV #[ak 2,.func (.func 127) #[] #[]]) (str jh)<|bV #[ak 2,.func (.func 128) #[] #[]]) (str jt)<|bV #[ak 2,.func (.func 129) #[] #[]]) (str kL)<|bV #[ak 2,.func (.func 130) #[] #[]]) (str k6)<|bV #[ak 2,.func (.func 130) #[] #[]]) (str lB)<|bV #[ak 2,.func (.func 130) #[] #[]]) (str lZ)<|bV #[ak 2,.func (.func 130) #[] #[]]) (str ml)<|bV #[ak 2,.func (.func 130) #[] #[]]) (str kK)<|bV #[ak 2,.func (.func 131) #[] #[]]) (str fK)<|bV #[ak 2,.func (.func 132) #[] #[]]) (str eX)<|bV #[ak 2,.func (.func 133) #[] #[]]) (str ga)<|bV #[ak 4,.func (.func 134) #[] #[]]) (str dB)<|bV #[ak 4,.func (.func 134) #[] #[]]):=a4;have bv:=nK (k:=dB) (v:=bV #[ak 4,.func (.func 134) #[] #[]]) bu;have av:Wk w ac:=au.trans' aP fun k hk h=>by omega
 exact p mv<|ay<|al<|rt<|a6 aa<|⟨A,aa,bp,⟨_,bd,fun s=>bv s⟩,av⟩
theorem aa6 (J O:Nat) (w:World):
 CallsD aw 72 (bh [.pointer (some ⟨J,0,none⟩),.pointer (some ⟨O,0,none⟩)]) .returning w (fun en V w'=> ∃ v,en= .returned v∧V= .returning∧(fun w'=>Wk w w') w'):=by
 refine ID (v:= .nilIface) func72 aa ntmps72 aa (fun ab cs I=> .inr ⟨by simp [recoverD,I],aa,aa⟩) ?_;refine p (taN Ey ad1 aa)<|p mv<|p (xt aa aa)<|p (xt aa aa)<|e<|al rq fun Z ag ae G A=>e<|dt km aa aa aa aa (A) (by simp) fun ah E ac=>p aE<|nl<|tn<|sq fun Y C=>rg aa<|p mv<|nl<|tn<|C _ _<|cf (aa)<|aQ<|f0 aa ?_;exact G.md.trans' E fun k hk h=>by omega
theorem aa5 (A C:Nat) (ln:Nat) (er:Int) (w:World) (h2:∃ v:Value,w.heap[A]? =some (.cells [v].toArray 88 (0,0))) (h3:∃ L:List Value,L.length=3∧w.heap[C]? =some (.cells L.toArray 45 (0,0))) (ae:A≠C):
 CallsD aw 72 (bh [.pointer (some ⟨A,0,none⟩),.pointer (some ⟨C,0,none⟩)]) (.panicking<|jS 45 ln er) w (fun en ax w'=> ∃ v,en= .returned v∧ax=(.panicking [{v:= .iface 45 (.agg [.int .i64 1,.int .i64 (ln:Nat),.int .i64 er].toArray),recovered:=true}])∧(fun w'=>w'.heap[A]? =some (.cells [.pointer none].toArray 88 (0,0))∧w'.heap[C]? =some (.cells [.int .i64 1,.int .i64 (ln:Nat),.int .i64 er].toArray 45 (0,0))∧Md (fun k=>k=A∨k=C) w w') w'):=by
 obtain ⟨v2,h2⟩:=h2;obtain ⟨Y,ao,h3⟩:=h3;have aF:=(dO.1 h2).1;have aG:=(dO.1 h3).1;refine ID (v:= .iface 45<|.agg [.int .i64 1,.int .i64 (ln:Nat),.int .i64 er].toArray) func72 aa ntmps72 aa (fun aB cs au=> .inl<|by simp [recoverD,au,jS]) ?_;refine p (taI Ey aa)<|p mv<|p (xt aa aa)<|p (xt aa aa)<|e<|al rq fun ag aH aC O ai=>e<|dt km aa aa aa aa (ai) (by simp) fun E G ah=> ?_;have am:bS E.heap ag [.int .i64 1,.int .i64 (ln:Nat),.int .i64 er]:=ah;refine p aE<|nl<|tn<|sq fun aA an=>rg aa<|p mv<|nl<|tn<|an _ _<|ct (aa) ?_;have V:(fun w'=>Md (fun k=>k=A∨k=C) E w') E.drew:=(Md.refl _ _).drew;refine bY (fun w'=>Md (fun k=>k=A∨k=C) E w') aa wide V<|hp 0 aa aj (fun w' ap=>cW lT aa (aa) fun j aD=>bS.bB (Md.B ap am fun h=>by omega) j) V<|he 1 aa aj<|dx C3 aa aa (v:= .pointer none) aa (G.aT (Wk.aT O.md h2) fun h=>by omega) (by show 0 < 1; decide) fun ay I ak=> ?_;have ac:(fun w'=>Md (fun k=>k=A∨k=C) E w') ay:=V.trans' I fun _ _ h=> .inl h;refine ⟨ac,?_⟩;refine he 2 aa aj<|fU km aa aa aa aa (I.aT (G.aT (Wk.aT O.md h3) fun h=>by omega) fun h=>ae h.symm) (by rw [ao]; decide) fun az J Z=> ?_;have aq:(fun w'=>Md (fun k=>k=A∨k=C) E w') az:=ac.trans' J fun _ _ h=> .inr h;refine ⟨aq,?_⟩;refine hn aj<|f0 aa ?_;have av:Y.take 0 ++ [gP .i64 1,.int .i64 (ln:Nat),.int .i64 er]++Y.drop (0 +3)= [gP .i64 1,.int .i64 (ln:Nat),.int .i64 er]:=by rw [iJ ab]; rfl
 rw [av] at Z;exact ⟨J.aT ak ae,Z,(((O.md.mono fun _ _ h=>h.elim).trans' G fun k hk h=>by omega).trans' (iY I) fun _ _ h=> .inl h).trans' J fun _ _ h=> .inr h⟩
theorem Ni (A C:Nat) (w:World):(invoke (.fn (.func 72) #[aV A,aV C]) #[]).run aw w= .ok (.enter 72 #[aV A,aV C]) w:=by
 have h:=Tv #[aV A,aV C] w;simp [invoke,h]
theorem zx {n:Nat} {D:List Deferred} {G:List Nat} {σ:Nat→Value} {t:Nat} (h:t < n):ev ⟨n,D,G,none⟩ σ (.tmp t)=σ t:=by
 show cond (Nat.blt t n) (σ t) undef=_;rw [show Nat.blt t n=true from by simpa using h]; rfl
theorem aa9 {n:Nat} {G:List Nat} {fn:Func} {R:Value→World→Prop} {σ:Nat→Value} {w:World} {A C ln:Nat} {er:Int} (V:fn.results= #[.cell 2 88,.cell 3 45]) (ac:3 < n) (Y:σ 2= .pointer (some ⟨A,0,none⟩)) (Z:σ 3= .pointer (some ⟨C,0,none⟩)) (h2:∃ v:Value,w.heap[A]? =some (.cells [v].toArray 88 (0,0))) (h3:∃ L:List Value,L.length=3∧w.heap[C]? =some (.cells L.toArray 45 (0,0))) (O:A≠C)
 (E:∀ w',Md (fun k=>k=A∨k=C) w w'→R (.tuple #[.pointer none,.agg [.int .i64 1,.int .i64 (ln:Nat),.int .i64 er].toArray]) w'):qb ⟨n,[{target:= .fn (.func 72) #[.pointer (some ⟨A,0,none⟩),.pointer (some ⟨C,0,none⟩)],args:= #[]}],G,none⟩ (rI aw fn R) (.panic<|jS 45 ln er) σ w:=by
 refine ox (Ni A C w) (aa5 A C ln er w h2 h3 O) ?_;rintro w' ⟨I,J,hm⟩;exact ⟨_,AD V (oL<|Fh ((zx ab).trans Y) gF<|(bg I).trans aa) (oL<|ed (cs:= [.int .i64 1,.int .i64 (ln:Nat),.int .i64 er]) ((zx ab).trans Z) lT aa fun j _=>by rw [iM,bg J]; simp),E w' hm⟩
theorem aba {n:Nat} {G:List Nat} {fn:Func} {R:Value→World→Prop} {σ:Nat→Value} {w:World} {A C:Nat} {v:Value} {L:List Value} (V:fn.results= #[.cell 2 88,.cell 3 45]) (ac:3 < n) (Y:σ 2= .pointer (some ⟨A,0,none⟩)) (Z:σ 3= .pointer (some ⟨C,0,none⟩)) (h2:w.heap[A]? =some (.cells [v].toArray 88 (0,0))) (h3:w.heap[C]? =some (.cells L.toArray 45 (0,0))) (E:L.length=3)
 (I:∀ w',Wk w w'→R (.tuple #[v,.agg L.toArray]) w'):qb ⟨n,[{target:= .fn (.func 72) #[.pointer (some ⟨A,0,none⟩),.pointer (some ⟨C,0,none⟩)],args:= #[]}],G,none⟩ (rI aw fn R) .ret σ w:=by
 refine Ww (Ni A C w) (aa6 A C w) ?_;intro w' hm;have J:=Wk.aT hm h2;have O:=Wk.aT hm h3;exact ⟨_,AD V (oL<|Fh ((zx ab).trans Y) gF<|(bg J).trans aa) (oL<|ed (cs:=L) ((zx ab).trans Z) lT E fun j _=>by rw [iM,bg O]; simp),I w' hm⟩
end Go.Hb
section
namespace Go.Hb
open Go.Hb.oV
theorem XZ (B:Nat) (H:dD) (F:aU) (rows:List Rw) (ln:Nat) (seen:List Tx) (r:List Tx) (A:Nat) (ar:Option Addr) (cr:Nat) (w:World) (C:St w B H F rows ln seen) (E:Tg w A 9 r.length (.slice ar r.length cr) (r.map str)) (G:∀ x∈r,x.length≤70000) (hw:r.length=width (r.getD 0 [])) (O:kW F seen) (J:width (r.getD 0 [])=2→r.getD 0 []∉seen) (I:F.dA.length+F.aliases.length+F.bE.length+F.rules.length+rows.length < 70000) (hk:r.getD 0 []=iV):fX aw 127 (bh [.pointer (some ⟨H.rb,0,none⟩),.slice ar r.length cr]) w (jZ B H seen (cH H.eof F seen rows ln r) w) (jY B H (cH H.eof F seen rows ln r) w):=by
 have h:=Za B H F rows ln seen r A ar cr w C E (by rw [hw,hk]; decide) G;rw [show cH H.eof F seen rows ln r=kM F seen rows ln r from by unfold cH; rw [hk]; rfl];exact h
theorem Yb (B:Nat) (H:dD) (F:aU) (rows:List Rw) (ln:Nat) (seen:List Tx) (r:List Tx) (A:Nat) (ar:Option Addr) (cr:Nat) (w:World) (C:St w B H F rows ln seen) (E:Tg w A 9 r.length (.slice ar r.length cr) (r.map str)) (G:∀ x∈r,x.length≤70000) (hw:r.length=width (r.getD 0 [])) (O:kW F seen) (J:width (r.getD 0 [])=2→r.getD 0 []∉seen) (I:F.dA.length+F.aliases.length+F.bE.length+F.rules.length+rows.length < 70000) (hk:r.getD 0 []=jh):fX aw 128 (bh [.pointer (some ⟨H.rb,0,none⟩),.slice ar r.length cr]) w (jZ B H seen (cH H.eof F seen rows ln r) w) (jY B H (cH H.eof F seen rows ln r) w):=by
 have h:=TV B H F rows ln seen r A ar cr w C E (by rw [hw,hk]; decide) G;rw [show cH H.eof F seen rows ln r=mU F rows ln r from by unfold cH; rw [hk]; rfl];exact h
theorem Yd (B:Nat) (H:dD) (F:aU) (rows:List Rw) (ln:Nat) (seen:List Tx) (r:List Tx) (A:Nat) (ar:Option Addr) (cr:Nat) (w:World) (C:St w B H F rows ln seen) (E:Tg w A 9 r.length (.slice ar r.length cr) (r.map str)) (G:∀ x∈r,x.length≤70000) (hw:r.length=width (r.getD 0 [])) (O:kW F seen) (J:width (r.getD 0 [])=2→r.getD 0 []∉seen) (I:F.dA.length+F.aliases.length+F.bE.length+F.rules.length+rows.length < 70000) (hk:r.getD 0 []=jt):fX aw 129 (bh [.pointer (some ⟨H.rb,0,none⟩),.slice ar r.length cr]) w (jZ B H seen (cH H.eof F seen rows ln r) w) (jY B H (cH H.eof F seen rows ln r) w):=by
 have h:=ac2 B H F rows ln seen r A ar cr w C E (by rw [hw,hk]; decide) G;rw [show cH H.eof F seen rows ln r=mZ F rows ln r from by unfold cH; rw [hk]; rfl];exact h
theorem X7 (B:Nat) (H:dD) (F:aU) (rows:List Rw) (ln:Nat) (seen:List Tx) (r:List Tx) (A:Nat) (ar:Option Addr) (cr:Nat) (w:World) (C:St w B H F rows ln seen) (E:Tg w A 9 r.length (.slice ar r.length cr) (r.map str)) (I:∀ x∈r,x.length≤70000) (hw:r.length=width (r.getD 0 [])) (J:kW F seen) (G:width (r.getD 0 [])=2→r.getD 0 []∉seen) (O:F.dA.length+F.aliases.length+F.bE.length+F.rules.length+rows.length < 70000) (hk:r.getD 0 []=kL):fX aw 130 (bh [.pointer (some ⟨H.rb,0,none⟩),.slice ar r.length cr]) w (jZ B H seen (cH H.eof F seen rows ln r) w) (jY B H (cH H.eof F seen rows ln r) w):=by
 have h:=xZ B H F rows ln seen r A ar cr w C E (by rw [hw,hk]; decide) I (by rw [hk]; decide)<|J _ (by rw [hk]; decide)<|G<|by rw [hk]; decide
 rw [show cH H.eof F seen rows ln r=kr F rows ln r from by unfold cH; rw [hk]; rfl];exact h
theorem X4 (B:Nat) (H:dD) (F:aU) (rows:List Rw) (ln:Nat) (seen:List Tx) (r:List Tx) (A:Nat) (ar:Option Addr) (cr:Nat) (w:World) (C:St w B H F rows ln seen) (E:Tg w A 9 r.length (.slice ar r.length cr) (r.map str)) (I:∀ x∈r,x.length≤70000) (hw:r.length=width (r.getD 0 [])) (J:kW F seen) (G:width (r.getD 0 [])=2→r.getD 0 []∉seen) (O:F.dA.length+F.aliases.length+F.bE.length+F.rules.length+rows.length < 70000) (hk:r.getD 0 []=k6):fX aw 130 (bh [.pointer (some ⟨H.rb,0,none⟩),.slice ar r.length cr]) w (jZ B H seen (cH H.eof F seen rows ln r) w) (jY B H (cH H.eof F seen rows ln r) w):=by
 have h:=xZ B H F rows ln seen r A ar cr w C E (by rw [hw,hk]; decide) I (by rw [hk]; decide)<|J _ (by rw [hk]; decide)<|G<|by rw [hk]; decide
 rw [show cH H.eof F seen rows ln r=kr F rows ln r from by unfold cH; rw [hk]; rfl];exact h
theorem X5 (B:Nat) (H:dD) (F:aU) (rows:List Rw) (ln:Nat) (seen:List Tx) (r:List Tx) (A:Nat) (ar:Option Addr) (cr:Nat) (w:World) (C:St w B H F rows ln seen) (E:Tg w A 9 r.length (.slice ar r.length cr) (r.map str)) (I:∀ x∈r,x.length≤70000) (hw:r.length=width (r.getD 0 [])) (J:kW F seen) (G:width (r.getD 0 [])=2→r.getD 0 []∉seen) (O:F.dA.length+F.aliases.length+F.bE.length+F.rules.length+rows.length < 70000) (hk:r.getD 0 []=lB):fX aw 130 (bh [.pointer (some ⟨H.rb,0,none⟩),.slice ar r.length cr]) w (jZ B H seen (cH H.eof F seen rows ln r) w) (jY B H (cH H.eof F seen rows ln r) w):=by
 have h:=xZ B H F rows ln seen r A ar cr w C E (by rw [hw,hk]; decide) I (by rw [hk]; decide)<|J _ (by rw [hk]; decide)<|G<|by rw [hk]; decide
 rw [show cH H.eof F seen rows ln r=kr F rows ln r from by unfold cH; rw [hk]; rfl];exact h
theorem XY (B:Nat) (H:dD) (F:aU) (rows:List Rw) (ln:Nat) (seen:List Tx) (r:List Tx) (A:Nat) (ar:Option Addr) (cr:Nat) (w:World) (C:St w B H F rows ln seen) (E:Tg w A 9 r.length (.slice ar r.length cr) (r.map str)) (I:∀ x∈r,x.length≤70000) (hw:r.length=width (r.getD 0 [])) (J:kW F seen) (G:width (r.getD 0 [])=2→r.getD 0 []∉seen) (O:F.dA.length+F.aliases.length+F.bE.length+F.rules.length+rows.length < 70000) (hk:r.getD 0 []=lZ):fX aw 130 (bh [.pointer (some ⟨H.rb,0,none⟩),.slice ar r.length cr]) w (jZ B H seen (cH H.eof F seen rows ln r) w) (jY B H (cH H.eof F seen rows ln r) w):=by
 have h:=xZ B H F rows ln seen r A ar cr w C E (by rw [hw,hk]; decide) I (by rw [hk]; decide)<|J _ (by rw [hk]; decide)<|G<|by rw [hk]; decide
 rw [show cH H.eof F seen rows ln r=kr F rows ln r from by unfold cH; rw [hk]; rfl];exact h
theorem X8 (B:Nat) (H:dD) (F:aU) (rows:List Rw) (ln:Nat) (seen:List Tx) (r:List Tx) (A:Nat) (ar:Option Addr) (cr:Nat) (w:World) (C:St w B H F rows ln seen) (E:Tg w A 9 r.length (.slice ar r.length cr) (r.map str)) (I:∀ x∈r,x.length≤70000) (hw:r.length=width (r.getD 0 [])) (J:kW F seen) (G:width (r.getD 0 [])=2→r.getD 0 []∉seen) (O:F.dA.length+F.aliases.length+F.bE.length+F.rules.length+rows.length < 70000) (hk:r.getD 0 []=ml):fX aw 130 (bh [.pointer (some ⟨H.rb,0,none⟩),.slice ar r.length cr]) w (jZ B H seen (cH H.eof F seen rows ln r) w) (jY B H (cH H.eof F seen rows ln r) w):=by
 have h:=xZ B H F rows ln seen r A ar cr w C E (by rw [hw,hk]; decide) I (by rw [hk]; decide)<|J _ (by rw [hk]; decide)<|G<|by rw [hk]; decide
 rw [show cH H.eof F seen rows ln r=kr F rows ln r from by unfold cH; rw [hk]; rfl];exact h
theorem X6 (B:Nat) (H:dD) (F:aU) (rows:List Rw) (ln:Nat) (seen:List Tx) (r:List Tx) (A:Nat) (ar:Option Addr) (cr:Nat) (w:World) (C:St w B H F rows ln seen) (E:Tg w A 9 r.length (.slice ar r.length cr) (r.map str)) (G:∀ x∈r,x.length≤70000) (hw:r.length=width (r.getD 0 [])) (O:kW F seen) (J:width (r.getD 0 [])=2→r.getD 0 []∉seen) (I:F.dA.length+F.aliases.length+F.bE.length+F.rules.length+rows.length < 70000) (hk:r.getD 0 []=kK):fX aw 131 (bh [.pointer (some ⟨H.rb,0,none⟩),.slice ar r.length cr]) w (jZ B H seen (cH H.eof F seen rows ln r) w) (jY B H (cH H.eof F seen rows ln r) w):=by
 have h:=Ze B H F rows ln seen r A ar cr w C E (by rw [hw,hk]; decide) G;rw [show cH H.eof F seen rows ln r=k9 F rows ln r from by unfold cH; rw [hk]; rfl];exact h
theorem Ya (B:Nat) (H:dD) (F:aU) (rows:List Rw) (ln:Nat) (seen:List Tx) (r:List Tx) (A:Nat) (ar:Option Addr) (cr:Nat) (w:World) (C:St w B H F rows ln seen) (E:Tg w A 9 r.length (.slice ar r.length cr) (r.map str)) (G:∀ x∈r,x.length≤70000) (hw:r.length=width (r.getD 0 [])) (O:kW F seen) (J:width (r.getD 0 [])=2→r.getD 0 []∉seen) (I:F.dA.length+F.aliases.length+F.bE.length+F.rules.length+rows.length < 70000) (hk:r.getD 0 []=fK):fX aw 132 (bh [.pointer (some ⟨H.rb,0,none⟩),.slice ar r.length cr]) w (jZ B H seen (cH H.eof F seen rows ln r) w) (jY B H (cH H.eof F seen rows ln r) w):=by
 have h:=abh B H F rows ln seen r A ar cr w C E (by rw [hw,hk]; decide) G;rw [show cH H.eof F seen rows ln r=kq H.eof F rows ln r from by unfold cH; rw [hk]; rfl];exact h
theorem XX (B:Nat) (H:dD) (F:aU) (rows:List Rw) (ln:Nat) (seen:List Tx) (r:List Tx) (A:Nat) (ar:Option Addr) (cr:Nat) (w:World) (C:St w B H F rows ln seen) (E:Tg w A 9 r.length (.slice ar r.length cr) (r.map str)) (G:∀ x∈r,x.length≤70000) (hw:r.length=width (r.getD 0 [])) (O:kW F seen) (J:width (r.getD 0 [])=2→r.getD 0 []∉seen) (I:F.dA.length+F.aliases.length+F.bE.length+F.rules.length+rows.length < 70000) (hk:r.getD 0 []=eX):fX aw 133 (bh [.pointer (some ⟨H.rb,0,none⟩),.slice ar r.length cr]) w (jZ B H seen (cH H.eof F seen rows ln r) w) (jY B H (cH H.eof F seen rows ln r) w):=by
 have h:=QX B H F rows ln seen r A ar cr w C E (by rw [hw,hk]; decide) G;rw [show cH H.eof F seen rows ln r=j9 H.eof F seen rows ln r from by unfold cH; rw [hk]; rfl];exact h
theorem X9 (B:Nat) (H:dD) (F:aU) (rows:List Rw) (ln:Nat) (seen:List Tx) (r:List Tx) (A:Nat) (ar:Option Addr) (cr:Nat) (w:World) (C:St w B H F rows ln seen) (E:Tg w A 9 r.length (.slice ar r.length cr) (r.map str)) (I:∀ x∈r,x.length≤70000) (hw:r.length=width (r.getD 0 [])) (O:kW F seen) (J:width (r.getD 0 [])=2→r.getD 0 []∉seen) (G:F.dA.length+F.aliases.length+F.bE.length+F.rules.length+rows.length < 70000) (hk:r.getD 0 []=ga):fX aw 134 (bh [.pointer (some ⟨H.rb,0,none⟩),.slice ar r.length cr]) w (jZ B H seen (cH H.eof F seen rows ln r) w) (jY B H (cH H.eof F seen rows ln r) w):=by
 have h:=IM B H F rows ln seen r A ar cr w C E (by rw [hw,hk]; decide) I G;rw [show cH H.eof F seen rows ln r=ic H.eof F rows ln r from by unfold cH; rw [hk]; rfl];exact h
theorem Yc (B:Nat) (H:dD) (F:aU) (rows:List Rw) (ln:Nat) (seen:List Tx) (r:List Tx) (A:Nat) (ar:Option Addr) (cr:Nat) (w:World) (C:St w B H F rows ln seen) (E:Tg w A 9 r.length (.slice ar r.length cr) (r.map str)) (I:∀ x∈r,x.length≤70000) (hw:r.length=width (r.getD 0 [])) (O:kW F seen) (J:width (r.getD 0 [])=2→r.getD 0 []∉seen) (G:F.dA.length+F.aliases.length+F.bE.length+F.rules.length+rows.length < 70000) (hk:r.getD 0 []=dB):fX aw 134 (bh [.pointer (some ⟨H.rb,0,none⟩),.slice ar r.length cr]) w (jZ B H seen (cH H.eof F seen rows ln r) w) (jY B H (cH H.eof F seen rows ln r) w):=by
 have h:=IM B H F rows ln seen r A ar cr w C E (by rw [hw,hk]; decide) I G;rw [show cH H.eof F seen rows ln r=ic H.eof F rows ln r from by unfold cH; rw [hk]; rfl];exact h
theorem LH (B:Nat) (H:dD) (F:aU) (rows:List Rw) (ln:Nat) (seen:List Tx) (r:List Tx) (C:Nat) (ar:Option Addr) (cr:Nat) (w:World) (E:St w B H F rows ln seen) (G:Tg w C 9 r.length (.slice ar r.length cr) (r.map str)) (O:∀ x∈r,x.length≤70000) (hw:r.length=width (r.getD 0 [])) (V:kW F seen) (J:width (r.getD 0 [])=2→r.getD 0 []∉seen) (I:F.dA.length+F.aliases.length+F.bE.length+F.rules.length+rows.length < 70000) {v:Value} (A:jg (r.getD 0 [])=some v):∃ f:Nat,v= .agg [.int .i64 (width (r.getD 0 []):Nat),.func (.func f) #[] #[]].toArray∧bl aw f∧fX aw f (bh [.pointer (some ⟨H.rb,0,none⟩),.slice ar r.length cr]) w (jZ B H seen (cH H.eof F seen rows ln r) w) (jY B H (cH H.eof F seen rows ln r) w):=by
 unfold jg at A;by_cases hk:r.getD 0 []=dB
 · rw [if_pos hk] at A; cases A; exact ⟨_,by rw [hk]; rfl,HK,Yc B H F rows ln seen r C ar cr w E G O hw V J I hk⟩
 · rw [if_neg hk] at A; clear hk;by_cases hk:r.getD 0 []=ga
   · rw [if_pos hk] at A; cases A; exact ⟨_,by rw [hk]; rfl,HK,X9 B H F rows ln seen r C ar cr w E G O hw V J I hk⟩
   · rw [if_neg hk] at A; clear hk;by_cases hk:r.getD 0 []=eX
     · rw [if_pos hk] at A; cases A; exact ⟨_,by rw [hk]; rfl,RT,XX B H F rows ln seen r C ar cr w E G O hw V J I hk⟩
     · rw [if_neg hk] at A; clear hk;by_cases hk:r.getD 0 []=fK
       · rw [if_pos hk] at A; cases A; exact ⟨_,by rw [hk]; rfl,RS,Ya B H F rows ln seen r C ar cr w E G O hw V J I hk⟩
       · rw [if_neg hk] at A; clear hk;by_cases hk:r.getD 0 []=kK
         · rw [if_pos hk] at A; cases A; exact ⟨_,by rw [hk]; rfl,RR,X6 B H F rows ln seen r C ar cr w E G O hw V J I hk⟩
         · rw [if_neg hk] at A; clear hk;by_cases hk:r.getD 0 []=ml
           · rw [if_pos hk] at A; cases A; exact ⟨_,by rw [hk]; rfl,wu,X8 B H F rows ln seen r C ar cr w E G O hw V J I hk⟩
           · rw [if_neg hk] at A; clear hk;by_cases hk:r.getD 0 []=lZ
             · rw [if_pos hk] at A; cases A; exact ⟨_,by rw [hk]; rfl,wu,XY B H F rows ln seen r C ar cr w E G O hw V J I hk⟩
             · rw [if_neg hk] at A; clear hk;by_cases hk:r.getD 0 []=lB
               · rw [if_pos hk] at A; cases A; exact ⟨_,by rw [hk]; rfl,wu,X5 B H F rows ln seen r C ar cr w E G O hw V J I hk⟩
               · rw [if_neg hk] at A; clear hk;by_cases hk:r.getD 0 []=k6
                 · rw [if_pos hk] at A; cases A; exact ⟨_,by rw [hk]; rfl,wu,X4 B H F rows ln seen r C ar cr w E G O hw V J I hk⟩
                 · rw [if_neg hk] at A; clear hk;by_cases hk:r.getD 0 []=kL
                   · rw [if_pos hk] at A; cases A; exact ⟨_,by rw [hk]; rfl,wu,X7 B H F rows ln seen r C ar cr w E G O hw V J I hk⟩
                   · rw [if_neg hk] at A; clear hk;by_cases hk:r.getD 0 []=jt
                     · rw [if_pos hk] at A; cases A; exact ⟨_,by rw [hk]; rfl,RP,Yd B H F rows ln seen r C ar cr w E G O hw V J I hk⟩
                     · rw [if_neg hk] at A; clear hk;by_cases hk:r.getD 0 []=jh
                       · rw [if_pos hk] at A; cases A; exact ⟨_,by rw [hk]; rfl,RO,Yb B H F rows ln seen r C ar cr w E G O hw V J I hk⟩
                       · rw [if_neg hk] at A; clear hk;by_cases hk:r.getD 0 []=iV
                         · rw [if_pos hk] at A; cases A; exact ⟨_,by rw [hk]; rfl,RN,XZ B H F rows ln seen r C ar cr w E G O hw V J I hk⟩
                         · rw [if_neg hk] at A; clear hk;cases A
theorem LD {s:Tx} (A:jg s=none):width s=0:=by
 unfold jg at A;by_cases ac:s=dB
 · rw [if_pos ac] at A; cases A
 · rw [if_neg ac] at A;by_cases Z:s=ga
   · rw [if_pos Z] at A; cases A
   · rw [if_neg Z] at A;by_cases C:s=eX
     · rw [if_pos C] at A; cases A
     · rw [if_neg C] at A;by_cases aa:s=fK
       · rw [if_pos aa] at A; cases A
       · rw [if_neg aa] at A;by_cases O:s=kK
         · rw [if_pos O] at A; cases A
         · rw [if_neg O] at A;by_cases Y:s=ml
           · rw [if_pos Y] at A; cases A
           · rw [if_neg Y] at A;by_cases E:s=lZ
             · rw [if_pos E] at A; cases A
             · rw [if_neg E] at A;by_cases J:s=lB
               · rw [if_pos J] at A; cases A
               · rw [if_neg J] at A;by_cases I:s=k6
                 · rw [if_pos I] at A; cases A
                 · rw [if_neg I] at A;by_cases V:s=kL
                   · rw [if_pos V] at A; cases A
                   · rw [if_neg V] at A;by_cases ae:s=jt
                     · rw [if_pos ae] at A; cases A
                     · rw [if_neg ae] at A;by_cases ab:s=jh
                       · rw [if_pos ab] at A; cases A
                       · rw [if_neg ab] at A;by_cases G:s=iV
                         · rw [if_pos G] at A; cases A
                         · rw [if_neg G] at A;unfold width ez; simp [G,ab,ae,V,I,J,E,Y,O,aa,C,Z,ac]
theorem D8 (s:Tx):jg s=none∨∃ (wd f:Nat),jg s=some (bV #[.int .i64 (wd:Nat),.func (.func f) #[] #[]])∧width s=wd∧wd≠0:=by
 by_cases A:s=dB
 · exact .inr ⟨4,134,by unfold jg; rw [if_pos A],by rw [A]; decide,aB⟩
 by_cases C:s=ga
 · exact .inr ⟨4,134,by unfold jg; rw [if_neg A,if_pos C],by rw [C]; decide,aB⟩
 by_cases E:s=eX
 · exact .inr ⟨2,133,by unfold jg; rw [if_neg A,if_neg C,if_pos E],by rw [E]; decide,aB⟩
 by_cases G:s=fK
 · exact .inr ⟨2,132,by unfold jg; rw [if_neg A,if_neg C,if_neg E,if_pos G],by rw [G]; decide,aB⟩
 by_cases I:s=kK
 · exact .inr ⟨2,131,by unfold jg; rw [if_neg A,if_neg C,if_neg E,if_neg G,if_pos I],by rw [I]; decide,aB⟩
 by_cases J:s=ml
 · exact .inr ⟨2,130,by unfold jg; rw [if_neg A,if_neg C,if_neg E,if_neg G,if_neg I,if_pos J],by rw [J]; decide,aB⟩
 by_cases O:s=lZ
 · exact .inr ⟨2,130,by unfold jg; rw [if_neg A,if_neg C,if_neg E,if_neg G,if_neg I,if_neg J,if_pos O],by rw [O]; decide,aB⟩
 by_cases V:s=lB
 · exact .inr ⟨2,130,by unfold jg; rw [if_neg A,if_neg C,if_neg E,if_neg G,if_neg I,if_neg J,if_neg O,if_pos V],by rw [V]; decide,aB⟩
 by_cases Y:s=k6
 · exact .inr ⟨2,130,by unfold jg; rw [if_neg A,if_neg C,if_neg E,if_neg G,if_neg I,if_neg J,if_neg O,if_neg V,if_pos Y],by rw [Y]; decide,aB⟩
 by_cases Z:s=kL
 · exact .inr ⟨2,130,by unfold jg; rw [if_neg A,if_neg C,if_neg E,if_neg G,if_neg I,if_neg J,if_neg O,if_neg V,if_neg Y,if_pos Z],by rw [Z]; decide,aB⟩
 by_cases aa:s=jt
 · exact .inr ⟨2,129,by unfold jg; rw [if_neg A,if_neg C,if_neg E,if_neg G,if_neg I,if_neg J,if_neg O,if_neg V,if_neg Y,if_neg Z,if_pos aa],by rw [aa]; decide,aB⟩
 by_cases ab:s=jh
 · exact .inr ⟨2,128,by unfold jg; rw [if_neg A,if_neg C,if_neg E,if_neg G,if_neg I,if_neg J,if_neg O,if_neg V,if_neg Y,if_neg Z,if_neg aa,if_pos ab],by rw [ab]; decide,aB⟩
 by_cases ac:s=iV
 · exact .inr ⟨2,127,by unfold jg; rw [if_neg A,if_neg C,if_neg E,if_neg G,if_neg I,if_neg J,if_neg O,if_neg V,if_neg Y,if_neg Z,if_neg aa,if_neg ab,if_pos ac],by rw [ac]; decide,aB⟩
 refine .inl ?_;unfold jg;rw [if_neg A,if_neg C,if_neg E,if_neg G,if_neg I,if_neg J,if_neg O,if_neg V,if_neg Y,if_neg Z,if_neg aa,if_neg ab,if_neg ac]
end Go.Hb
end
namespace Go.Hb
theorem Xv {α:Type} {l:List α} {i:Nat} {d:α} (h:i < l.length):l.getD i d∈l:=by
 rw [cX,cx h]; exact List.getElem_mem h
def kp (n:Nat) (A:List (List UInt8)):List (Nat×List UInt8):=(A.zipIdx n).map fun q=>(q.2,q.1)
theorem aaf (n:Nat) (l:List UInt8) (A:List (List UInt8)):kp n (l::A)=(n,l)::kp (n+1) A:=by simp [kp,List.zipIdx_cons]
theorem aag (n:Nat):kp n []= []:=rfl
theorem EH (n:Nat) (A:List (List UInt8)):(kp n A).map oU=A:=by
 unfold kp; rw [List.map_map]; exact List.zipIdx_map_fst n A
theorem MT (n:Nat) (A:List (List UInt8)):(kp n A).length=A.length:=by simp [kp]
def zq (x:Nat×List UInt8):Array Value:= #[.int .i64 x.1,str x.2]
theorem EG {A:List (List UInt8)} {n:Nat} {pre:List (Nat×List UInt8)} {x:Nat×List UInt8} {rest:List (Nat×List UInt8)} (h:kp n A=pre++x::rest):pre.length < A.length∧x.1=n+pre.length∧A=pre.map oU++x.2::rest.map oU:=by
 have h1:=congrArg j7 h;rw [MT,bL,cV] at h1;have h2:=congrArg (List.map oU) h;rw [EH,gW,List.map_cons] at h2;refine ⟨ab,?_,h2⟩;have h3:=congrArg (fun l=>l[pre.length]?) h;simp only [kp,gx,List.getElem?_zipIdx,nV (cU _),Nat.sub_self,vP] at h3;cases h4:A[pre.length]? with
 | none=>rw [h4] at h3; cases h3
 | some q=>rw [h4] at h3; cases h3; rfl
theorem Jy (s:List UInt8) (w:World):
 bm aw 125 (bh [str s]) w (fun v w'=> ∃ b,v= .func (.func 189) #[] #[aV b]∧w.heap.size≤b∧w'.heap[b]? =some (.cells [str s].toArray 9 (0,0))∧Wk w w'):=by
 exact enter func125 aa ntmps125 aa<|ag fun A=>e<|Cg aa aa fun E O J I G=>ay<|A<|ag fun C=>p My<|ay<|C<|rt<|a6 aa<|⟨E,aa,ab,G,I.md⟩
theorem VX (s:List UInt8) (b:Nat) (hs:s.length≤65536) (l:Nat) (A:List (Nat×List UInt8)→World→Prop) (w:World) (Y:A [] w) (aJ:∀ pre W,A pre W→W.heap[b]? =some (.cells [str s].toArray 9 (0,0))) (bY:∀ pre C O,A pre C→Wk C O→A pre O) (aN:∀ pre x rest C,(kp 1<|bP s)=pre++x::rest→A pre C→YieldAt Fence.wide 0 aw l (zq x) C fun e W'=>e= .returned (.bool true)∧A (pre++ [x]) W'):
 bm aw 189 (bh [.func (.yield l) #[] #[],aV b]) w (fun v w'=>A (kp 1<|bP s) w'):=by
 have ac:=aJ _ _ Y;refine enter func189 aa ntmps189 aa<|az fun ah=>ag fun aj=>p (ld bX aa<|(bg ac).trans aa)<|p (cR u9 aa aa)<|p (gt aa aa)<|nl<|aj<|cd aa (fun h=>absurd h ab) fun aP=> ?_;refine aQ<|ah<|ag fun al=>p (ld bX aa<|(bg ac).trans aa)<|e<|cl HO (Ov s sg _ ab aB) aa fun v12 aZ aF=> ?_;obtain ⟨rfl,ax⟩:=aF;refine ay<|al<|ag fun am=>ay<|am<|aT<|lp (fun V J I=> ∃ (r:List UInt8) (pre:List (Nat×List UInt8)),(r.length≤s.length)∧((kp 1<|bP s)=pre++kp (pre.length+1) (gG [] r))∧(A pre I)∧(pre.length≤s.length)∧(J 4=ak (pre.length+1))∧(Sl J [(0,.func (.yield l) #[] #[]),(3,str r)])∧(r.length=V)) _ ⟨lI s,[],(A8 s),aa,(bY _ _ _ Y ax),(Nat.zero_le _),(iv<|by first | rfl | (rw [bL]; rfl)),aa,aa⟩ ?_;rintro V J I ⟨r,pre,aU,ae,Z,aR,aM,aL,rfl⟩;refine bG aL<|fx 4 aM<|az fun an=>ag fun ao=>au (str r)<|p (oF aa aa)<|nl<|ao<|cd aa (fun E=> ?_) fun E=> ?_;have G:(kp 1<|bP s)=pre++(pre.length+1,ka (nv 10 r))::kp (pre.length+2) (gG []<|pk 10 r):=by rw [ae,Zy E,aaf]
 have aS:=U9 (c:=10) E;have aO:=U5 10 r;refine aQ<|an<|az fun ap=>aT<|ag fun aq=>au (str r)<|e<|cl Sm (Va r 10 _ ab) aa fun aW a0 aG=> ?_;obtain ⟨rfl,aA⟩:=aG;refine p mv<|p (xt aa aa)<|p (xt aa aa)<|p (xt aa aa)<|p aE<|p aE<|p aE<|nl<|aq<|ag fun av=>p mv<|ay<|av<|az fun ai=> ?_;refine rgy ?_;refine py aa (aX (.func (.yield l) #[] #[]) aa)<|py aa (aX (ak<|pre.length+1) aa)<|py aa mv<|ey aa<|cl HN (ac0 (nv 10 r) _ ab) aa fun aY a1 aH=> ?_;obtain ⟨rfl,aC⟩:=aH;have aD:=bY _ _ _ Z<|Md.trans aA aC;refine ylr aa aa (aN pre (pre.length+1,ka (nv 10 r)) _ _ G aD) fun a2 aI=> ?_;refine py aa (no aa)<|nly ?_;refine ai<|cf (aa)<|aQ<|bn<|ap<|rg aa<|au (ak<|pre.length+1)<|p (bJ ((pre.length+2:Nat):Int) aa aa<|bp ab ab) ?_;exact p aE<|nl<|tn<|⟨_,ab,pk 10 r,pre++ [(pre.length+1,ka (nv 10 r))],ab,(by rw [G,eS,bL]; rfl),aI,(by have h1:=EG G; have h2:=pH s; rw [bL,fu]; omega),(iv<|by first | rfl | (rw [bL]; rfl)),aa,aa⟩
 refine ext<|bf<|bf<|be<|f0 aa ?_;show A (kp 1<|bP s) I;have aK:r= []:=Decidable.of_not_not E;rw [ae,aK,Ep,aag,eB];exact Z
theorem Jx (s:List UInt8) (b:Nat) (hs:s.length≤65536):GX aw 189 #[.pointer (some ⟨b,0,none⟩)] zq (kp 1<|bP s) (fun W=>W.heap[b]? =some (.cells [str s].toArray 9 (0,0))):=
 fun l A W C E bY I=>Calls.mono (VX s b hs l A W C E bY I) fun e w' ⟨v,he,G⟩=>⟨⟨v,he⟩,G⟩
theorem N8 (s:List UInt8) (w:World) (hs:s.length≤1048576):
 bm aw 71 (bh [str s]) w (fun v w'=>(∃ a,v= .tuple #[a,.int .i64 (if 65536 < s.length then 10 else 0)]∧(if 65536 < s.length then a= .slice none 0 0 else bz w' w.heap.size 9 1 (a) (bP s).length ((bP s).map str)))∧Wk w w'):=by
 refine JJ [] func71 aa ntmps71 aa ?_;refine jk<|jU<|rg aa<|p aE<|p aE<|nl<|jv<|jk<|jk<|jU<|rg aa<|p (aX (str s) aa)<|p (cR u9 aa aa)<|p (gt aa aa)<|nl<|jv<|jU<|cd aa (fun aK=> ?_) fun aK=> ?_;refine sq fun aR aF=>rg aa<|p aE<|p aE<|nl<|tn<|aF _ _<|rt<|prt<|JQ aa aa aa ?_;have J:65536 < s.length:=ab;exact ⟨⟨.slice none 0 0,by show gV #[.slice none 0 0,.int .i64 10]=_; rw [if_pos J],by rw [if_pos J]⟩,Md.refl _ _⟩;refine aQ<|jv<|jk<|jU<|rg aa<|e<|gk adW fun aq aO aY aG av=>nl<|jv<|jk<|jk<|jU<|rg aa<|p (aX (str s) aa)<|e<|cl HJ (Jy s _) aa fun v11 ao aH=> ?_;obtain ⟨ag,rfl,aV,au,ax⟩:=aH;have O:Wk w ao:=Md.trans aG.md ax;have aI:=ax.aT av;have aW:=(dO.1 au).1;have a3:aq < aO.heap.size:=(dO.1 av).1;have J:s.length≤65536:=ab;refine nl<|jv ?_;apply Nz (zq) (kp 1<|bP s) (fun W=>W.heap[ag]? =some (.cells [str s].toArray 9 (0,0))) (fun pre I=> ∃ v,I.heap[aq]? =some (.cells [v].toArray 35 (0,0))∧bz I ao.heap.size 9 1 v pre.length ((pre.map oU).map str)∧I.heap[ag]? =some (.cells [str s].toArray 9 (0,0))∧ao.heap.size≤I.heap.size∧Wk w I) rfl HY (fun _=>rfl) (Jx s ag J) (⟨.slice none 0 0,aI,dK _ _ _ _,au,cU _,O⟩) (fun _ _ ⟨_,_,_,h,_⟩=>h) (fun pre A C F ⟨v,h1,h2,h3,h5,h4⟩ hm ac=>⟨v,AU h1 hm ac,Od h2 hm ac,AU h3 hm ac,fz h5 hm.size,Oe h4 hm O.size ac⟩);intro l x I K V;exact rg aa<|p (cE (str x.2) aa)<|nl<|tn<|V;intro l pre x rest I aL ai;obtain ⟨v,ae,G,al,an,ah⟩:=ai;obtain ⟨a2,a5,a6⟩:=EG aL;have a0:=pH s;have a4:=(dO.1 al).1;refine aT<|rg aa<|p (ld kj aa<|(bg ae).trans aa)<|p mv<|e<|gz gq aa aa fun aS aN aj E ay=> ?_;have aA:Wk w aN:=Md.trans ah E.md;have aj:=E.md.aT ae;refine e<|ap gq (a7 G E.md) aa (fz an E.md.size) aa (aM.ec ay) (aa) (aa) ab ab fun v17 a9 am Y a8 aZ=> ?_;have aC:=Wk.own aA (a7 G E.md) Y O.size;have aJ:=Y.aT (E.md.aT al) fun h=>by have :=dQ (a7 G E.md) h; omega
 have ak:=Y.aT aj fun h=>dX (a7 G E.md) aj aB h;refine e<|dx Jc aa aa (fy am) ak (by simp) fun aP Z az=> ?_;have aD:Wk w aP:=Md.trans' aC Z fun k hk h=>by omega
 exact nl<|bn<|⟨(kU.wk E.md).trans ((kU.md Y<|xM<|a7 G E.md).trans<|kU.md Z fun k hk=>⟨_,_,_,hk ▸ ak⟩),v17,az,dw (by rw [gW,gW,bL]; exact am) Z (fun k hk h=>dX am ak aB<|h ▸ hk),Z.aT aJ (fun h=>by omega),fz an (fz E.md.size<|fz Y.size Z.size),aD⟩
 intro D I aU ai V;obtain ⟨v,ae,G,al,an,ah⟩:=ai;have a1:=(dO.1 V).1;refine jv<|jk<|jU<|rg aa<|p (ld kj aa<|(bg ae).trans aa)<|p aE<|p aE<|nl<|jv<|Fj<|JR aa aa aa V ?_;have J:¬65536 < s.length:=ab;rw [EH,MT] at G;exact ⟨⟨v,by show gV #[v,.int .i64 0]=_; rw [if_neg J],by rw [if_neg J]; exact eQ (dw G (vb _ _ _) fun k hk h=>by obtain ⟨c,e,z,h1⟩:=xM G k hk; rw [h,V] at h1; cases h1) O.size⟩,Md.trans' ah (vb _ _ _) fun k hk h=>by have :=O.size; omega⟩
set_option maxHeartbeats 1000000 in
theorem NA (s:List UInt8) (w:World) (hs:s.length≤1048576):
 bm aw 70 (bh [str s]) w (fun v w'=>(∃ a,v= .tuple #[a,.int .i64 (if 65536 < s.length then 10 else 0)]∧(if 65536 < s.length then a= .slice none 0 0 else ∃ vs,bz w' w.heap.size 181 2 a (bZ s).length (lg vs)∧iQ w' w.heap.size 9 vs (bZ s)))∧Wk w w'):=by
 refine JJ [] func70 aa ntmps70 aa ?_;refine jk<|jU<|rg aa<|p aE<|p aE<|nl<|jv<|jk<|jk<|jU<|rg aa<|p (aX (str s) aa)<|p (cR u9 aa aa)<|p (gt aa aa)<|nl<|jv<|jU<|cd aa (fun bB=> ?_) fun bB=> ?_;refine sq fun aL ai=>rg aa<|p aE<|p aE<|nl<|tn<|ai _ _<|rt<|prt<|JQ aa aa aa ?_;have Y:65536 < s.length:=ab;exact ⟨⟨.slice none 0 0,by show gV #[.slice none 0 0,.int .i64 10]=_; rw [if_pos Y],by rw [if_pos Y]⟩,Md.refl _ _⟩;refine aQ<|jv<|jk<|jU<|rg aa<|e<|gk adT fun an bY ca bu aP=>nl<|jv<|jk<|jk<|jU<|rg aa<|p (aX (str s) aa)<|e<|cl HJ (Jy s _) aa fun cn av bv=> ?_;obtain ⟨ay,rfl,b8,aO,aS⟩:=bv;have ac:Wk w av:=Md.trans bu.md aS;have ci:an < bY.heap.size:=(dO.1 aP).1;have bx:=aS.aT aP;have b9:=(dO.1 aO).1;have Y:s.length≤65536:=ab;refine nl<|jv ?_;apply Nz (zq) (kp 1<|bP s) (fun W=>W.heap[ay]? =some (.cells [str s].toArray 9 (0,0))) (fun pre J=> ∃ v vs,J.heap[an]? =some (.cells [v].toArray 156 (0,0))∧bz J av.heap.size 181 2 v (l5 1<|pre.map oU).length (lg vs)∧iQ J av.heap.size 9 vs (l5 1<|pre.map oU)∧J.heap[ay]? =some (.cells [str s].toArray 9 (0,0))∧av.heap.size≤J.heap.size∧Wk w J) rfl HY (fun _=>rfl) (Jx s ay Y) (⟨.slice none 0 0,[],bx,dK _ _ _ _,iQ.nil _ _ _,aO,cU _,ac⟩) (fun _ _ ⟨_,_,_,_,_,h,_⟩=>h) (fun pre A C F ⟨v,vs,h1,h2,a9,h3,h5,h4⟩ hm ah=>⟨v,vs,AU h1 hm ah,Od h2 hm ah,a9.md hm (fun k hk cur z=>(ah k hk).2 cur _ z),AU h3 hm ah,fz h5 hm.size,Oe h4 hm ac.size ah⟩);intro l x J K ae;exact sq fun aL ai=>rg aa<|p (cE (.int .i64 x.1) aa)<|nl<|tn<|ai _ _<|rg aa<|p (cE (str x.2) aa)<|nl<|tn<|ae;intro l pre x rest J bT aC;obtain ⟨v,vs,aI,al,aq,aH,au,aA⟩:=aC;obtain ⟨ch,bU,bV⟩:=EG bT;have ce:=pH s;have cj:=(dO.1 aH).1;have ck:x.2.length≤s.length:=Em<|by rw [bV]; simp
 have cc:=wY x.2 [];have bJ:=Fg (pre.map oU) 1;rw [fP] at bJ;refine aT<|sq fun aL ai=>rg aa<|p mv<|e<|cl RM (WB x.2 _ ab) aa fun co a1 bw=> ?_;obtain ⟨ak,bi⟩:=bw;obtain ⟨E,ao,rfl⟩:=cJ ak;have aU:=(ba ak).2;have bC:=(ba ak).1;refine p aE<|nl<|tn<|ai _ _ ?_;refine eo (fun a4 ax=> ∃ (n cp:Nat),(n≤(da [] x.2).length)∧(n≤cp)∧(pG (da [] x.2)=(da [] x.2).take n)∧(Wk a1 ax)∧(Sl a4 [(4,.pointer (some ⟨an,0,none⟩)),(5,.int .i64 x.1),(7,.slice E n cp)])) ?_ ?_;refine sq fun a6 aD=>rg aa<|p mv<|p (bM fq aa aa)<|p mv<|nl<|tn<|aD _ _<|aT<|lp (fun aN a5 a3=> ∃ (i:Nat),(i≤(da [] x.2).length)∧(∀ q,q < i→xS ((da [] x.2).getD q [])=false)∧(Wk a1 a3)∧(Sl a5 [(4,.pointer (some ⟨an,0,none⟩)),(5,.int .i64 x.1),(7,.slice E (da [] x.2).length ao),(19,.slice E (da [] x.2).length ao),(20,.int .i64 (da [] x.2).length),(21,.int .i64 i)])∧((da [] x.2).length - i=aN)) _ ⟨0,ab,(fun q bI=>by omega),(Md.refl _ _),aa,aa⟩ ?_;rintro aN a5 a3 ⟨i,hi,aK,ag,bR,rfl⟩;refine bG bR<|sq fun b1 bo=>rg aa<|p (lt aa aa)<|nl<|tn<|bo _ _<|sq fun b2 bp=>cd aa (fun bD=> ?_) fun bD=> ?_;refine aQ<|tn<|bp _ _<|sq fun b3 bq=>aT<|sq fun b4 br=>rg aa<|p (aX (.int .i64 i) aa)<|p (bc db aa aa ab<|aM.ok (aU.wk ag)<|cg ab)<|p (ld bX aa<|cM.get (i:=i) (aU.wk ag) ab)<|p (cE (.int .i64 i) aa)<|p aE<|nl<|tn<|br _ _<|sq fun b5 bs=>rg aa<|p mv<|p (jJ 0 u9 aa aa<|l7.2 (Dw _ _ _<|Xv ab).1)<|p (bQ aa aa)<|nl<|tn<|bs _ _<|cd aa (fun bE=> ?_) fun bE=> ?_;exact sq fun b6 bt=>rg aa<|p (aX (.slice E (da [] x.2).length ao) aa)<|p (aX (.int .i64 i) aa)<|p (aX (.int .i64 i) aa)<|p (T8 db aa aa aa ab)<|p aE<|nl<|tn<|bt _ _<|ext<|p6 aB<|te _<|te _<|be<|tn<|⟨i,i,hi,(cU _),(Ae hi aK<|.inr<|decide_eq_true ab),ag,aa⟩
 exact aQ<|bn<|tn<|bq _ _<|rg aa<|p (ad aa aa<|cB ab)<|p mv<|nl<|tn<|⟨_,ab,i+1,ab,(fun q bI=>by rcases fM q i with h | h <;> first | exact aK q h | (rw [show q=i by omega]; exact decide_eq_false ab)),ag,aa,aa⟩
 exact ext<|te _<|te _<|be<|tn<|⟨(da [] x.2).length,ao,(cU _),bC,(by have h:=Ae hi aK (.inl ab); rwa [show i=(da [] x.2).length from by omega] at h),ag,aa⟩
 rintro a4 ax ⟨n,cp,hn,bH,aW,az,bO⟩;refine bG bO ?_;have G:Wk J ax:=Md.trans bi az;have aG:=G.aT aI;have aZ:=a7 al G;have a0:=aq.wk G;have aV:=G.aT aH;have aR:Wk w ax:=Md.trans aA G;refine sq fun a6 aD=>rg aa<|p (aX (.slice E n cp) aa)<|p (bM fq aa aa)<|p (gt aa aa)<|nl<|tn<|aD _ _<|cd aa (fun bF=> ?_) fun bF=> ?_;have am:l0 x.2 (1 +pre.length)= [(x.1,(da [] x.2).take n)]:=by unfold l0; rw [aW,if_neg (fun h=>by have h:=congrArg j7 h; rw [dP,gB] at h; omega),← bU]
 refine rg aa<|p (ld uq aa<|(bg aG).trans aa)<|p (aX (.int .i64 x.1) aa)<|p (aX (.slice E n cp) aa)<|p (dj (ps:= [(0,.int .i64 x.1),(1,.slice E n cp)]) (L:= [.int .i64 x.1,.slice E n cp]) acr aa<|aa)<|e<|kY N2 aa aa aa fun a8 a2 aF I bb=> ?_;have bd:bS a2.heap a8 [.int .i64 x.1,.slice E n cp]:=bb;have bj:Wk w a2:=Md.trans aR I.md;have Z:=a7 aZ I.md;have aF:=I.md.aT aG;refine e<|ap N2 (Z) aa (by have :=I.size; have :=G.size; omega) aa (aM.ec bd) (aa) (aa) ab ab fun bW cq aJ O cm cb=> ?_;have bk:=Wk.own bj Z O ac.size;have bA:=O.aT (I.md.aT aV) fun h=>by have :=dQ Z h; omega
 have aj:=O.aT aF fun h=>dX Z aF aB h;have bK:=(a0.wk I.md).md O<|iW Z aB;have aY:=dw (a7 (a7 ak az) I.md) O fun k hk=>nI (a7 (a7 ak az) I.md) Z aB hk;refine e<|dx I9 aa aa (fy aJ) aj (by simp) fun b0 V bf=> ?_;have bl:Wk w b0:=Md.trans' bk V fun k hk h=>by omega
 have bN:=(bK.md V<|fT aj aB).snoc (n:=x.1) (r:=(da [] x.2).take n) (v:= .slice E n cp)<|by rw [dP,Nat.min_eq_left hn,List.map_take]; exact (Tg.j6<|eQ (dw aY V fun k hk h=>dX aY aj aB<|h ▸ hk) au).clip bH
 exact nl<|bn<|⟨(kU.wk G).trans ((kU.wk I.md).trans<|(kU.md O<|xM Z).trans<|kU.md V fun k hk=>⟨_,_,_,hk ▸ aj⟩),bW,vs++ [(x.1,.slice E n cp)],bf,(by rw [gW,show [x].map oU= [x.2] from aa,oK,fP,am]; rw [bL,Fq]; exact dw aJ V fun k hk h=>dX aJ aj aB<|h ▸ hk),(by rw [gW,show [x].map oU= [x.2] from aa,oK,fP,am]; exact bN),V.aT bA (fun h=>by omega),fz au (fz G.size<|fz I.md.size<|fz O.size V.size),bl⟩
 have am:l0 x.2 (1 +pre.length)= []:=by unfold l0; rw [aW,if_pos (by rw [show n=0 by omega]; rfl)]
 exact aQ<|bn<|⟨kU.wk G,v,vs,aG,(by rw [gW,show [x].map oU= [x.2] from aa,oK,fP,am]; rw [eB]; exact aZ),(by rw [gW,show [x].map oU= [x.2] from aa,oK,fP,am]; rw [eB]; exact a0),aV,fz au G.size,aR⟩
 intro D J b7 aC ae;obtain ⟨v,vs,aI,al,aq,aH,au,aA⟩:=aC;have cf:=(dO.1 ae).1;refine jv<|jk<|jU<|rg aa<|p (ld uq aa<|(bg aI).trans aa)<|p aE<|p aE<|nl<|jv<|Fj<|JR aa aa aa ae ?_;have Y:¬65536 < s.length:=ab;rw [EH] at al aq;exact ⟨⟨v,by show gV #[v,.int .i64 0]=_; rw [if_neg Y],by rw [if_neg Y]; exact ⟨vs,eQ (dw al (vb _ _ _) fun k hk h=>by obtain ⟨c,e,z,h1⟩:=xM al k hk; rw [h,ae] at h1; cases h1) ac.size,(aq.md (vb _ _ _) fun k hk cur z=>by rw [hk,ae]; simp).mono ac.size⟩⟩,Md.trans' aA (vb _ _ _) fun k hk h=>by have :=ac.size; omega⟩
end Go.Hb
section
namespace Go.Hb.iZ
open Go.Hb.oV
theorem r8 {eof ln:Nat} {F F':aU} {hs:List Tx} {rows rows':List Rw} {row:List Tx} (A:cH eof F hs rows ln row= .ok (F',rows')):rows'.length≤rows.length:=by
 unfold cH at A
 repeat' split at A
 · unfold kr at A; split at A; cases A; cases A; exact cU _
 · unfold kM at A; repeat' split at A
   all_goals first | (cases A; done) | (cases A; exact cU _)
 · unfold mU at A; split at A; cases A; cases A; exact cU _
 · unfold mZ at A; split at A; cases A; cases A; exact cU _
 · unfold k9 at A; repeat' split at A
   all_goals first | (cases A; done) | (cases A; exact cU _)
 · unfold kq at A; repeat' split at A
   all_goals first | (cases A; done) | (cases A; exact (xu _ _ _<|by assumption).1)
 · unfold j9 at A; repeat' split at A
   all_goals first | (cases A; done) | (cases A; exact (xu _ _ _<|by assumption).1)
 · unfold ic at A; repeat' split at A
   all_goals first | (cases A; done) | (cases A; exact (xu _ _ _<|by assumption).1)
theorem xR {eof k:Nat} {F:aU} {hs:List Tx} :ir eof k F hs []= .ok F:=by cases k <;> simp [ir]
section
variable {eof k n:Nat} {F:aU} {hs:List Tx} {r:List Tx} {rest:List Rw} {T:Except (Nat×Nat) aU} (h:ir eof k F hs ((n,r)::rest)=T) (hk:rest.length+1≤k)
include h hk
theorem Nl (A:width (r.getD 0 [])=0):T= .error (n,110):=by
 obtain ⟨m,rfl⟩:∃ m,k=m+1:=⟨k - 1,ab⟩
 rw [← h,ir,if_pos A]
theorem Nn (A:width (r.getD 0 [])≠0) (h1:r.length≠width (r.getD 0 [])):T= .error (n,111):=by
 obtain ⟨m,rfl⟩:∃ m,k=m+1:=⟨k - 1,ab⟩
 rw [← h,ir,if_neg A,if_pos h1]
theorem E6 (A:width (r.getD 0 [])≠0) (h1:r.length=width (r.getD 0 [])) (h2:width (r.getD 0 [])≠4) (h3:r.getD 0 []∈hs):T= .error (n,112):=by
 obtain ⟨m,rfl⟩:∃ m,k=m+1:=⟨k - 1,ab⟩
 have hw:width (r.getD 0 [])=2:=by
  unfold width at A h2 ⊢;split
  · rfl
  · rename_i hn;rw [if_neg hn] at A h2;split at h2
    · exact absurd aa h2
    · rename_i C; rw [if_neg C] at A; exact absurd rfl A
 rw [← h,ir,if_neg A,if_neg (fun h4=>h4 h1),if_pos ⟨hw,h3⟩]
theorem E7 {e:Nat×Nat} (A:width (r.getD 0 [])≠0) (h1:r.length=width (r.getD 0 [])) (h2:width (r.getD 0 [])=2→r.getD 0 []∉hs) (h3:cH eof F hs rest n r= .error e):T= .error e:=by
 obtain ⟨m,rfl⟩:∃ m,k=m+1:=⟨k - 1,ab⟩
 rw [← h,ir,if_neg A,if_neg (fun h4=>h4 h1),if_neg (fun h4=>h2 h4.1 h4.2),h3]
theorem E8 {F':aU} {rows':List Rw} (A:width (r.getD 0 [])≠0) (h1:r.length=width (r.getD 0 [])) (h2:width (r.getD 0 [])=2→r.getD 0 []∉hs) (h3:cH eof F hs rest n r= .ok (F',rows')):ir eof (k - 1) F' (hs++ [r.getD 0 []]) rows'=T∧rows'.length≤k - 1:=by
 obtain ⟨m,rfl⟩:∃ m,k=m+1:=⟨k - 1,ab⟩
 refine ⟨?_,by have :=r8 h3; omega⟩;rw [← h,ir,if_neg A,if_neg (fun h4=>h4 h1),if_neg (fun h4=>h2 h4.1 h4.2),h3]; rfl
end
theorem G7 {s:Tx} (h:65536 < s.length):fQ s= .error (0,10):=by unfold fQ; rw [if_pos h]
theorem pZ {s:Tx} {e:Nat×Nat} (h:¬65536 < s.length) (h1:ir ((bP s).length+1) (bZ s).length iR [] (bZ s)= .error e):fQ s= .error e:=by unfold fQ; rw [if_neg h,h1]
theorem BT {s:Tx} {F:aU} {q:c7} (h:¬65536 < s.length) (h1:ir ((bP s).length+1) (bZ s).length iR [] (bZ s)= .ok F) (h2:F.rules.find? (o5 F)=some q):fQ s= .error (q.line,118):=by unfold fQ; rw [if_neg h,h1]; simp only; rw [h2]
theorem G9 {s:Tx} {F:aU} (h:¬65536 < s.length) (h1:ir ((bP s).length+1) (bZ s).length iR [] (bZ s)= .ok F) (h2:F.rules.find? (o5 F)=none):fQ s= .ok F:=by unfold fQ; rw [if_neg h,h1]; simp only; rw [h2]
def sc (s:Tx):Value:=match jg s with | some (.agg cs)=>cs.getD 1 .nilFunc | _=> .nilFunc
theorem Yh (s:Tx):(jg s).getD (.agg #[.int .i64 0,.nilFunc])= .agg [.int .i64 (width s:Nat),sc s].toArray∧(jg s).isSome=decide (width s≠0):=by
 rcases D8 s with h | ⟨wd,f,h,hw,A⟩
 · have A:=LD h;unfold sc;rw [h,A]; exact ⟨rfl,rfl⟩
 · unfold sc;rw [h,hw,decide_eq_true A]; exact ⟨rfl,rfl⟩
theorem Yp (s:Tx):[gP .i64 (width s:Nat),sc s].all gw=true :=by
 rcases D8 s with h | ⟨wd,f,h,hw,A⟩ <;> unfold sc <;> rw [h] <;> rfl
theorem LC {s:Tx} (h:width s≠0):∃ v,jg s=some v∧∀ (wd:Nat) (f:Nat),v= .agg [.int .i64 (wd:Nat),.func (.func f) #[] #[]].toArray→sc s= .func (.func f) #[] #[]:=by
 rcases D8 s with h1 | ⟨wd,f,h1,hw,C⟩
 · exact absurd (LD h1) h
 · refine ⟨_,h1,fun E A he=> ?_⟩;unfold sc;rw [h1,he]; rfl
theorem NO {f:Value→Option Value} {seen:List Tx} (k:Tx) (A:∀ s:Tx,(f<|str s).getD (.int .i64 0)= .int .i64 (seen.count s:Nat)) (s:Tx):(bU f (str k) (.int .i64 (seen.count k+1:Nat))<|str s).getD (.int .i64 0)= .int .i64 ((seen++ [k]).count s:Nat):=by
 rw [List.count_append];by_cases h:s=k
 · subst h; rw [oI]; simp
 · rw [mm (fun h2=>h<|str_inj.1 h2),A s,List.count_singleton,show (k==s)=false from by simpa using fun h2=>h h2.symm]; rfl
theorem dI.NN {w w':World} {B:Nat} {H:dD} {F:aU} {R:iO} {rows:List Rw} {ln:Nat} {seen E:List Tx} {f:Value→Option Value} (h:dI w B H F R rows ln seen) (hm:Md (fun k=>k=H.ms) w w') (G:di w'.heap H.ms jT f) (hd:∀ s:Tx,(f<|str s).getD (.int .i64 0)= .int .i64 (E.count s:Nat)):dI w' B H F R rows ln E:=by
 obtain ⟨g,J,O⟩:=h.tm;obtain ⟨f0,I,_⟩:=h.sm;have A:TF w [1] (fun k=>k=H.ms):=TF.eq (eR I) aB;exact ⟨hm.iT A h.cells aB,h.rws.md hm (fun k hk cur z C=>A.no (dN C) aB hk),h.rt.md hm (fun k hk cur z C=>A.no (dN C) aB hk),⟨f,G,hd⟩,⟨g,J.md hm (fun h2=>h.ne.1 h2.symm),O⟩,cQ h.on hm A aB,h.lo,h.ne⟩
theorem ei.ms {w w':World} {B:Nat} {H:dD} {F A:aU} {V:fH} {R:iO} {rows:List Rw} {ln:Nat} {seen:List Tx} (h:ei w B H.fb H.mc A V) (C:dI w B H F R rows ln seen) (hm:Md (fun k=>k=H.ms) w w'):ei w' B H.fb H.mc A V:=by
 obtain ⟨g,E,_⟩:=C.sm;exact h.md (L:= [1]) hm (TF.eq (eR E) aB) aB fun h=>C.ne.2.1 h.symm
theorem fW.ms {w w':World} {B:Nat} {H:dD} {F:aU} {R:iO} {rows:List Rw} {ln:Nat} {seen:List Tx} (A:dI w B H F R rows ln seen) (hm:Md (fun k=>k=H.ms) w w'):fW B H w w':=hm.mono fun k _ hk=>⟨hk ▸ A.lo.2.1,.inl hk⟩
structure qH (w0 w:World) (H:dD) (b2 b3 bt:Nat):Prop where
 c2:w.heap[b2]? =some (.cells [.pointer none].toArray 88 (0,0))
 c3:w.heap[b3]? =some (.cells [.int .i64 0,.int .i64 0,.int .i64 0].toArray 45 (0,0))
 lo:w0.heap.size≤b2∧w0.heap.size≤b3∧b2≠b3
 tb:∃ f,di w.heap bt jT f∧∀ s,f (str s)=jg s
 ne:bt≠H.ms∧bt≠H.mt∧bt≠H.mc
 wk:Wk w0 w
theorem qH.md {w0 w w':World} {H:dD} {A C E:Nat} (h:qH w0 w H A C E) (hm:Wk w w'):qH w0 w' H A C E:=by
 obtain ⟨f,G,I⟩:=h.tb;exact ⟨Wk.aT hm h.c2,Wk.aT hm h.c3,h.lo,⟨f,G.wk hm,I⟩,h.ne,h.wk.trans hm⟩
theorem qH.mw {w0 w w':World} {H:dD} {A C E:Nat} {F:aU} {R:iO} {V:fH} {rows:List Rw} {ln:Nat} {seen:List Tx} (h:qH w0 w H A C E) (J:ei w w0.heap.size H.fb H.mc F V) (G:dI w w0.heap.size H F R rows ln seen) (hm:fW w0.heap.size H w w'):qH w0 w' H A C E:=by
 obtain ⟨f,I,Y⟩:=h.tb;obtain ⟨f1,O,_⟩:=G.sm;obtain ⟨f2,Z,_⟩:=G.tm;obtain ⟨f3,aa,_⟩:=J.cm;have hn:=fun e (ab:([169,166,191,53,194,136,5]:List Nat).contains (e+2)=false)=>Wr.ne (B:=w0.heap.size) (eR O) (eR Z) (eR aa) ab;refine ⟨hm.aT h.c2 (fun hk=>hn 88 aB _ hk _ _ h.c2),hm.aT h.c3 (fun hk=>hn 45 aB _ hk _ _ h.c3),h.lo,⟨f,I.md hm ?_,Y⟩,h.ne,hm.wk h.wk<|cU _⟩;rintro ⟨_,h1 | h1 | h1 | h1⟩
 · exact h.ne.1 h1
 · exact h.ne.2.1 h1
 · exact h.ne.2.2 h1
 · rw [eR I] at h1; exact absurd h1 aB
def Qy (w':World) (B:Nat) (F:aU) (v:Value):Prop := ∃ fb mc V,v= .tuple #[.pointer (some ⟨fb,0,none⟩),.agg [.int .i64 0,.int .i64 0,.int .i64 0].toArray]∧ei w' B fb mc F V∧(∃ seen,lj F [] seen)∧Nx F
def Qx (e:Nat×Nat) (v:Value):Prop :=v= .tuple #[.pointer none,.agg [.int .i64 1,.int .i64 (e.1:Nat),.int .i64 (e.2:Nat)].toArray]
def qL (s:Tx) (w:World) (v:Value) (w':World):Prop :=(match fQ s with | .ok F=>Qy w' w.heap.size F v | .error e=>Qx e v)∧Wk w w'
theorem qL.no {s:Tx} {w w':World} {l e:Nat} (h:fQ s= .error (l,e)) (hm:Wk w w'):qL s w (.tuple #[.pointer none,.agg [.int .i64 1,.int .i64 (l:Nat),.int .i64 (e:Nat)].toArray]) w':=by
 unfold qL; rw [h]; exact ⟨rfl,hm⟩
theorem tC {n:Nat} {G:List Nat} {fn:Func} {σ:Nat→Value} {s:Tx} {w W:World} {H:dD} {C E I l e:Nat} (O:fn.results= #[.cell 2 88,.cell 3 45]) (J:3 < n) (V:σ 2= .pointer (some ⟨C,0,none⟩)) (Y:σ 3= .pointer (some ⟨E,0,none⟩)) (A:qH w W H C E I) (Z:fQ s= .error (l,e)):qb ⟨n,[{target:= .fn (.func 72) #[.pointer (some ⟨C,0,none⟩),.pointer (some ⟨E,0,none⟩)],args:= #[]}],G,none⟩ (rI aw fn<|qL s w) (.panic<|jS 45 l (e:Nat)) σ W:=
 aa9 O J V Y ⟨_,A.c2⟩ ⟨_,rfl,A.c3⟩ A.lo.2.2 (fun w' hm=>qL.no Z<|A.wk.trans' hm fun k hk h=>by rcases h with rfl | rfl; have :=A.lo.1; omega; have :=A.lo.2.1; omega)
theorem Vt {x:Nat} (h:x≠0):eV iR x=false :=by
 unfold eV iR ej;simp [h]
theorem Wk.dr {w:World} :Wk w w.drew:=(Md.refl _ _).drew
theorem QQ (s:Tx) (w:World) (hs:s.length≤1048576):
 bm aw 39 (bh [str s]) w (qL s w):=by
 refine V9 [2,3] func39 aa ntmps39 aa ?_;refine jk<|jU<|rg aa<|e<|gk adX fun aK fg eE cu cT=>e<|gk rq fun aL en eH bv c0=> ?_;have eX:=cu.size;have e2:=bv.size;have dc:Wk w en:=cu.md.trans bv.md;have d4:=Wk.aT bv.md cT;refine nl<|jv<|jk<|jU<|rg aa<|p (aX (str s) aa)<|e<|cl Iy (NA s _ hs) aa fun fc ff dE=> ?_;obtain ⟨⟨eB,rfl,cy⟩,hE15⟩:=dE;have ch:=dc.trans hE15;have cD:=Wk.aT hE15 d4;have cE:=Wk.aT hE15 c0;have eW:=hE15.size;refine p mv<|p (xt aa aa)<|p (xt aa aa)<|p aE<|p aE<|nl<|jv<|jk<|jk<|jU<|rg aa<|p mv<|p (dd aa aa)<|nl<|jv<|jU<|cd aa (fun bF=> ?_) fun bF=> ?_;have cx:65536 < s.length:=Classical.byContradiction fun h=>bF<|by rw [if_neg h]
 exact sq fun cK bq=>rg aa<|p mv<|p (dj (ps:= [(0,.int .i64 1),(2,.int .i64 (if 65536 < s.length then 10 else 0))]) (L:= [.int .i64 1,.int .i64 0,.int .i64 (if 65536 < s.length then 10 else 0)]) vp aa<|aa)<|e<|dx C3 aa aa (v:= .pointer none) aa cD aB fun fo cs c6=>e<|fU km aa aa aa aa (cs.aT cE fun h=>by omega) aB fun fr ct c7=>nl<|tn<|bq _ _<|rt<|prt<|Wv (AD aa (oL<|Fh aa aa<|(bg<|ct.aT c6 fun h=>by omega).trans aa)<|oL<|ed aa aa aa fun j eN=>by rw [iM,bg c7,if_pos cx]; simp)<|qL.no (G7 cx)<|(ch.trans' cs fun k hk h=>by omega).trans' ct fun k hk h=>by omega
 have ap:¬65536 < s.length:=fun h=>bF<|by rw [if_pos h]; decide
 rw [if_neg ap] at cy;obtain ⟨vs,cC,d5⟩:=cy;obtain ⟨ar,cr,rfl⟩:=cJ cC;refine aQ<|jv<|jk<|jU<|rg aa<|p (aX (str s) aa)<|e<|cl Iz (N8 s _ hs) aa fun v24 cH dF=> ?_;obtain ⟨⟨a24,rfl,cz⟩,hE24⟩:=dF;rw [if_neg ap] at cz;obtain ⟨e7,rR,rfl⟩:=cJ cz;have da:=ch.trans hE24;have eO:=pH s;have eY:=hE24.size;refine p mv<|p (xt aa aa)<|p (xt aa aa)<|p aE<|p aE<|nl<|jv<|jk<|jU<|rg aa<|e<|tA fun O fi eF cv cY=> ?_;have e0:=cv.size;refine p (dj (ps:= [(1,.map (some O))]) (L:= [.int .i64 0,.string ⟨⟨[]⟩⟩,.string ⟨⟨[]⟩⟩,.int .u16 0,.int .u16 0,.int .u16 0,.int .u16 0,.int .u16 0,.int .i64 0,.slice none 0 0,.slice none 0 0,.slice none 0 0,.slice none 0 0,.map (some O)]) acp aa<|aa)<|e<|og aa fun I fj eG bu cZ=> ?_;have e1:=bu.size;refine p mv<|p mv<|p (bM fq aa aa)<|p (bJ (((bP s).length+1:Nat):Int) aa aa<|bp ab ab)<|e<|tA fun Z fk eI bd c4=> ?_;have e3:=bd.size;refine e<|tA fun ac fl eJ a0 c5=> ?_;have e4:=a0.size;refine p (dj (ps:= [(0,.pointer (some ⟨I,0,none⟩)),(1,.slice ar (bZ s).length cr),(3,.int .i64 ((bP s).length+1:Nat)),(4,.map (some Z)),(5,.map (some ac))]) (L:= [.pointer (some ⟨I,0,none⟩),.slice ar (bZ s).length cr,.int .i64 0,.int .i64 ((bP s).length+1:Nat),.map (some Z),.map (some ac),.slice none 0 0]) acq aa<|aa)<|e<|og aa fun A aI eK aP bl=> ?_;have e6:=aP.size;have dV:=Wk.aT (bd.md.trans<|a0.md.trans aP.md) cZ;refine p aE<|nl<|jv<|jk<|jU ?_;have ak:(fun w'=>Md (fun k=>k=I) aI w') aI.drew:=(Md.refl _ _).drew;refine bY (fun w'=>Md (fun k=>k=I) aI w') aa wide ak<|hp 0 aa aj (fun _ _=>mv) ak<|hp 1 aa aj (fun _ _=>nc aa) ak<|hp 2 aa aj (fun _ _=>fa iU aa) ak<|hp 3 aa aj (fun w' J=>ld gF aa<|Md.aW J ((bg bl).trans aa) fun h=>by omega) ak<|hp 4 aa aj (fun _ _=>mv) ak<|hp 5 aa aj (fun _ _=>nc aa) ak<|hp 6 aa aj (fun _ _=>fa iU aa) ak<|hp 7 aa aj (fun w' J=>ld gF aa<|Md.aW J ((bg bl).trans aa) fun h=>by omega) ak<|hp 8 aa aj (fun _ _=>nc aa) ak<|hp 9 aa aj (fun _ _=>fa il aa) ak<|hp 10 aa aj (fun _ _=>fa uQ aa) ak<|he 11 aa aj<|dx gR aa aa (v:= .int .i64 (1:Nat)) aa dV (by show 0 +0 +0 < 14; decide) fun er dv c8=> ?_;have a1:(fun w'=>Md (fun k=>k=I) aI w') er:=ak.trans' dv fun _ _ h=>h;refine ⟨a1,?_⟩;refine hp 12 aa aj (fun _ _=>nc aa) a1<|hp 13 aa aj (fun _ _=>fa il aa) a1<|hp 14 aa aj (fun _ _=>fa Dz aa) a1<|he 15 aa aj<|dx gR aa aa (v:= .int .i64 (3:Nat)) aa c8 (by show _ < 14; decide) fun es dw c9=> ?_;have bE:(fun w'=>Md (fun k=>k=I) aI w') es:=a1.trans' dw fun _ _ h=>h;refine ⟨bE,?_⟩;refine hn aj<|jv<|jk<|VH Zl #[.pointer (some ⟨aK,0,none⟩),.pointer (some ⟨aL,0,none⟩)] aa aB ?_;refine jk<|jU<|rg aa<|e<|cl Ty (Ym _) aa fun v53 ao dH=> ?_;obtain ⟨aD,rfl,eM,eb,ci⟩:=dH;have de:Wk cH aI:=cv.md.trans<|bu.md.trans<|bd.md.trans<|a0.md.trans aP.md;have aO:Md (fun k=>k=I) aI ao:=bE.trans' ci fun _ _ h=>h.elim;have aZ:Wk cH ao:=Md.trans' de aO fun k hk h=>by omega
 have eU:=aO.size;have df:=da.trans aZ;have dR:ao.heap[I]? =some (.cells (qa iR ⟨.slice none 0 0,.slice none 0 0,.slice none 0 0,.slice none 0 0,[],[]⟩ O).toArray 164 (0,0)):=Wk.aT ci c9;have dT:ao.heap[A]? =some (.cells (xQ (⟨A,I,Z,ac,O,(bP s).length+1⟩:dD) ⟨.slice ar (bZ s).length cr,vs,.slice none 0 0⟩ 0).toArray 167 (0,0)):=aO.aT bl fun h=>by omega
 have dZ:di ao.heap O (k5 .u16) (fun _=>none):=di.md (di.wk (di.nil cY)<|bu.md.trans<|bd.md.trans<|a0.md.trans aP.md) aO fun h=>by omega
 have d0:di ao.heap Z jT (fun _=>none):=di.md (di.wk (di.nil c4)<|a0.md.trans aP.md) aO fun h=>by omega
 have d1:di ao.heap ac (k5 .u16) (fun _=>none):=di.md (di.wk (di.nil c5) aP.md) aO fun h=>by omega
 have dg:ei ao w.heap.size I O iR ⟨.slice none 0 0,.slice none 0 0,.slice none 0 0,.slice none 0 0,[],[]⟩:=⟨dR,dK _ _ _ _,dK _ _ _ _,eL.nil _ _ _,dK _ _ _ _,dK _ _ _ _,eL.nil _ _ _,⟨_,dZ,fun _=>rfl⟩,⟨ab,ab⟩,rfl⟩
 have dz:dI ao w.heap.size (⟨A,I,Z,ac,O,(bP s).length+1⟩:dD) iR ⟨.slice ar (bZ s).length cr,vs,.slice none 0 0⟩ (bZ s) 0 []:=⟨dT,(((Tg.j6 cC).mono ab).wk<|hE24.trans aZ).tgo,(d5.mono ab).wk (hE24.trans aZ),⟨_,d0,fun _=>rfl⟩,⟨_,d1,fun x b7=>by rw [Vt b7]; rfl⟩,dK _ _ _ _,⟨by show w.heap.size≤A; omega,by show w.heap.size≤Z; omega,by show w.heap.size≤ac; omega⟩,⟨by show Z≠ac; omega,by show Z≠O; omega,by show ac≠O; omega⟩⟩
 have eT:=AA s;have dO:St ao w.heap.size (⟨A,I,Z,ac,O,(bP s).length+1⟩:dD) iR (bZ s) 0 []:=⟨_,_,dg,dz,⟨by show 0 +0 +0 +0 +(bZ s).length≤70000; omega,by show 0 +(bZ s).length≤70000; omega,fun q b0=>by have h:=AB b0; exact ⟨h.2.2.1,ab,fun x b7=>by have :=(h.2.2.2.2 x b7).2; omega⟩,.inl rfl,fun l a7=>by cases a7⟩⟩
 have ea:kW iR []:=fun k hk _=>by have h:∀ k∈ez,iR.sp.getD (ez.idxOf k) 0=0:=aB
                                  exact h k hk
 have d2:Nx iR:=⟨fun l a7=>(by cases a7),fun l a7=>by cases a7⟩
 have eV:=bE.size;have d3:qH w ao (⟨A,I,Z,ac,O,(bP s).length+1⟩:dD) aK aL aD:=⟨Wk.aT (hE24.trans aZ) cD,Wk.aT (hE24.trans aZ) cE,⟨ab,ab,ab⟩,eb,⟨by show aD≠Z; omega,by show aD≠ac; omega,by show aD≠O; omega⟩,df⟩
 refine p aE<|nl<|jv<|jk<|jU<|aT<|lp (fun ce cI a9=> ∃ (k:Nat) (F:aU) (rows:List Rw) (ln:Nat) (seen:List Tx),(ir (⟨A,I,Z,ac,O,(bP s).length+1⟩:dD).eof k F seen rows=ir ((bP s).length+1) (bZ s).length iR [] (bZ s))∧(rows.length≤k)∧(St a9 w.heap.size (⟨A,I,Z,ac,O,(bP s).length+1⟩:dD) F rows ln seen)∧(kW F seen)∧(Nx F)∧(qH w a9 (⟨A,I,Z,ac,O,(bP s).length+1⟩:dD) aK aL aD)∧(Sl cI [(2,.pointer (some ⟨aK,0,none⟩)),(3,.pointer (some ⟨aL,0,none⟩)),(8,.pointer (some ⟨A,0,none⟩)),(9,.map (some aD))])∧(rows.length=ce)) _ ⟨(bZ s).length,iR,bZ s,0,[],aa,(cU _),dO,ea,d2,d3,aa,aa⟩ ?_;rintro ce cI a9 ⟨k,F,rows,ln,seen,am,hk,J,bj,bi,bU,d7,rfl⟩;refine bG d7 ?_;obtain ⟨V,R,Y,ax,aN⟩:=J;obtain ⟨vr,vs,vn⟩:=R;obtain ⟨cb,cc,ec⟩:=ax.rws.slice;obtain rfl :vr= .slice cb rows.length cc:=ec;refine sq fun cK bq=>sq fun et dl=>rg aa<|p (aX (.pointer<|some ⟨A,0,none⟩) aa)<|p (nc aa)<|p (fa xg aa)<|p (ld uq aa<|(bg ax.cells).trans aa)<|p (bM A2 aa aa)<|p (gt aa aa)<|nl<|tn<|dl _ _<|cd aa (fun bI=> ?_) fun bI=> ?_;obtain ⟨⟨n,r⟩,rest,rfl⟩:∃ q rest,rows=q::rest:=by
  cases rows with
  | nil=>exact absurd bI<|by simp
  | cons q rest=>exact ⟨q,rest,rfl⟩
 have b4:=aN.row (n,r)<|List.mem_cons_self ..;have dP:=aN.len;have dQ:=aN.sl;simp only [cV] at dP dQ hk;refine aQ<|tn<|bq _ _<|aT<|sq fun eu dn=>rg aa<|p (aX (.pointer<|some ⟨A,0,none⟩) aa)<|e<|cl IA (On w.heap.size (⟨A,I,Z,ac,O,(bP s).length+1⟩:dD) F ⟨.slice cb (rest.length+1) cc,vs,vn⟩ n r rest ln seen a9 ax) aa fun fd eo dJ=> ?_;obtain ⟨⟨R1,dA⟩,hT1,hM1⟩:=dJ;obtain ⟨ca,c1,rfl⟩:=hT1.slice;have dh:=Y.rb ax hM1;have cB:=bU.mw Y ax<|fW.rb ax hM1;have eS:0 < r.length:=l7.2 b4.1;have cf:=lj.qT aN;have cF:=Yh<|r.getD 0 [];obtain ⟨eC,dY,cA⟩:=cB.tb;refine p aE<|nl<|tn<|dn _ _<|sq fun ev dq=>rg aa<|p (aX (.map<|some aD) aa)<|p mv<|p (bc db aa aa ab<|aM.ok (hT1.dp.2)<|cg ab)<|p (ld bX aa<|cM.get (i:=0) hT1.dp.2 ab)<|p (Mi na ad0 ju (dY) aa aa (⟨_,aa⟩) ((congrArg (fun o=>Option.getD o _)<|cA<|r.getD 0 []).trans cF.1)<|(congrArg Option.isSome<|cA<|r.getD 0 []).trans cF.2)<|p mv<|p (xt aa aa)<|p (xt aa aa)<|e<|gk adU fun cP fe eD dy cR=>e<|fU Vj aa aa aa (Yp _) cR aB fun b9 du cS=> ?_;have bb:Wk eo b9:=dy.md.trans' du fun k hk h=>by omega
 have bf:b9.heap[cP]? =some (.cells [.int .i64 (width (r.getD 0 []):Nat),sc (r.getD 0 [])].toArray 174 (0,0)):=cS;have aA:=dh.wk bb;have ae:=dA.wk bb;have aR:=hT1.wk bb;have aC:=cB.md bb;refine p aE<|nl<|tn<|dq _ _<|sq fun ew ds=>rg aa<|p (aX (.pointer<|some ⟨A,0,none⟩) aa)<|p mv ?_;refine eP aa (eh jc (jj A n _ 110 b9 ae.dC aB) aa fun v72 ep dL=> ?_) (fun c w' ah aV Y=>by
  obtain ⟨rfl,ay,rfl⟩:=ah;exact tC aa aB ((Y 2<|.head _).trans aa) ((Y 3<|.tail _<|.head _).trans aa) aC (pZ ap<|Nl am hk<|jM.1<|of_decide_eq_false ay))
 obtain ⟨rfl,an,rfl⟩:=dL;have an:width (r.getD 0 [])≠0:=of_decide_eq_true an;refine nl<|tn<|ds _ _<|sq fun ex dt=>rg aa<|p (aX (.pointer<|some ⟨A,0,none⟩) aa)<|p mv<|p (bM fq aa aa)<|p (fa KJ aa)<|p (ld bD aa<|(bg bf).trans aa)<|p (bQ aa aa) ?_;refine eP aa (eh jc (jj A n _ 111 ep ae.dC aB) aa fun v79 az dM=> ?_) (fun c w' ah aV Y=>by
  obtain ⟨rfl,ay,rfl⟩:=ah;exact tC aa aB ((Y 2<|.head _).trans aa) ((Y 3<|.tail _<|.head _).trans aa) aC (pZ ap<|Nn am hk an fun h=>of_decide_eq_false ay<|by rw [h]))
 obtain ⟨rfl,aq,rfl⟩:=dM;have aq:r.length=width (r.getD 0 []):=by have :=of_decide_eq_true aq; omega
 refine nl<|tn<|dt _ _<|sq fun ey cn=> ?_;obtain ⟨e9,d8,d9⟩:=ae.sm;have C:(fun w'=>Wk az w') az.drew:=(Md.refl _ _).drew;refine bY (fun w'=>Wk az w') aa wide C<|hp 0 aa aj (fun _ _=>aX (.pointer<|some ⟨A,0,none⟩) aa) C<|hp 1 aa aj (fun _ _=>fa KJ aa) C<|hp 2 aa aj (fun w' J=>ld bD aa<|Wk.aW J<|(bg bf).trans aa) C<|hp 3 aa aj (fun _ _=>bQ aa aa) C<|hp 4 aa aj (fun _ _=>mv) C<|js (t:=84) aa (fun a6=> ?_) fun a6=> ?_;refine qg 5 aa aj aa aa aa aa C<|qg 6 aa aj aa aa aa aa C<|qg 7 aa aj aa aa aa aa C<|qg 8 aa aj aa aa aa aa C<|qg 9 aa aj aa aa aa aa C<|qg 10 aa aj aa aa aa aa C<|qg 11 aa aj aa aa aa aa C<|qg 12 aa aj aa aa aa aa C<|qg 13 aa aj aa aa aa aa C<|hp 14 aa aj (fun _ _=>bH aa) C ?_;refine uZ 15 aa aj aa (eh jc (jj A n _ 112 az.drew (Wk.aW C ae.dC) aB) aa fun el aJ bB=> ?_) (fun c w' ah aV Y=>by
  obtain ⟨rfl,ay,rfl⟩:=ah
  first
   | exact absurd ay aB
   | exact tC rfl aB ((Y 2<|.head _).trans rfl) ((Y 3<|.tail _<|.head _).trans rfl) (aC.md Wk.dr) (pZ ap<|E6 am hk an aq (fun h=>a6<|by rw [h]; rfl)<|jM.1 fun h=>of_decide_eq_false ay<|by rw [sP.2 h]; rfl))
 obtain ⟨rfl,b8,a8⟩:=bB;have aG:width (r.getD 0 [])=2→r.getD 0 []∉seen:=by
  first
   | exact fun h=>absurd a6 ab
   | exact fun _=>sP.1<|by have :=of_decide_eq_true b8; omega
 have E:Wk az aJ:=by rw [a8]; exact Wk.dr
 obtain ⟨ee,bS,bO⟩:=LC an;obtain ⟨cQ,b6,bK,bN⟩:=LH w.heap.size (⟨A,I,Z,ac,O,(bP s).length+1⟩:dD) F rest n seen r w.heap.size ca c1 aJ ⟨_,_,aA.wk E,ae.wk E,cf⟩ (aR.wk E) b4.2.2 aq bj aG ab bS;have bR:=bO _ _ b6;have bC:(fun w'=>Wk az w') aJ:=by rw [a8]; exact C
 refine ⟨bC,?_⟩;refine hn aj<|tn<|cn _ _<|sq fun cL br=>rg aa<|p (fa KK aa)<|p (ld Hc aa<|(bg<|Wk.aT E bf).trans<|congrArg some bR)<|p (aX (.pointer<|some ⟨A,0,none⟩) aa)<|p mv ?_;refine eP aa (O2 bK aa bN aa fun ek aH bx=> ?_) (fun c w' ah aV Y=>by
  obtain ⟨l,e,ag,rfl,av⟩:=ah;exact tC aa aB ((Y 2<|.head _).trans aa) ((Y 3<|.tail _<|.head _).trans aa) ((aC.md E).mw (aA.wk E) (ae.wk E) av) (pZ ap<|E7 am hk an aq aG ag))
 obtain ⟨rfl,F',rows',ln',ag,⟨cN,bk,aY,ai,au⟩,av⟩:=bx;have bW:=(aC.md E).mw (aA.wk E) (ae.wk E) av;obtain ⟨ef,b1,_⟩:=ae.sm;obtain ⟨eg,b2,_⟩:=ae.tm;obtain ⟨ej,b3,_⟩:=aA.cm;have a2:=(aR.wk E).md av<|Wr.ne (eR<|b1.wk E) (eR<|b2.wk E) (eR<|b3.wk E) aB;obtain ⟨fs,a4,a5⟩:=ai.sm;have dS:=vO (a:=r.getD 0 []) (l:=seen);have a3:=E8 am hk an aq aG ag;refine nl<|tn<|br _ _ ?_;have G:(fun w'=>Wk aH w') aH.drew:=(Md.refl _ _).drew;refine e5 (fun w'=>Wk aH w') 9 aa wide G<|lq 0 aa aj (fun _ _=>aX (.pointer<|some ⟨A,0,none⟩) aa) G<|lq 1 aa aj (fun _ _=>nc aa) G<|lq 2 aa aj (fun _ _=>fa uW aa) G<|lq 3 aa aj (fun w' J=>ld ur aa<|Wk.aW J<|(bg ai.cells).trans aa) G<|lq 4 aa aj (fun _ _=>mv) G<|lq 5 aa aj (fun _ _=>bc db aa aa ab<|aM.ok (aM.wk a2.dp.2 G)<|cg ab) G<|lq 6 aa aj (fun w' J=>ld bX aa<|Wk.aW J<|cM.get (i:=0) a2.dp.2 ab) G<|lq 7 aa aj (fun w' J=>mQ sA oO ju (di.md (a4) J id) aa aa (⟨_,aa⟩)<|a5<|r.getD 0 []) G<|lq 8 aa aj (fun _ _=>bJ ((seen.count (r.getD 0 [])+1:Nat):Int) aa aa<|bp ab ab) G<|dU 9 aa aj aj<|tK sA ju (a4.wk G) aa aa aa (⟨_,aa⟩) fun ba bs bw=> ?_;have aF:=iY bs;have bz:dI ba w.heap.size (⟨A,I,Z,ac,O,(bP s).length+1⟩:dD) F' bk rows' ln' (seen++ [r.getD 0 []]):=dI.NN ai aF bw<|NO _ a5;have bo:=ei.ms aY ai aF;have bV:=bW.mw aY ai<|fW.ms ai aF;have d6:=r8 ag;have G:St ba w.heap.size (⟨A,I,Z,ac,O,(bP s).length+1⟩:dD) F' rows' ln' (seen++ [r.getD 0 []]):=⟨_,_,bo,bz,⟨au.len,by rw [bL,fu]; omega,au.row,au.kd,au.al⟩⟩
 have b5:=LG bj ag;have bT:=z7 bi ag;exact eZ aj<|bn<|tn<|⟨_,by simp only [cV]; have :=r8 ag; omega,k - 1,F',rows',ln',seen++ [r.getD 0 []],a3.1,a3.2,G,b5,bT,bV,aa,aa⟩
 refine qf 5 aa aj aa aa aa (fun _ _=>aX (.pointer<|some ⟨A,0,none⟩) aa) C<|qf 6 aa aj aa aa aa (fun _ _=>nc aa) C<|qf 7 aa aj aa aa aa (fun _ _=>fa uW aa) C<|qf 8 aa aj aa aa aa (fun w' J=>ld ur aa<|Wk.aW J<|(bg ae.cells).trans aa) C<|qf 9 aa aj aa aa aa (fun _ _=>mv) C<|qf 10 aa aj aa aa aa (fun _ _=>bc db aa aa ab<|aM.ok (aM.wk aR.dp.2 C)<|cg ab) C<|qf 11 aa aj aa aa aa (fun w' J=>ld bX aa<|Wk.aW J<|cM.get (i:=0) aR.dp.2 ab) C<|qf 12 aa aj aa aa aa (fun w' J=>mQ sA oO ju (di.md (d8) J id) aa aa (⟨_,aa⟩)<|d9<|r.getD 0 []) C<|qf 13 aa aj aa aa aa (fun _ _=>bQ aa aa) C<|hp 14 aa aj (fun _ _=>bA aa) C ?_;refine uZ 15 aa aj aa (eh jc (jj A n _ 112 az.drew (Wk.aW C ae.dC) aB) aa fun el aJ bB=> ?_) (fun c w' ah aV Y=>by
  obtain ⟨rfl,ay,rfl⟩:=ah
  first
   | exact absurd ay aB
   | exact tC rfl aB ((Y 2<|.head _).trans rfl) ((Y 3<|.tail _<|.head _).trans rfl) (aC.md Wk.dr) (pZ ap<|E6 am hk an aq (fun h=>a6<|by rw [h]; rfl)<|jM.1 fun h=>of_decide_eq_false ay<|by rw [sP.2 h]; rfl))
 obtain ⟨rfl,b8,a8⟩:=bB;have aG:width (r.getD 0 [])=2→r.getD 0 []∉seen:=by
  first
   | exact fun h=>absurd a6 ab
   | exact fun _=>sP.1<|by have :=of_decide_eq_true b8; omega
 have E:Wk az aJ:=by rw [a8]; exact Wk.dr
 obtain ⟨ee,bS,bO⟩:=LC an;obtain ⟨cQ,b6,bK,bN⟩:=LH w.heap.size (⟨A,I,Z,ac,O,(bP s).length+1⟩:dD) F rest n seen r w.heap.size ca c1 aJ ⟨_,_,aA.wk E,ae.wk E,cf⟩ (aR.wk E) b4.2.2 aq bj aG ab bS;have bR:=bO _ _ b6;have bC:(fun w'=>Wk az w') aJ:=by rw [a8]; exact C
 refine ⟨bC,?_⟩;refine hn aj<|tn<|cn _ _<|sq fun cL br=>rg aa<|p (fa KK aa)<|p (ld Hc aa<|(bg<|Wk.aT E bf).trans<|congrArg some bR)<|p (aX (.pointer<|some ⟨A,0,none⟩) aa)<|p mv ?_;refine eP aa (O2 bK aa bN aa fun ek aH bx=> ?_) (fun c w' ah aV Y=>by
  obtain ⟨l,e,ag,rfl,av⟩:=ah;exact tC aa aB ((Y 2<|.head _).trans aa) ((Y 3<|.tail _<|.head _).trans aa) ((aC.md E).mw (aA.wk E) (ae.wk E) av) (pZ ap<|E7 am hk an aq aG ag))
 obtain ⟨rfl,F',rows',ln',ag,⟨cN,bk,aY,ai,au⟩,av⟩:=bx;have bW:=(aC.md E).mw (aA.wk E) (ae.wk E) av;obtain ⟨ef,b1,_⟩:=ae.sm;obtain ⟨eg,b2,_⟩:=ae.tm;obtain ⟨ej,b3,_⟩:=aA.cm;have a2:=(aR.wk E).md av<|Wr.ne (eR<|b1.wk E) (eR<|b2.wk E) (eR<|b3.wk E) aB;obtain ⟨fs,a4,a5⟩:=ai.sm;have dS:=vO (a:=r.getD 0 []) (l:=seen);have a3:=E8 am hk an aq aG ag;refine nl<|tn<|br _ _ ?_;have G:(fun w'=>Wk aH w') aH.drew:=(Md.refl _ _).drew;refine e5 (fun w'=>Wk aH w') 9 aa wide G<|lq 0 aa aj (fun _ _=>aX (.pointer<|some ⟨A,0,none⟩) aa) G<|lq 1 aa aj (fun _ _=>nc aa) G<|lq 2 aa aj (fun _ _=>fa uW aa) G<|lq 3 aa aj (fun w' J=>ld ur aa<|Wk.aW J<|(bg ai.cells).trans aa) G<|lq 4 aa aj (fun _ _=>mv) G<|lq 5 aa aj (fun _ _=>bc db aa aa ab<|aM.ok (aM.wk a2.dp.2 G)<|cg ab) G<|lq 6 aa aj (fun w' J=>ld bX aa<|Wk.aW J<|cM.get (i:=0) a2.dp.2 ab) G<|lq 7 aa aj (fun w' J=>mQ sA oO ju (di.md (a4) J id) aa aa (⟨_,aa⟩)<|a5<|r.getD 0 []) G<|lq 8 aa aj (fun _ _=>bJ ((seen.count (r.getD 0 [])+1:Nat):Int) aa aa<|bp ab ab) G<|dU 9 aa aj aj<|tK sA ju (a4.wk G) aa aa aa (⟨_,aa⟩) fun ba bs bw=> ?_;have aF:=iY bs;have bz:dI ba w.heap.size (⟨A,I,Z,ac,O,(bP s).length+1⟩:dD) F' bk rows' ln' (seen++ [r.getD 0 []]):=dI.NN ai aF bw<|NO _ a5;have bo:=ei.ms aY ai aF;have bV:=bW.mw aY ai<|fW.ms ai aF;have d6:=r8 ag;have G:St ba w.heap.size (⟨A,I,Z,ac,O,(bP s).length+1⟩:dD) F' rows' ln' (seen++ [r.getD 0 []]):=⟨_,_,bo,bz,⟨au.len,by rw [bL,fu]; omega,au.row,au.kd,au.al⟩⟩
 have b5:=LG bj ag;have bT:=z7 bi ag;exact eZ aj<|bn<|tn<|⟨_,by simp only [cV]; have :=r8 ag; omega,k - 1,F',rows',ln',seen++ [r.getD 0 []],a3.1,a3.2,G,b5,bT,bV,aa,aa⟩
 obtain rfl :rows= []:=by
  cases rows with
  | nil=>rfl
  | cons q rest=>exact absurd (by simp only [cV]; omega) bI
 rw [xR] at am;refine ext<|te _<|te _<|be<|jv<|jk<|jU<|rg aa<|p (aX (.pointer<|some ⟨A,0,none⟩) aa) ?_;refine eP aa (eh Tz (TY w.heap.size (⟨A,I,Z,ac,O,(bP s).length+1⟩:dD) F [] ln seen a9 ⟨_,_,Y,ax,aN⟩ bi.2) aa fun fb cG dB=> ?_) (fun c w' ah aV cj=>by
  obtain ⟨q,b0,rfl,bt⟩:=ah;exact tC aa aB ((cj 2<|.head _).trans aa) ((cj 3<|.tail _<|.head _).trans aa) (bU.mw Y ax bt) (BT ap am.symm b0))
 obtain ⟨rfl,dW,⟨cO,eA,e8,ck,dG⟩,bt⟩:=dB;have aS:=bU.mw Y ax bt;have eQ:=aS.lo;refine nl<|jv<|jk<|jU<|rg aa<|p (aX (.pointer<|some ⟨A,0,none⟩) aa)<|p (nc aa)<|p (fa iU aa)<|p (ld gF aa<|(bg dG.cells).trans aa)<|p (dj (ps:= []) (L:= [.int .i64 0,.int .i64 0,.int .i64 0]) vp aa<|aa)<|e<|dx C3 aa aa (v:= .pointer<|some ⟨I,0,none⟩) aa aS.c2 aB fun fh co cW=>e<|fU km aa aa aa aa (co.aT aS.c3 fun h=>by omega) aB fun em cp cX=> ?_;have cq:Md (fun k=>k=aK∨k=aL) cG em:=(co.mono fun _ _ h=> .inl h).trans' cp fun _ _ h=> .inr h;refine nl<|jv<|Fj ?_;have cw:TF cG [90,47] (fun k=>k=aK∨k=aL):=TF.or (TF.eq (dN aS.c2) aB)<|TF.eq (dN aS.c3) aB;obtain ⟨fm,dX,_⟩:=ck.cm;have dk:=ck.md cq cw aB<|cw.no (eR dX) aB;exact aba aa aB aa aa (cp.aT cW fun h=>by omega) cX aa (fun w' hm=>by
  unfold qL;rw [G9 ap am.symm dW];exact ⟨⟨I,O,cO,aa,dk.wk hm,⟨seen,aN⟩,bi⟩,(aS.wk.trans' cq fun k hk h=>by omega).trans hm⟩)
end Go.Hb.iZ
end
namespace Go.Hb.iw
def me (F:aU) (V:fH):List Value:= [.int .i64 (F.kind:Nat),str F.tg,str F.tr,bo (F.sp.getD 0 0),bo (F.sp.getD 1 0),bo (F.sp.getD 2 0),bo (F.sp.getD 3 0),bo (F.sp.getD 4 0),.int .i64 (F.least:Nat),V.v9,V.v10,V.v11,V.v12]
structure qG (w:World) (B:Nat) (F:aU) (V:fH):Prop where
 o9:bz w B 189 2 V.v9 F.dA.length (lF F.dA)
 fk:bz w B 51 1 V.v10 F.aliases.length V.sa
 al:eL w B 95 V.sa F.aliases
 eK:bz w B 192 5 V.v11 F.bE.length (oq F.bE)
 dM:bz w B 134 7 V.v12 F.rules.length (iG<|F.rules.zip V.rn)
 nx:eL w B 95 V.rn (F.rules.map (·.next))
theorem yU {w:World} {B e:Nat} {vs:List Value} {E:List (List Nat)} (h:eL w B e vs E):vs.all gw=true :=by
 rw [mz];intro v C;obtain ⟨i,hi⟩:=tZ C;have h1:=(fL.1 hi).1;obtain ⟨u,hu,A⟩:=eL.get h (i:=i)<|by rw [← h.1]; exact h1
 rw [hi] at hu; cases hu;obtain ⟨a,c,rfl⟩:=A.slice; rfl
theorem abE {w:World} {B e:Nat} {rs:List c7} {vs:List Value} {E:List (List Nat)} (h:eL w B e vs E):(iG<|rs.zip vs).all gw=true :=by
 rw [mz];intro v A;obtain ⟨q,C,A⟩:=List.mem_flatMap.1 A;have h1:=mz.1 (yU h) q.2 (List.of_mem_zip C).2;simp only [e6,fG,vS,or_false] at A;rcases A with rfl | rfl | rfl | rfl | rfl | rfl | rfl <;> first | rfl | exact h1
theorem abF {rs:List c7} {vs:List Value} {i:Nat} {v:Value} (hi:i < rs.length) (G:i < vs.length):(iG<|rs.zip vs).set (i*7 +6) v=iG (rs.zip<|vs.set i v):=by
 obtain ⟨r,E⟩:∃ r,rs[i]? =some r:=⟨_,cx hi⟩
 obtain ⟨u,hu⟩:∃ u,vs[i]? =some u:=⟨_,cx G⟩
 have I:(rs.zip vs)[i]? =some (r,u):=jW.2 ⟨E,hu⟩;have Y:rs.zip (vs.set i v)=(rs.zip vs).set i (r,v):=by
  apply qw;intro j;rw [lK];by_cases C:i=j
  · subst C;rw [if_pos rfl,if_pos (fL.1 I).1];exact jW.2 ⟨E,by simp [G]⟩
  · rw [if_neg C];cases h1:(rs.zip vs)[j]? with
    | none=>
      rw [List.getElem?_eq_none_iff,BH] at h1 ⊢;rw [yz]; exact h1
    | some q=>
      have h2:=jW.1 h1;exact jW.2 ⟨h2.1,by rw [lK,if_neg C]; exact h2.2⟩
 have Z:(rs.zip vs).length=min rs.length vs.length:=BH;have A:(iG<|rs.zip vs).length=(rs.zip vs).length*7:=mL (f:=e6) (m:=7) (fun _=>rfl) _;rw [Y,show iG ((rs.zip vs).set i (r,v))=(iG<|rs.zip vs).take (i*7)++e6 (r,v)++(iG<|rs.zip vs).drop (i*7 +7) from Kz (f:=e6) (m:=7) (fun _=>rfl) _ ab];apply qw;intro j;have J:=fun c A=>zE (f:=e6) (m:=7) (fun _=>rfl) (c:=c) I A;have O:∀ c,c < 7→(iG<|rs.zip vs)[i*7 +c]? =(e6 (r,u))[c]? :=fun c h=>J c h;have V:((iG<|rs.zip vs).take<|i*7).length=i*7:=by rw [dP,A]; omega
 rw [lK];by_cases h1:j < i*7
 · rw [if_neg ab,eS,ng ab,List.getElem?_take,if_pos h1]
 · rw [eS,nV ab,V];by_cases h2:j < i*7 +7
   · rw [ng (by show _ < 7; omega)];obtain ⟨c,rfl⟩:∃ c,j=i*7 +c:=⟨j - i*7,ab⟩
     have h3:c < 7:=ab;rw [O c h3,show i*7 +c - i*7=c by omega]
     match c,h3 with
     | 0,_=>rw [if_neg ab]; rfl
     | 1,_=>rw [if_neg ab]; rfl
     | 2,_=>rw [if_neg ab]; rfl
     | 3,_=>rw [if_neg ab]; rfl
     | 4,_=>rw [if_neg ab]; rfl
     | 5,_=>rw [if_neg ab]; rfl
     | 6,_=>rw [if_pos rfl,if_pos ab]; rfl
   · rw [if_neg ab,nV (by show 7≤_; omega),show (e6 (r,v)).length=7 from rfl,List.getElem?_drop];congr 1; omega
theorem oM {l:List (c7×Value)} {i:Nat} {q:c7×Value} (h:l[i]? =some q):iG l≠[]:=fun h2=>by
 have h3:(iG l).length=l.length*7:=mL (f:=e6) (m:=7) (fun _=>rfl) _;have h4:=(fL.1 h).1;rw [h2] at h3;have h5:0=l.length*7:=h3;omega
theorem Cd {F:aU} {V:fH} (I:V.v9.oneCell'=true) (C:V.v10.oneCell'=true) (E:V.v11.oneCell'=true) (G:V.v12.oneCell'=true):(me F V).all gw=true :=by
 rw [mz];intro v A;simp only [me,fG,vS,or_false] at A;rcases A with rfl | rfl | rfl | rfl | rfl | rfl | rfl | rfl | rfl | rfl | rfl | rfl | rfl <;> first | rfl | assumption
theorem Rh {w:World} {B fb mc:Nat} {F:aU} {V:fH} (h:ei w B fb mc F V):(me F V).all gw=true :=Cd (fy h.o9) (fy h.fk) (fy h.eK)<|fy h.dM
theorem C9 {α:Type} {l m:List α} {i:Nat} (h:l.drop i=m.drop i):l[i]? =m[i]? :=by
 have h1:=congrArg (·[0]?) h;simpa using h1
theorem Fs {α:Type} {l:List α} {i:Nat} {x:α} (h:i < l.length):(l.set i x).take (i+1)=l.take i++ [x]:=by
 rw [List.take_add_one,List.take_set_of_le (cU i)]; simp [h]
theorem set_drop {α:Type} {l m:List α} {i:Nat} {x:α} (h:l.drop i=m.drop i):(l.set i x).drop (i+1)=m.drop (i+1):=by
 rw [List.drop_set_of_lt (Nat.lt_succ_self i),show i.succ=i+1 from rfl];simpa [List.drop_drop] using congrArg (List.drop 1) h
theorem Ho {w:World} {B e i:Nat} {vs:List Value} {A:List (List Nat)} {v:Value} (h:eL w B e (vs.take i) (A.take i)) (hi:i < A.length) (E:i < vs.length) (C:Tg w B e (A.getD i []).length v ((A.getD i []).map bo)):eL w B e ((vs.set i v).take<|i+1) (A.take<|i+1):=by
 rw [Fs E,fV A i [] hi]; exact h.snoc C
theorem Ug (a:Option Addr) (n c:Nat) (xs:List Value) (w:World) (Y:aM w.heap a xs) (ak:xs.length=n*2) (ae:a=none→n=0) (h1:xs.all gw=true) (hn:n≤1048576):
 bm aw 80 (bh [.slice a n c]) w (fun am w'=>bz w' w.heap.size 189 2 am n xs∧Wk w w'):=by
 refine enter func80 aa ntmps80 aa<|ag fun I=>ay<|I<|az fun J=>ag fun O=>au (.slice a n c)<|p (rW u97 aa aa)<|nl<|O<|cb aa (fun E=> ?_) fun E=> ?_;have ah:a=none:=by simpa using E
 refine ag fun A=>ay<|A<|rt<|tr<|a6 aa ?_;have ai:=ae ah;subst ai;obtain rfl :=fR (show xs.length=0 by omega);exact ⟨dK _ _ _ _,Md.refl _ _⟩;refine aQ<|J<|ag fun A=>e<|mG AR fun aq aB av C V=> ?_;have G:=V w.heap.size ab;refine au (.slice a n c)<|e<|ap AR (G) aa (by have :=C.size; omega) aa (Y.wk C.md) (ak) (h1) ab ab fun an ao aj ac aA ax=> ?_;have Z:=Wk.own C.md G ac<|cU _;refine ay<|A<|rt<|a6 aa ?_;have al:bz ao w.heap.size 189 2 an n xs:=by simpa using aj
 exact ⟨al,Z⟩
theorem Uf (v:Value) (n:Nat) (xs:List Value) (w:World) (E:Rd w.heap v n 2 xs) (h1:xs.all gw=true) (hn:n≤1048576):bm aw 80 [v].toArray w (fun v w'=>bz w' w.heap.size 189 2 v n xs∧Wk w w'):=by
 obtain ⟨a,c,rfl,A,G,C⟩:=E;exact Ug a n c xs w A G C h1 hn
theorem Ua (a:Option Addr) (n c:Nat) (xs:List Value) (w:World) (Y:aM w.heap a xs) (ak:xs.length=n*5) (ae:a=none→n=0) (h1:xs.all gw=true) (hn:n≤1048576):
 bm aw 81 (bh [.slice a n c]) w (fun am w'=>bz w' w.heap.size 192 5 am n xs∧Wk w w'):=by
 refine enter func81 aa ntmps81 aa<|ag fun I=>ay<|I<|az fun J=>ag fun O=>au (.slice a n c)<|p (rW OG aa aa)<|nl<|O<|cb aa (fun E=> ?_) fun E=> ?_;have ah:a=none:=by simpa using E
 refine ag fun A=>ay<|A<|rt<|tr<|a6 aa ?_;have ai:=ae ah;subst ai;obtain rfl :=fR (show xs.length=0 by omega);exact ⟨dK _ _ _ _,Md.refl _ _⟩;refine aQ<|J<|ag fun A=>e<|mG AT fun aq aB av C V=> ?_;have G:=V w.heap.size ab;refine au (.slice a n c)<|e<|ap AT (G) aa (by have :=C.size; omega) aa (Y.wk C.md) (ak) (h1) ab ab fun an ao aj ac aA ax=> ?_;have Z:=Wk.own C.md G ac<|cU _;refine ay<|A<|rt<|a6 aa ?_;have al:bz ao w.heap.size 192 5 an n xs:=by simpa using aj
 exact ⟨al,Z⟩
theorem T9 (v:Value) (n:Nat) (xs:List Value) (w:World) (E:Rd w.heap v n 5 xs) (h1:xs.all gw=true) (hn:n≤1048576):bm aw 81 [v].toArray w (fun v w'=>bz w' w.heap.size 192 5 v n xs∧Wk w w'):=by
 obtain ⟨a,c,rfl,A,G,C⟩:=E;exact Ua a n c xs w A G C h1 hn
theorem Uk (a:Option Addr) (n c:Nat) (xs:List Value) (w:World) (Y:aM w.heap a xs) (ak:xs.length=n*1) (ae:a=none→n=0) (h1:xs.all gw=true) (hn:n≤1048576):
 bm aw 82 (bh [.slice a n c]) w (fun am w'=>bz w' w.heap.size 51 1 am n xs∧Wk w w'):=by
 refine enter func82 aa ntmps82 aa<|ag fun I=>ay<|I<|az fun J=>ag fun O=>au (.slice a n c)<|p (rW A7 aa aa)<|nl<|O<|cb aa (fun E=> ?_) fun E=> ?_;have ah:a=none:=by simpa using E
 refine ag fun A=>ay<|A<|rt<|tr<|a6 aa ?_;have ai:=ae ah;subst ai;obtain rfl :=fR (show xs.length=0 by omega);exact ⟨dK _ _ _ _,Md.refl _ _⟩;refine aQ<|J<|ag fun A=>e<|mG AS fun aq aB av C V=> ?_;have G:=V w.heap.size ab;refine au (.slice a n c)<|e<|ap AS (G) aa (by have :=C.size; omega) aa (Y.wk C.md) (ak) (h1) ab ab fun an ao aj ac aA ax=> ?_;have Z:=Wk.own C.md G ac<|cU _;refine ay<|A<|rt<|a6 aa ?_;have al:bz ao w.heap.size 51 1 an n xs:=by simpa using aj
 exact ⟨al,Z⟩
theorem Uj (v:Value) (n:Nat) (xs:List Value) (w:World) (E:Rd w.heap v n 1 xs) (h1:xs.all gw=true) (hn:n≤1048576):bm aw 82 [v].toArray w (fun v w'=>bz w' w.heap.size 51 1 v n xs∧Wk w w'):=by
 obtain ⟨a,c,rfl,A,G,C⟩:=E;exact Uk a n c xs w A G C h1 hn
theorem Ui (a:Option Addr) (n c:Nat) (xs:List Value) (w:World) (Y:aM w.heap a xs) (ak:xs.length=n*7) (ae:a=none→n=0) (h1:xs.all gw=true) (hn:n≤1048576):
 bm aw 83 (bh [.slice a n c]) w (fun am w'=>bz w' w.heap.size 134 7 am n xs∧Wk w w'):=by
 refine enter func83 aa ntmps83 aa<|ag fun I=>ay<|I<|az fun J=>ag fun O=>au (.slice a n c)<|p (rW sy aa aa)<|nl<|O<|cb aa (fun E=> ?_) fun E=> ?_;have ah:a=none:=by simpa using E
 refine ag fun A=>ay<|A<|rt<|tr<|a6 aa ?_;have ai:=ae ah;subst ai;obtain rfl :=fR (show xs.length=0 by omega);exact ⟨dK _ _ _ _,Md.refl _ _⟩;refine aQ<|J<|ag fun A=>e<|mG AJ fun aq aB av C V=> ?_;have G:=V w.heap.size ab;refine au (.slice a n c)<|e<|ap AJ (G) aa (by have :=C.size; omega) aa (Y.wk C.md) (ak) (h1) ab ab fun an ao aj ac aA ax=> ?_;have Z:=Wk.own C.md G ac<|cU _;refine ay<|A<|rt<|a6 aa ?_;have al:bz ao w.heap.size 134 7 an n xs:=by simpa using aj
 exact ⟨al,Z⟩
theorem Uh (v:Value) (n:Nat) (xs:List Value) (w:World) (E:Rd w.heap v n 7 xs) (h1:xs.all gw=true) (hn:n≤1048576):bm aw 83 [v].toArray w (fun v w'=>bz w' w.heap.size 134 7 v n xs∧Wk w w'):=by
 obtain ⟨a,c,rfl,A,G,C⟩:=E;exact Ui a n c xs w A G C h1 hn
theorem Uc (a:Option Addr) (n c:Nat) (xs:List Value) (w:World) (Y:aM w.heap a xs) (ak:xs.length=n*2) (ae:a=none→n=0) (h1:xs.all gw=true) (hn:n≤1048576):
 bm aw 84 (bh [.slice a n c]) w (fun am w'=>bz w' w.heap.size 53 2 am n xs∧Wk w w'):=by
 refine enter func84 aa ntmps84 aa<|ag fun I=>ay<|I<|az fun J=>ag fun O=>au (.slice a n c)<|p (rW A1 aa aa)<|nl<|O<|cb aa (fun E=> ?_) fun E=> ?_;have ah:a=none:=by simpa using E
 refine ag fun A=>ay<|A<|rt<|tr<|a6 aa ?_;have ai:=ae ah;subst ai;obtain rfl :=fR (show xs.length=0 by omega);exact ⟨dK _ _ _ _,Md.refl _ _⟩;refine aQ<|J<|ag fun A=>e<|mG AK fun aq aB av C V=> ?_;have G:=V w.heap.size ab;refine au (.slice a n c)<|e<|ap AK (G) aa (by have :=C.size; omega) aa (Y.wk C.md) (ak) (h1) ab ab fun an ao aj ac aA ax=> ?_;have Z:=Wk.own C.md G ac<|cU _;refine ay<|A<|rt<|a6 aa ?_;have al:bz ao w.heap.size 53 2 an n xs:=by simpa using aj
 exact ⟨al,Z⟩
theorem Ub (v:Value) (n:Nat) (xs:List Value) (w:World) (E:Rd w.heap v n 2 xs) (h1:xs.all gw=true) (hn:n≤1048576):bm aw 84 [v].toArray w (fun v w'=>bz w' w.heap.size 53 2 v n xs∧Wk w w'):=by
 obtain ⟨a,c,rfl,A,G,C⟩:=E;exact Uc a n c xs w A G C h1 hn
theorem Ue (a:Option Addr) (n c:Nat) (xs:List Value) (w:World) (Y:aM w.heap a xs) (ak:xs.length=n*1) (ae:a=none→n=0) (h1:xs.all gw=true) (hn:n≤1048576):
 bm aw 215 (bh [.slice a n c]) w (fun am w'=>bz w' w.heap.size 3 1 am n xs∧Wk w w'):=by
 refine enter func215 aa ntmps215 aa<|ag fun I=>ay<|I<|az fun J=>ag fun O=>au (.slice a n c)<|p (rW mr aa aa)<|nl<|O<|cb aa (fun E=> ?_) fun E=> ?_;have ah:a=none:=by simpa using E
 refine ag fun A=>ay<|A<|rt<|tr<|a6 aa ?_;have ai:=ae ah;subst ai;obtain rfl :=fR (show xs.length=0 by omega);exact ⟨dK _ _ _ _,Md.refl _ _⟩;refine aQ<|J<|ag fun A=>e<|mG lG fun aq aB av C V=> ?_;have G:=V w.heap.size ab;refine au (.slice a n c)<|e<|ap lG (G) aa (by have :=C.size; omega) aa (Y.wk C.md) (ak) (h1) ab ab fun an ao aj ac aA ax=> ?_;have Z:=Wk.own C.md G ac<|cU _;refine ay<|A<|rt<|a6 aa ?_;have al:bz ao w.heap.size 3 1 an n xs:=by simpa using aj
 exact ⟨al,Z⟩
theorem Ud (v:Value) (n:Nat) (xs:List Value) (w:World) (E:Rd w.heap v n 1 xs) (h1:xs.all gw=true) (hn:n≤1048576):bm aw 215 [v].toArray w (fun v w'=>bz w' w.heap.size 3 1 v n xs∧Wk w w'):=by
 obtain ⟨a,c,rfl,A,G,C⟩:=E;exact Ue a n c xs w A G C h1 hn
theorem yN (B fb mc:Nat) (F:aU) (V:fH) (w:World) (aJ:ei w B fb mc F V) (dL:F.dA.length+F.aliases.length+F.bE.length+F.rules.length≤70000) (bX:Nx F):
 bm aw 41 (bh [aV fb]) w (fun v w'=>(∃ bv,v= .agg (me F bv).toArray∧qG w' w.heap.size F bv)∧Wk w w'):=by
 refine enter func41 aa ntmps41 aa<|ag fun cq=>e<|gk O4 fun a9 ai dN bi bA=> ?_;have dS:=bi.size;have ao:=aJ.wk bi.md;refine nl<|cq<|az fun cA=>ag fun cC=>au (aV fb)<|p (ly x9 aa aa)<|nl<|cC<|cf (aa)<|aQ<|cA<|ag fun cD=>au (aV fb)<|p (nc aa) ?_;refine p (fa il aa)<|p (cW BX aa (aa) (show ∀ j,j < 13→Hb.aW ai.heap fb (0 +j)=(me F V)[j]? from fun j aP=>(bg ao.cells).trans<|by match j,aP with | 0,_=>rfl | 1,_=>rfl | 2,_=>rfl | 3,_=>rfl | 4,_=>rfl | 5,_=>rfl | 6,_=>rfl | 7,_=>rfl | 8,_=>rfl | 9,_=>rfl | 10,_=>rfl | 11,_=>rfl | 12,_=>rfl))<|e<|gk O4 fun ah G dO bO cO=> ?_;have dW:=bO.size;refine e<|fU C1 aa aa aa (Rh ao) cO aB fun a2 bL cP=> ?_;have bC:Wk ai a2:=bO.md.trans' bL fun q A h=>by omega
 have dX:=bL.size;have cZ:=ao.wk bC;have aN:a2.heap[ah]? =some (.cells (me F ⟨V.v9,V.v10,V.v11,V.v12,V.sa,V.rn⟩).toArray 102 (0,0)):=cP;refine nl<|cD<|ag fun cF=>p (fa zK aa)<|p (ld Hh aa<|(bg aN).trans aa)<|e<|cl TC (Uf V.v9 F.dA.length (lF F.dA) a2 (Rd.j6 cZ.o9) (Du (fun _=>rfl) _) ab) aa fun ac cj c1=> ?_;obtain ⟨b0,bb⟩:=c1;have dR:=bb.size;have b2:=eQ b0 (show G.heap.size≤a2.heap.size by omega);refine p (fa zK aa)<|e<|dx Jg aa aa (v:=ac) (fy b0) (bb.aT aN) (by show _ < 13; omega) fun a3 bd cQ=> ?_;have bF:Wk ai a3:=(bC.trans bb).trans' bd fun q A h=>by omega
 have dY:=bd.size;have c0:=ao.wk bF;have b3:=dw b2 bd fun q A h=>by have :=(dQ b2 A).1; omega
 have bT:a3.heap[ah]? =some (.cells (me F ⟨ac,V.v10,V.v11,V.v12,V.sa,V.rn⟩).toArray 102 (0,0)):=cQ;refine nl<|cF<|ag fun cG=>p (fa uR aa)<|p (ld yR aa<|(bg bT).trans aa)<|e<|cl TD (T9 V.v11 F.bE.length (oq F.bE) a3 (Rd.j6 c0.eK) (Du (fun _=>rfl) _) ab) aa fun v20 d5 c2=> ?_;obtain ⟨b5,aD⟩:=c2;have dT:=aD.size;have b6:=eQ b5 (show G.heap.size≤a3.heap.size by omega);refine p (fa uR aa)<|e<|dx Ji aa aa (v:=v20) (fy b5) (aD.aT bT) (by show _ < 13; omega) fun a4 aL cR=> ?_;have bH:Wk ai a4:=(bF.trans aD).trans' aL fun q A h=>by omega
 have d0:=aL.size;have bK:=ao.wk bH;have b4:=dw (a7 b3 aD) aL fun q A h=>by have :=(dQ (a7 b3 aD) A).1; omega
 have b7:=dw b6 aL fun q A h=>by have :=(dQ b6 A).1; omega
 have bU:a4.heap[ah]? =some (.cells (me F ⟨ac,V.v10,v20,V.v12,V.sa,V.rn⟩).toArray 102 (0,0)):=cR;refine nl<|cG<|ag fun cH=>p (fa qV aa)<|p (ld s8 aa<|(bg bU).trans aa)<|e<|cl TE (Uj V.v10 F.aliases.length V.sa a4 (Rd.j6 bK.fk) (yU bK.al) ab) aa fun v24 d6 c3=> ?_;obtain ⟨b8,aq⟩:=c3;have dV:=aq.size;have b9:=eQ b8 (show G.heap.size≤a4.heap.size by omega);refine p (fa qV aa)<|e<|dx Jh aa aa (v:=v24) (fy b8) (aq.aT bU) (by show _ < 13; omega) fun cm aF cS=> ?_;have cY:Wk ai cm:=(bH.trans aq).trans' aF fun q A h=>by omega
 have d1:=aF.size;have du:=dw (a7 b4 aq) aF fun q A h=>by have :=(dQ (a7 b4 aq) A).1; omega
 have dl:=dw (a7 b7 aq) aF fun q A h=>by have :=(dQ (a7 b7 aq) A).1; omega
 have bY:=dw b9 aF fun q A h=>by have :=(dQ b9 A).1; omega
 have bV:cm.heap[ah]? =some (.cells (me F ⟨ac,v24,v20,V.v12,V.sa,V.rn⟩).toArray 102 (0,0)):=cS;obtain ⟨am,lU,rfl⟩:=cJ bY;have dF:=aJ.al.1;refine nl<|cH<|az fun cI=>ag fun cK=>p (fa qV aa)<|p (ld s8 aa<|(bg bV).trans aa)<|p (bM A7 aa aa)<|p mv<|nl<|cK<|aT<|lp (fun aC co I=> ∃ (i:Nat) (sa:List Value),(i≤F.aliases.length)∧(sa.length=F.aliases.length)∧(sa.drop i=V.sa.drop i)∧(eL I G.heap.size 95 (sa.take i)<|F.aliases.take i)∧(bz I G.heap.size 51 1 (.slice am F.aliases.length lU) F.aliases.length<|sa)∧(bz I G.heap.size 189 2 (ac) F.dA.length<|lF F.dA)∧(bz I G.heap.size 192 5 (v20) F.bE.length<|oq F.bE)∧(I.heap[ah]? =some (.cells (me F ⟨ac,.slice am F.aliases.length lU,v20,V.v12,V.sa,V.rn⟩).toArray 102 (0,0)))∧(Wk ai I)∧(G.heap.size≤I.heap.size)∧(Sl co [(2,aV a9),(3,aV ah),(27,.slice am F.aliases.length lU),(28,ak (F.aliases.length)),(29,ak i)])∧(F.aliases.length - i=aC)) _ ⟨0,V.sa,ab,dF,aa,(eL.nil _ _ _),bY,du,dl,bV,cY,(ab),aa,aa⟩ ?_;rintro aC co I ⟨i,sa,hi,aH,ce,bp,Z,a0,aY,aG,aI,d2,dD,rfl⟩;refine bG dD<|ag fun ct=>p (lt aa aa)<|nl<|ct<|az fun cu=>cd aa (fun aN=> ?_) fun aN=> ?_;refine aQ<|cu<|az fun a5=>aT<|az fun a6=> ?_;obtain ⟨d4,dG,bk⟩:=eL.get (ao.wk aI).al (show i < F.aliases.length by omega);obtain ⟨cL,ci,rfl⟩:=bk.slice;refine rg aa<|au (ak i)<|p (bc Dg aa aa ab<|aM.ok ((ba Z).2) fun h=>by rw [h] at aH; simp at aH; omega)<|p (ld od aa<|aM.gY (ba Z).2<|(C9 ce).trans dG)<|p (cE (ak i) aa)<|ay<|a6 ?_;have ap:(fun w'=>Wk I w') I.drew:=(Md.refl _ _).drew;refine e5 (fun w'=>Wk I w') 6 aa wide ap<|eJ 0 aa (fa qV aa) ap<|lq 1 aa aj (fun w' aA=>ld s8 aa<|Wk.aW aA<|(bg aG).trans aa) ap<|eJ 2 aa (aX (ak i) aa) ap<|eJ 3 aa (mv) ap<|gS 4 aa aj<|cl uE (uG cL (F.aliases.getD i []).length ci ((F.aliases.getD i []).map bo) I.drew (aM.wk bk.dp.2 ap) (by simp) (fun h=>Tg.vg bk (by simp) h) (ux _)<|by have :=bX.1 _ (eb (d:= []) (show i < F.aliases.length by omega)); omega) aa fun dI ck c4=> ?_;obtain ⟨br,bD⟩:=c4;have J:Wk I ck:=ap.trans bD;have c7:=J;have bP:(fun w'=>Wk I w') ck:=ap.trans bD;refine ⟨bP,?_⟩;refine eJ 5 aa (bc Dg aa aa ab<|aM.ok ((ba Z).2) fun h=>by rw [h] at aH; simp at aH; omega) bP<|dU 6 aa aj aj<|vq (j:=i) (a7 Z J) uJ aa aa (fy br) (by simp) ab fun dJ av dg=> ?_;have cT:Wk ai dJ:=Wk.own (aI.trans J) (a7 Z J) av ab;have dq:=dw (eQ br (show G.heap.size≤I.heap.size by omega)) av fun q A=>nI br (a7 Z J) aB A;have c9:=(bp.wk J).md av<|iW (a7 Z J) aB;have ds:=dw (a7 a0 J) av fun q A=>nI (a7 a0 J) (a7 Z J) aB A;have dj:=dw (a7 aY J) av fun q A=>nI (a7 aY J) (a7 Z J) aB A;have dd:=av.aT (Wk.aT J aG) fun h=>by have :=(dQ (a7 Z J) h).1; omega
 exact eZ aj<|bn<|a5<|rg aa<|p (ad aa aa<|cB ab)<|p mv<|nl<|tn<|⟨_,ab,i+1,sa.set i dI,ab,(by rw [yz]; exact aH),(set_drop ce),(Ho c9 ab ab<|Tg.j6 dq),dg,ds,dj,dd,cT,(by have :=c7.size; have :=av.size; omega),aa,aa⟩
 refine ext<|bf<|bf<|be<|cI<|ag fun a5=>p (fa pC aa)<|p (ld np aa<|(bg aG).trans aa)<|e<|cl TG (Uh V.v12 F.rules.length (iG<|F.rules.zip V.rn) I (Rd.j6 (ao.wk aI).dM) (abE aJ.nx) ab) aa fun cg d7 c5=> ?_;obtain ⟨ca,ae⟩:=c5;have dZ:=ae.size;have cb:=eQ ca (show G.heap.size≤I.heap.size by omega);rw [e9 ab,e9 ab] at bp;refine p (fa pC aa)<|e<|dx I6 aa aa (v:=cg) (fy ca) (Wk.aT ae aG) (by show _ < 13; omega) fun ch ax cM=> ?_;have cU:Wk ai ch:=(aI.trans ae).trans' ax fun q A h=>by omega
 have dP:=ax.size;have dv:=dw (a7 a0 ae) ax fun q A h=>by have :=(dQ (a7 a0 ae) A).1; omega
 have di:=dw (a7 Z ae) ax fun q A h=>by have :=(dQ (a7 Z ae) A).1; omega
 have dn:=dw (a7 aY ae) ax fun q A h=>by have :=(dQ (a7 aY ae) A).1; omega
 have bZ:=dw cb ax fun q A h=>by have :=(dQ cb A).1; omega
 have db:=(bp.wk ae).md ax<|fT (Wk.aT ae aG) aB;have bR:ch.heap[ah]? =some (.cells (me F ⟨ac,.slice am F.aliases.length lU,v20,cg,V.sa,V.rn⟩).toArray 102 (0,0)):=cM;obtain ⟨a12,lu,rfl⟩:=cJ bZ;have dB:V.rn.length=F.rules.length:=by have :=aJ.nx.1; rwa [fP] at this
 refine nl<|a5<|az fun a6=>ag fun cv=>p (fa pC aa)<|p (ld np aa<|(bg bR).trans aa)<|p (bM sy aa aa)<|p mv<|nl<|cv<|aT<|lp (fun aC cp E=> ∃ (i:Nat) (rn:List Value),(i≤F.rules.length)∧(rn.length=F.rules.length)∧(rn.drop i=V.rn.drop i)∧(eL E G.heap.size 95 (rn.take i)<|(F.rules.map (·.next)).take i)∧(bz E G.heap.size 134 7 (.slice a12 F.rules.length lu) F.rules.length<|iG<|F.rules.zip rn)∧(bz E G.heap.size 189 2 (ac) F.dA.length<|lF F.dA)∧(bz E G.heap.size 51 1 (.slice am F.aliases.length lU) F.aliases.length<|sa)∧(eL E G.heap.size 95 sa F.aliases)∧(bz E G.heap.size 192 5 (v20) F.bE.length<|oq F.bE)∧(E.heap[ah]? =some (.cells (me F ⟨ac,.slice am F.aliases.length lU,v20,.slice a12 F.rules.length lu,V.sa,V.rn⟩).toArray 102 (0,0)))∧(Wk ai E)∧(G.heap.size≤E.heap.size)∧(Sl cp [(2,aV a9),(3,aV ah),(47,ak (F.rules.length)),(48,ak i)])∧(F.rules.length - i=aC)) _ ⟨0,V.rn,ab,dB,aa,(eL.nil _ _ _),bZ,dv,di,db,dn,bR,cU,(ab),aa,aa⟩ ?_;rintro aC cp E ⟨i,rn,hi,dC,cc,bq,O,a1,aS,bQ,aZ,aO,aE,d3,dE,rfl⟩;refine bG dE<|ag fun cw=>p (lt aa aa)<|nl<|cw<|az fun cy=>cd aa (fun dc=> ?_) fun dc=> ?_;refine aQ<|cy<|az fun a8=>aT<|az fun cz=> ?_;obtain ⟨vn,dH,bl⟩:=eL.get (ao.wk aE).nx (show i < (F.rules.map (·.next)).length by rw [fP]; omega);obtain ⟨bw,bx,rfl⟩:=bl.slice;obtain ⟨q,bt⟩:∃ q,F.rules[i]? =some q:=⟨_,cx ab⟩
 have dz:(F.rules.map (·.next)).getD i []=q.next:=by rw [cX,gx,bt]; rfl
 have dy:=bX.2 q<|gC bt;rw [← dz] at dy;have bu:(F.rules.zip rn)[i]? =some (q,.slice bw ((F.rules.map (·.next)).getD i []).length bx):=jW.2 ⟨bt,(C9 cc).trans dH⟩;refine rg aa<|au (ak i)<|p (cE (ak i) aa)<|nl<|cz ?_;have Y:(fun w'=>Wk E w') E.drew:=(Md.refl _ _).drew;refine e5 (fun w'=>Wk E w') 12 aa wide Y<|bN 0 aa (fa pC aa) Y<|ea 1 aa (fun w' aA=>ld np aa<|Wk.aW aA<|(bg aO).trans aa) Y<|bI 2 aa (ak i) Y<|bN 3 aa (fa pC aa) Y<|ea 4 aa (fun w' aA=>ld np aa<|Wk.aW aA<|(bg aO).trans aa) Y<|bI 5 aa (ak i) Y<|bN 6 aa (bc ny aa aa ab<|aM.ok ((ba O).2)<|oM bu) Y<|bN 7 aa (fa r4 aa) Y<|ea 8 aa (fun w' aA=>ld od aa<|Wk.aW aA<|fC (f:=e6) (m:=7) (fun _=>rfl) (ba O).2 bu 6 aB) Y<|gS 9 aa aj<|cl uE (uG bw ((F.rules.map (·.next)).getD i []).length bx (((F.rules.map (·.next)).getD i []).map bo) E.drew (aM.wk bl.dp.2 Y) (by simp) (fun h=>Tg.vg bl (by simp) h) (ux _) ab) aa fun v60 cn c6=> ?_;obtain ⟨bs,bJ⟩:=c6;have C:Wk E cn:=Y.trans bJ;have c8:=C;have bj:(fun w'=>Wk E w') cn:=Y.trans bJ;refine ⟨bj,?_⟩;refine bN 10 aa (bc ny aa aa ab<|aM.ok ((ba O).2)<|oM bu) bj<|bN 11 aa (fa r4 aa) bj<|dU 12 aa aj aj<|vq (j:=i*7 +6) (a7 O C) uJ aa aa (fy bs) (by rw [Int.toNat_natCast]; omega) ab fun cj an b1=> ?_;rw [abF ab ab] at b1;have cV:Wk ai cj:=Wk.own (aE.trans C) (a7 O C) an ab;have dr:=dw (eQ bs (show G.heap.size≤E.heap.size by omega)) an fun q A=>nI bs (a7 O C) aB A;have df:=(bq.wk C).md an<|iW (a7 O C) aB;have da:=(bQ.wk C).md an<|iW (a7 O C) aB;have dt:=dw (a7 a1 C) an fun q A=>nI (a7 a1 C) (a7 O C) aB A;have dh:=dw (a7 aS C) an fun q A=>nI (a7 aS C) (a7 O C) aB A;have dk:=dw (a7 aZ C) an fun q A=>nI (a7 aZ C) (a7 O C) aB A;have de:=an.aT (Wk.aT C aO) fun h=>by have :=(dQ (a7 O C) h).1; omega
 exact eZ aj<|bn<|a8<|rg aa<|p (ad aa aa<|cB ab)<|p mv<|nl<|tn<|⟨_,ab,i+1,rn.set i v60,ab,(by rw [yz]; exact dC),(set_drop cc),(Ho df (by rw [fP]; omega) ab<|Tg.j6 dr),b1,dt,dh,da,dk,de,cV,(by have :=c8.size; have :=an.size; omega),aa,aa⟩
 refine ext<|bf<|bf<|be<|a6<|ag fun a8=>p (cW BX aa (aa) (show ∀ j,j < 13→Hb.aW E.heap ah (0 +j)=(me F ⟨ac,.slice am F.aliases.length lU,v20,.slice a12 F.rules.length lu,V.sa,V.rn⟩)[j]? from fun j aP=>(bg aO).trans<|by match j,aP with | 0,_=>rfl | 1,_=>rfl | 2,_=>rfl | 3,_=>rfl | 4,_=>rfl | 5,_=>rfl | 6,_=>rfl | 7,_=>rfl | 8,_=>rfl | 9,_=>rfl | 10,_=>rfl | 11,_=>rfl | 12,_=>rfl))<|e<|fU C1 aa aa aa (Cd (fy a1) (fy aS) (fy aZ)<|fy O) (Wk.aT aE bA) aB fun dK aK cN=>nl<|a8<|rt<|wV aa (ed (cs:=me F ⟨ac,.slice am F.aliases.length lU,v20,.slice a12 F.rules.length lu,V.sa,V.rn⟩) aa BX aa fun j aP=>(bS.bB ⟨_,cN⟩ j).trans aa) ?_;have aR:∀ {t s n:Nat} {v:Value} {xs:List Value},bz E G.heap.size t s v n xs→bz dK w.heap.size t s v n xs:=fun h=>eQ (dw h aK fun q A h2=>by have :=(dQ h A).1; omega) ab;rw [e9 ab,e9 (by rw [fP]; omega)] at bq;have bW:∀ k,k=a9→∀ cur z,E.heap[k]?≠some (.cells cur 95 z):=fT (Wk.aT aE bA) aB;exact ⟨⟨⟨ac,.slice am F.aliases.length lU,v20,.slice a12 F.rules.length lu,sa,rn⟩,aa,⟨aR a1,aR aS,(bQ.md aK bW).mono ab,aR aZ,aR O,(bq.md aK bW).mono ab⟩⟩,(bi.md.trans aE).trans' aK fun q A h=>by omega⟩
end Go.Hb.iw
section
namespace Go.Hb
open Go.Hb.oV Go.Hb.iZ Go.Hb.iw
noncomputable def lY (r:List Tx):Nat×Int:=if r.length≠1 then (0,111) else ew (r.getD 0 []) 8192
def QD (w0 w':World) (X:Except Nat bC) (v:Value):Prop :=(∃ x a,X= .ok x∧v= .tuple #[.agg [str x.1,a].toArray,.int .i64 (0:Nat)]∧bz w' w0.heap.size 95 1 a x.2.length (x.2.map bo))∨(∃ e,X= .error e∧e≠0∧v= .tuple #[.agg [str [],.slice none 0 0].toArray,.int .i64 (e:Nat)])
theorem M0 {s:Tx} {i:Nat} (hi:i < s.length):(s.take<|i+1).drop i= [s.getD i 0]:=by
 rw [xW 0 (cU i) hi,iJ (by rw [dP]; omega),List.nil_append]
theorem OQ (b:UInt8):rk [b]=jr b:=by unfold rk; rw [RD]; cases jr b <;> rfl
theorem Jn {F:aU} {x:Nat} (h:(ej F.bE x).isSome=true∨x∈F.sp):eV F x=true :=by
 unfold eV; rcases h with h | h
 · rw [h,Bool.or_true]
 · rw [decide_eq_true h]; rfl
theorem Vs {F:aU} {x:Nat} (h:(ej F.bE x).isSome=false) (h1:x∉F.sp):eV F x=false :=by
 unfold eV; rw [h,decide_eq_false h1]; rfl
theorem acf {F:aU} (h:F.sp.length=5):[F.sp.getD 0 0,F.sp.getD 1 0,F.sp.getD 2 0,F.sp.getD 3 0,F.sp.getD 4 0]=F.sp:=by
 match F.sp,h with
 | [a,b,c,d,e],_=>rfl
theorem YA (a:Option Addr) (c:Nat) (l:List Nat) (x:Nat) (w:World) (E:aM w.heap a (l.map bo)) (ap:l.length≤1048576):
 bm aw 207 (bh [.slice a l.length c,bo x]) w (fun v w'=>(∃ k:Int,v= .int .i64 k∧(0≤k↔x∈l)∧ -1≤k∧k≤1048576)∧Wk w w'):=by
 refine enter func207 aa ntmps207 aa<|ag fun Y=>ay<|Y<|az fun Z=>ag fun ac=>au (.slice a l.length c)<|p (bM qn aa aa)<|p mv<|nl<|ac<|aT<|lp (fun C V O=> ∃ (i:Nat),(i≤l.length)∧(∀ j,j < i→l.getD j 0≠x)∧(O=w)∧(Sl V [(0,.slice a l.length c),(1,bo x),(7,ak (l.length)),(8,ak i)])∧(l.length - i=C)) _ ⟨0,ab,(fun j I=>by omega),aa,aa,aa⟩ ?_;rintro C V O ⟨i,hi,J,am,ao,rfl⟩;refine bG ao ?_;subst am;refine ag fun ae=>p (lt aa aa)<|nl<|ae<|az fun ah=>cd aa (fun an=> ?_) fun an=> ?_;refine aQ<|ah<|az fun A=>aT<|ag fun ai=>au (ak i)<|p (cE (ak i) aa)<|nl<|ai<|ag fun aj=>au (bo x)<|au (.slice a l.length c)<|au (ak i)<|p (bc cy aa aa ab<|aM.ok (E)<|cg ab)<|p (ld du aa<|aM.gY E (show (l.map bo)[i]? =some (bo<|l.getD i 0) by rw [gx,cX,cx (by omega :i < l.length)]; rfl)) ?_;refine p (bQ aa aa)<|nl<|aj<|cd aa (fun G=> ?_) fun G=> ?_;exact ag fun al=>au (ak i)<|p (cE (ak i) aa)<|nl<|al<|rt<|br<|tr<|tr<|br<|tr<|a6 aa<|⟨⟨(i:Nat),aa,⟨fun _=>by obtain rfl :x=l.getD i 0:=ab; exact eb ab,fun _=>by omega⟩,ab,ab⟩,Md.refl _ _⟩
 exact aQ<|bn<|A<|rg aa<|p (ad aa aa<|cB ab)<|p mv<|nl<|tn<|⟨_,ab,i+1,ab,(fun j I=>by rcases fM j i with h | h <;> first | exact J j h | (rw [show j=i by omega]; exact fun h2=>G<|by rw [h2])),aa,aa,aa⟩
 exact ext<|bf<|bf<|be<|Z<|ag fun A=>p aE<|nl<|A<|rt<|a6 aa<|⟨⟨-1,aa,⟨fun h=>absurd h ab,fun h=>by obtain ⟨j,I,e⟩:=mR 0 h; exact absurd e<|J j ab⟩,ab,ab⟩,Md.refl _ _⟩
theorem UP (a:Option Addr) (c:Nat) (l:List Nat) (x:Nat) (w:World) (E:aM w.heap a (l.map bo)) (J:l.length≤1048576):
 bm aw 141 (bh [.slice a l.length c,bo x]) w (fun v w'=>v= .bool (decide (x∈l))∧Wk w w'):=by
 refine enter func141 aa ntmps141 aa<|ag fun A=>ay<|A<|ag fun C=>au (.slice a l.length c)<|au (bo x)<|e<|cl Sr (YA a c l x w E J) aa fun Y Z G=> ?_;obtain ⟨⟨O,rfl,I,V⟩,hE7⟩:=G;exact p (ge aa aa)<|ay<|C<|rt<|a6 aa<|⟨by show ca (decide (O≥0))=_; exact congrArg ca (decide_eq_decide.2 I),hE7⟩
theorem uK (ln er:Int) (w:World):
 bm aw 77 (bh [.int .i64 ln,.int .i64 er]) w (fun v w'=>v= .agg [.int .i64 2,.int .i64 ln,.int .i64 er].toArray∧Wk w w'):=by
 exact enter func77 aa ntmps77 aa<|ag fun A=>e<|al rq fun O ab V J G=>nl<|A<|ag fun C=>au (.int .i64 ln)<|au (.int .i64 er)<|p (dj (ps:= [(0,.int .i64 2),(1,.int .i64 ln),(2,.int .i64 er)]) (L:= [.int .i64 2,.int .i64 ln,.int .i64 er]) vp aa<|aa)<|e<|dt km aa aa aa aa (G) (by simp) fun ac I E=>nl<|C<|rt<|wV aa (ed (cs:= [.int .i64 2,.int .i64 ln,.int .i64 er]) aa lT aa fun j Y=>E.bB j)<|⟨aa,J.md.trans' I fun q Z h=>by omega⟩
theorem VI (n:Nat) (r:List Tx) (B:Nat) (a:Option Addr) (c:Nat) (w:World) (Z:Tg w B 9 r.length (.slice a r.length c) (r.map str)) (ae:∀ x∈r,x.length≤70000) (al:r.length≤70000):
 bm aw 78 (bh [.agg [ak n,.slice a r.length c].toArray]) w (fun v w'=>v= .tuple #[ak ((lY r).1),.int .i64 (lY r).2]∧Wk w w'):=by
 refine enter func78 aa ntmps78 aa<|ag fun I=>e<|ib aa fun ai ah aj C E=> ?_;have G:=Z.wk C.md;refine p aE<|ay<|I<|az fun J=>ag fun O=>p (fa xi aa)<|p (ld kj aa<|(E.aW 1).trans aa)<|p (bM fq aa aa)<|p (dd aa aa)<|nl<|O<|cd aa (fun ac=> ?_) fun ac=> ?_;refine ag fun A=>p aE<|ay<|A<|rt<|tr<|f2 aa aa aa ?_;have h1:r.length≠1:=ab;exact ⟨by unfold lY; rw [if_pos h1]; rfl,C.md⟩;refine aQ<|J<|ag fun A=>p (fa xi aa)<|p (ld kj aa<|(E.aW 1).trans aa)<|p (bc db aa aa ab<|aM.ok (G.dp.2)<|cg ab)<|p (ld bX aa<|cM.get (i:=0) G.dp.2 ab)<|e<|cl yZ (Ar (r.getD 0 []) 8192 ah (by have :=ae _ (eb (d:= []) (show 0 < r.length by omega)); omega) ab) aa fun v12 am Y=> ?_;obtain ⟨rfl,V⟩:=Y;refine p (xt aa aa)<|p (xt aa aa)<|p aE<|ay<|A<|rt<|f2 aa aa aa ?_;have h1:¬r.length≠1:=ab;exact ⟨by unfold lY; rw [if_neg h1]; rfl,C.md.trans V⟩
theorem Vz (B fb mc:Nat) (F:aU) (V:fH) (n:Nat) (r:List Tx) (bD:Nat) (ar:Option Addr) (cr:Nat) (w:World) (aZ:ei w B fb mc F V) (cc:∃ seen,lj F [] seen) (cA:Tg w bD 9 r.length (.slice ar r.length cr) (r.map str)) (cP:∀ x∈r,x.length≤70000) (c6:r.length≤70000):
 bm aw 79 (bh [aV fb,.agg [bo (F.sp.getD 0 0),bo (F.sp.getD 1 0),bo (F.sp.getD 2 0),bo (F.sp.getD 3 0),bo (F.sp.getD 4 0)].toArray,.agg [ak n,.slice ar r.length cr].toArray]) w (fun v w'=>QD w w' (gl F r) v∧Wk w w'):=by
 obtain ⟨seen,aC⟩:=cc;have c5:=aC.len;have c9:=tL<|r.getD 0 [];refine enter func79 aa ntmps79 aa<|ag fun bE=>e<|ib aa fun aR dr c2 bl b8=>e<|ib aa fun cY dv c3 a0 b9=>e<|al sG fun bd bv c4 aG bg=> ?_;have aD:Wk w bv:=bl.md.trans<|a0.md.trans aG.md;have cO:=aG.md.B<|a0.md.B b8;have bu:=aG.md.B b9;have bp:=cA.wk aD;have ch:=aZ.wk aD;have de:=bl.size;have df:=a0.size;have dg:=aG.size;refine ay<|bE<|az fun bN=>ag fun bT=>p (fa xi aa)<|p (ld kj aa<|(bu.aW 1).trans aa)<|p (bM fq aa aa)<|p (dd aa aa)<|nl<|bT<|cd aa (fun cC=> ?_) fun cC=> ?_;exact ag fun aO=>p (dj (ps:= []) (L:= [.string ⟨⟨[]⟩⟩,.slice none 0 0]) pM aa<|aa)<|e<|dt kZ aa aa aa aa (bg) (by simp) fun dG cq b7=>ay<|aO<|rt<|tr<|eN aa (ed (cs:= [str [],.slice none 0 0]) aa ma aa fun j E=>b7.bB j) eD<|⟨.inr ⟨111,JE ab,aB,aa⟩,aD.trans' cq fun q A h=>by omega⟩
 have I:r.length=1:=ab;have c7:(r.getD 0 []).length≤70000:=cP _<|eb ab;refine aQ<|bN<|ag fun aO=>p (fa xi aa)<|p (ld kj aa<|(bu.aW 1).trans aa)<|p (bc db aa aa ab<|aM.ok (bp.dp.2)<|cg ab)<|p (ld bX aa<|cM.get (i:=0) bp.dp.2 ab)<|e<|cl Cn (F9 (r.getD 0 []) bv ab) aa fun v28 cU cu=> ?_;obtain ⟨rfl,an⟩:=cu;have ac:=aD.trans an;have ae:=an.B bg;have dc:=an.size;refine p mv<|p (xt aa aa)<|p (xt aa aa)<|p (xt aa aa)<|p (xt aa aa)<|p aE<|p aE<|p aE<|ay<|aO<|az fun bU=>ag fun bV=>p mv<|p (dd aa aa)<|nl<|bV<|cd aa (fun cD=> ?_) fun cD=> ?_;exact ag fun aP=>p (dj (ps:= []) (L:= [.string ⟨⟨[]⟩⟩,.slice none 0 0]) pM aa<|aa)<|p mv<|e<|dt kZ aa aa aa aa (ae) (by simp) fun dH ct ca=>ay<|aP<|rt<|tr<|eN aa (ed (cs:= [str [],.slice none 0 0]) aa ma aa fun j E=>ca.bB j) eD<|⟨.inr ⟨_,zr I ab,ab,aa⟩,ac.trans' ct fun q A h=>by omega⟩
 have Z:(bF<|r.getD 0 []).2.2.2=0:=ab;refine aQ<|bU<|az fun aP=>ag fun bW=>p mv<|p (cR u9 aa aa)<|p mv<|nl<|bW<|aT<|lp (fun aj bx ax=> ∃ (i:Nat),(i≤(bF<|r.getD 0 []).1.length)∧(∀ j,j < i→jr ((bF<|r.getD 0 []).1.getD j 0)=true)∧(Wk cU ax)∧(Sl bx [(0,aV fb),(4,aV aR),(6,aV bd),(8,str (bF<|r.getD 0 []).1),(9,str (bF<|r.getD 0 []).2.1),(10,.bool (bF<|r.getD 0 []).2.2.1),(38,ak ((bF<|r.getD 0 []).1.length)),(39,ak i)])∧((bF<|r.getD 0 []).1.length - i=aj)) _ ⟨0,ab,(fun j E=>by omega),(Md.refl _ _),aa,aa⟩ ?_;rintro aj bx ax ⟨i,hi,bs,C,cQ,rfl⟩;refine bG cQ<|ag fun bY=>p (lt aa aa)<|nl<|bY<|az fun bI=>cd aa (fun cF=> ?_) fun cF=> ?_;refine aQ<|bI<|az fun aI=>aT<|ag fun aK=>au (ak i)<|p (cE (ak i) aa)<|nl<|aK<|ag fun ah=>au (str (bF<|r.getD 0 []).1)<|au (ak i)<|au (ak i)<|p (ad aa aa<|cB ab)<|p (mW u9 aa aa aa ab)<|e<|cl HL (OR (((bF<|r.getD 0 []).1.take<|i+1).drop i) ax<|by rw [M0 ab]; simp) aa fun dk ds cv=> ?_;obtain ⟨rfl,ce⟩:=cv;have bt:=M0 (s:=(bF<|r.getD 0 []).1) (i:=i) ab;have aS:=C.trans ce;refine p (no aa)<|nl<|ah<|cb aa (fun a3=> ?_) fun a3=> ?_;have a6:jr ((bF<|r.getD 0 []).1.getD i 0)=false :=by rw [← OQ,← bt]; simpa using a3
 exact ag fun ai=>p (dj (ps:= []) (L:= [.string ⟨⟨[]⟩⟩,.slice none 0 0]) pM aa<|aa)<|e<|dt kZ aa aa aa aa (Wk.B aS ae) (by simp) fun dz ci bZ=>ay<|ai<|rt<|br<|tr<|tr<|br<|tr<|eN aa (ed (cs:= [str [],.slice none 0 0]) aa ma aa fun j E=>bZ.bB j) eD<|⟨.inr ⟨21,zt I Z (.inl<|uD ab a6),aB,aa⟩,(ac.trans aS).trans' ci fun q A h=>by omega⟩
 have a6:jr ((bF<|r.getD 0 []).1.getD i 0)=true :=by rw [← OQ,← bt]; simpa using a3
 exact aQ<|bn<|aI<|rg aa<|p (ad aa aa<|cB ab)<|p mv<|nl<|tn<|⟨_,ab,i+1,ab,(fun j E=>by rcases fM j i with h | h <;> first | exact bs j h | (rw [show j=i by omega]; exact a6)),aS,aa,aa⟩
 refine ext<|bf<|bf<|be<|aP<|az fun aI=>aT<|az fun aK=>rg aa<|au (str (bF<|r.getD 0 []).1)<|p (et aa aa)<|ay<|aK<|cd aa (fun Y=> ?_) fun Y=> ?_;exact ag fun ah=>p (dj (ps:= []) (L:= [.string ⟨⟨[]⟩⟩,.slice none 0 0]) pM aa<|aa)<|e<|dt kZ aa aa aa aa (Wk.B C ae) (by simp) fun dA cj b0=>ay<|ah<|rt<|br<|tr<|eN aa (ed (cs:= [str [],.slice none 0 0]) aa ma aa fun j E=>b0.bB j) eD<|⟨.inr ⟨21,zt I Z (.inr Y),aB,aa⟩,(ac.trans C).trans' cj fun q A h=>by omega⟩
 have ao:=wq (w:=(bF<|r.getD 0 []).1) fun j E=>bs j ab;refine ag fun ah=>au (str (bF<|r.getD 0 []).1)<|p (cR u9 aa aa)<|p (gt aa aa)<|ay<|ah<|cd aa (fun cG=> ?_) fun cG=> ?_;exact ag fun ai=>p (dj (ps:= []) (L:= [.string ⟨⟨[]⟩⟩,.slice none 0 0]) pM aa<|aa)<|e<|dt kZ aa aa aa aa (Wk.B C ae) (by simp) fun dB ck b1=>ay<|ai<|rt<|br<|tr<|eN aa (ed (cs:= [str [],.slice none 0 0]) aa ma aa fun j E=>b1.bB j) eD<|⟨.inr ⟨22,JF I Z ao Y ab,aB,aa⟩,(ac.trans C).trans' ck fun q A h=>by omega⟩
 refine ag fun ai=>au (.bool (bF<|r.getD 0 []).2.2.1)<|p (no aa)<|ay<|ai<|cb aa (fun ap=> ?_) fun ap=> ?_;exact ag fun aL=>au (str (bF<|r.getD 0 []).1)<|p (dj (ps:= [(0,str (bF<|r.getD 0 []).1)]) (L:= [str (bF<|r.getD 0 []).1,.slice none 0 0]) pM aa<|aa)<|e<|dt kZ aa aa aa aa (Wk.B C ae) (by simp) fun dC cm b3=>ay<|aL<|rt<|br<|tr<|eN aa (ed (cs:= [str (bF<|r.getD 0 []).1,.slice none 0 0]) aa ma aa fun j E=>b3.bB j) eD<|⟨.inl ⟨_,.slice none 0 0,JG I Z ao Y ab (by simpa using ap),aa,dK _ _ _ _⟩,(ac.trans C).trans' cm fun q A h=>by omega⟩
 refine aQ<|bn<|aI<|ag fun aL=>au (aV fb)<|au (str (bF<|r.getD 0 []).2.1)<|e<|cl HM (JZ B fb mc F V (bF<|r.getD 0 []).2.1 ax (ch.wk<|an.trans C) aC.kd aC.al ab ab) aa fun cT a8 cw=> ?_;obtain ⟨cK,aX⟩:=cw;have aF:=ac.trans<|C.trans aX;have a2:=Wk.B (C.trans aX) ae;obtain ⟨cV,cZ,rfl,bq⟩:∃ a,∃ e:Nat,cT= .tuple #[a,ak e]∧((e=0∧∃ l,gA F.kind F.aliases (bF<|r.getD 0 []).2.1= .ok l∧bz a8 ax.heap.size 95 1 a l.length (l.map bo))∨(e≠0∧gA F.kind F.aliases (bF<|r.getD 0 []).2.1= .error e)):=by
  rcases cK with ⟨a,l,h1,h2,h3⟩ | ⟨a,e,h1,h2,h3⟩;exact ⟨a,0,h1,.inl ⟨aa,l,h2,h3⟩⟩;exact ⟨a,e,h1,.inr ⟨h2,h3⟩⟩
 refine p mv<|p (xt aa aa)<|p (xt aa aa)<|p aE<|ay<|aL<|az fun bJ=>ag fun bK=>p mv<|p (dd aa aa)<|nl<|bK<|cd aa (fun cH=> ?_) fun cH=> ?_;obtain ⟨cN,aq⟩:=bq.resolve_left fun h=>by omega
 exact ag fun aN=>p (dj (ps:= []) (L:= [.string ⟨⟨[]⟩⟩,.slice none 0 0]) pM aa<|aa)<|p mv<|e<|dt kZ aa aa aa aa (a2) (by simp) fun dD cn b4=>ay<|aN<|rt<|tr<|eN aa (ed (cs:= [str [],.slice none 0 0]) aa ma aa fun j E=>b4.bB j) eD<|⟨.inr ⟨_,JH I Z ao Y ab (by simpa using ap) aq,cN,aa⟩,aF.trans' cn fun q A h=>by omega⟩
 obtain ⟨_,set,aq,av⟩:=bq.resolve_right fun h=>by omega
 obtain ⟨J,O,rfl⟩:=cJ av;have c8:=zC (fun l cL=>(aC.al l cL).1) aq;refine aQ<|bJ<|az fun aN=>ag fun bL=>p mv<|p (bM OA aa aa)<|p mv<|nl<|bL<|aT<|lp (fun aj bC a9=> ∃ (j:Nat),(j≤set.length)∧(∀ q,q < j→eV F (set.getD q 0)=true)∧(Wk a8 a9)∧(Sl bC [(0,aV fb),(4,aV aR),(6,aV bd),(8,str (bF<|r.getD 0 []).1),(13,.slice J set.length O),(75,.slice J set.length O),(76,ak (set.length)),(77,ak j)])∧(set.length - j=aj)) _ ⟨0,ab,(fun q A=>by omega),(Md.refl _ _),aa,aa⟩ ?_;rintro aj bC a9 ⟨j,E,a1,G,cS,rfl⟩;refine bG cS<|ag fun bO=>p (lt aa aa)<|nl<|bO<|az fun bP=>cd aa (fun cI=> ?_) fun cI=> ?_;refine aQ<|bP<|az fun aA=>aT<|ag fun bQ=>p (bc JL aa aa ab<|aM.ok ((ba<|a7 av G).2)<|cg ab)<|p (ld du aa<|aM.gY (ba<|a7 av G).2 (show (set.map bo)[j]? =some (bo<|set.getD j 0) by rw [gx,cX,cx (by omega :j < set.length)]; rfl)) ?_;refine ay<|bQ<|ag fun bR=>au (aV fb)<|p mv<|e<|cl Cm (Dj B fb mc F V (set.getD j 0) a9 (aZ.wk<|aF.trans G) ab) aa fun dl dx cy=> ?_;obtain ⟨rfl,bi⟩:=cy;have dh:=bi.size;have di:=G.size;refine p mv<|p (xt aa aa)<|p (xt aa aa)<|e<|al vE fun cW dq c1 bk b2=>e<|dt th aa aa aa aa (b2) (by simp) fun bw co c0=> ?_;have da:=bk.size;have am:Wk a8 bw:=(G.trans<|bi.trans bk.md).trans' co fun q A h=>by omega
 refine ay<|bR<|ag fun bb=>p mv<|p (no aa)<|p mv<|gb (t:=89) aa (fun a5=> ?_) fun a5=> ?_;refine aJ aa (Rg wm aa)<|aJ aa mv<|eg aa aa aa<|cl RV (UP (some ⟨aR,0,none⟩) 5 [F.sp.getD 0 0,F.sp.getD 1 0,F.sp.getD 2 0,F.sp.getD 3 0,F.sp.getD 4 0] (set.getD j 0) bw (aM.ec<|Wk.B ((an.trans<|C.trans aX).trans am) cO)<|by simp) aa fun dn dy cz=> ?_;obtain ⟨rfl,aY⟩:=cz;rw [acf aZ.gr] at*;refine aJ aa (no aa)<|p (bH aa)<|nl<|bb<|cb aa (fun a4=> ?_) fun a4=> ?_;exact ag fun bS=>p (dj (ps:= []) (L:= [.string ⟨⟨[]⟩⟩,.slice none 0 0]) pM aa<|aa)<|e<|dt kZ aa aa aa aa (Wk.B (am.trans aY) a2) (by simp) fun dE cp b5=>ay<|bS<|rt<|br<|tr<|tr<|br<|tr<|eN aa (ed (cs:= [str [],.slice none 0 0]) aa ma aa fun j E=>b5.bB j) eD<|⟨.inr ⟨120,JI I Z ao Y ab (by simpa using ap) aq (i:=j) ab (Vs (by simpa using a5)<|by simpa using a4),aB,aa⟩,(aF.trans<|am.trans aY).trans' cp fun q A h=>by omega⟩
 exact aQ<|bn<|aA<|rg aa<|p (ad aa aa<|cB ab)<|p mv<|nl<|tn<|⟨_,ab,j+1,ab,(fun q A=>by rcases fM q j with h | h <;> first | exact a1 q h | (rw [show q=j by omega]; exact Jn<|.inr<|by simpa using a4)),(am.trans aY),aa,aa⟩
 exact aH aa<|aH aa<|aH aa<|aH aa<|p (bA aa)<|nl<|bb<|cf aa<|aQ<|bn<|aA<|rg aa<|p (ad aa aa<|cB ab)<|p mv<|nl<|tn<|⟨_,ab,j+1,ab,(fun q A=>by rcases fM q j with h | h <;> first | exact a1 q h | (rw [show q=j by omega]; exact Jn<|.inl<|by simpa using a5)),am,aa,aa⟩
 exact ext<|bf<|bf<|be<|aN<|ag fun aA=>au (str (bF<|r.getD 0 []).1)<|au (.slice J set.length O)<|p (dj (ps:= [(0,str (bF<|r.getD 0 []).1),(1,.slice J set.length O)]) (L:= [str (bF<|r.getD 0 []).1,.slice J set.length O]) pM aa<|aa)<|e<|dt kZ aa aa aa aa (Wk.B G a2) (by simp) fun dF bj b6=>ay<|aA<|rt<|eN aa (ed (cs:= [str (bF<|r.getD 0 []).1,.slice J set.length O]) aa ma aa fun j E=>b6.bB j) eD<|⟨.inl ⟨((bF<|r.getD 0 []).1,set),.slice J set.length O,Dc I Z ao Y ab (by simpa using ap) aq (fun j E=>a1 j ab),aa,eQ (dw (a7 av G) bj fun q A h=>by have :=(dQ av A).1; have :=C.size; omega)<|by have :=C.size; omega⟩,(aF.trans G).trans' bj fun q A h=>by omega⟩
end Go.Hb
end
