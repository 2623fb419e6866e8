/-
  Walks and plain laws that the law rests on, laid together. No conditions but those that each theorem names.
-/
import Derived.Test.YtffmhpaepdkabaaGreatDoorMnDeriveLists4
set_option linter.unusedVariables false
open Array renaming getElem?_eq_some_iff→dm
open Bool renaming or_eq_false_iff→nw
open Classical renaming not_not→jn
open Except.ok renaming injEq→sg
open Go.Proofs.Tryz renaming prog→ay
open Go.Value renaming agg→bK,bool→bQ,int→jh,oneCell'→gz,tuple→gx
open Go.World renaming ownsRow→bo,ownsRow_nil→du
open List renaming all_eq_true→me,append_assoc→dC,append_nil→ed,count_eq_zero→q9,count_le_length→ui,drop_eq_nil_of_le→gP,eq_nil_of_length_eq_zero→fO,ext_getElem?→p8,find?_cons→Nu,find?_eq_none→EB,findIdx?_eq_none_iff→Nv,getD_eq_getElem?_getD→cQ,getElem?_append_left→mg,getElem?_append_right→mT,getElem?_cons_zero→uj,getElem?_eq_getElem→cz,getElem?_eq_some_iff→fJ,getElem?_map→ic,getElem?_of_mem→wT,getElem?_set→kX,getElem?_zip_eq_some→jx,length→jy,length_append→bI,length_cons→cM,length_map→fE,length_nil→fP,length_pos_iff→lx,length_set→wX,length_singleton→eW,length_take→dO,length_zip→zY,map_append→ig,mem_append→jz,mem_cons→gl,mem_of_getElem?→iJ,not_mem_nil→ur,take_of_length_le→eI,toArray→ba
open Nat renaming le_refl→cj,le_trans→fW,lt_or_ge→e8,zero_add→gQ
open Option renaming getD_some→z8,isSome_iff_exists→o8
open Prod renaming snd→nz
open Go.Proofs.Tryz
section
set_option maxRecDepth 20000
set_option maxHeartbeats 1000000
namespace Go.Hb.nA
open Go.Hb.dT
open Go.Proofs
open Go.Hb.fq Go.Hb.fQ Go.Hb.mi Go.Hb.gn Go.Hb.lQ Go.Hb.oy Go.Hb.kn Go.Hb.qf Go.Hb.iM Go.Hb.ot Go.Hb.po Go.Hb.j5 Go.Hb.ji
structure ou (w:World) (B fb:Nat) (mc:Nat) (F:aR) (V:eX):Prop where
 cells:w.heap[fb]? =some (.cells (oG F V mc).toArray 125 (0,0))
 o9:bo w B 128 2 V.v9 F.dd.length (kU F.dd)
 eO:bo w B 70 1 V.v10 F.aliases.length V.sa
 al:ek w B 51 V.sa F.aliases
 ej:bo w B 131 5 V.v11 F.bp.length (m7 F.bp)
 dB:bo w B 77 7 V.v12 F.rules.length (iQ<|F.rules.zip V.rn)
 nx:ek w B 51 V.rn (F.rules.map (·.next))
 lo:B≤fb∧B≤mc
 fI:F.sp.length=5
theorem ou.md {G:Nat→Prop} {w w':World} {B fb mc:Nat} {F:aR} {V:eX} (h:ou w B fb mc F V) (hm:Md G w w') {L:List Nat} (a:TF w L G) (i:(L.contains 127 || L.contains 130 || L.contains 72 || L.contains 53 || L.contains 133 || L.contains 79)=false):ou w' B fb mc F V:=by
 simp only [nw] at i
 obtain ⟨⟨⟨⟨⟨h1,h2⟩,h3⟩,h4⟩,h5⟩,h6⟩:=i
 have j:∀ k,G k→∀ cur z,w.heap[k]?≠some (.cells cur 51 z):=fun k hk cur z q=>a.no (dt q) h4 hk
 exact ⟨hm.gy a h.cells h1,bZ h.o9 hm a h2,bZ h.eO hm a h3,h.al.md hm j,bZ h.ej hm a h5,bZ h.dB hm a h6,h.nx.md hm j,h.lo,h.fI⟩
theorem ou.wk {w w':World} {B fb mc:Nat} {F:aR} {V:eX} (h:ou w B fb mc F V) (hm:Wk w w'):ou w' B fb mc F V:=h.md (L:= []) hm (fun _ hk=>hk.elim) rfl
theorem S8 {w:World} {B fb mc:Nat} {F:aR} {V:eX} (h:dP w B fb mc F V):ou w B fb mc F V:=⟨h.cells,h.o9,h.eO,h.al,h.ej,h.dB,h.nx,h.lo,h.fI⟩
theorem ou.Aq {w A G:World} {B fb mc:Nat} {F:aR} {V:eX} {v:Value} {x:c7} {f:Value→Option Value} (h:ou w B fb mc F V) (q:dq w.heap mc (pO .u16) f) (U:∀ y:Nat,f (bc y)=((F.bp++ [x]).findIdx? fun c=>decide (c.flag=y)).map fun i:Nat=>jh .i64 i) (hm:Md (fun k=>V.v11.ownBlock=some k) w A) (M:bo A B 131 5 v (F.bp++ [x]).length (m7<|F.bp++ [x])) (a:Md (fun k=>k=fb) A G) (O:G.heap[fb]? =some (.cells (oG {F with bp:=F.bp++ [x]} {V with v11:=v} mc).toArray 125 (0,0))):dP G B fb mc {F with bp:=F.bp++ [x]} {V with v11:=v} :=by
 have j:TF w [133] (fun k=>V.v11.ownBlock=some k):=TF.own h.ej az
 have E:=hm.gy j h.cells az
 have C:TF A [127] (fun k=>k=fb):=TF.eq (dt E) az
 have I:∀ k,V.v11.ownBlock=some k→∀ cur z,w.heap[k]?≠some (.cells cur 51 z):=hU h.ej az
 have J:∀ k,k=fb→∀ cur z,A.heap[k]?≠some (.cells cur 51 z):=fg E az
 have Y:=ez<|q.md hm<|j.no (ez q) az
 exact ⟨O,bZ (bZ h.o9 hm j az) a C az,bZ (bZ h.eO hm j az) a C az,(h.al.md hm I).md a J,db M a (fun k hk q=>dw M E az<|q ▸ hk),bZ (bZ h.dB hm j az) a C az,(h.nx.md hm I).md a J,⟨f,(q.md hm<|j.no (ez q) az).md a (C.no Y az),U⟩,h.lo,h.fI⟩
theorem dx.We {w A E:World} {B:Nat} {H:dp} {F F':aR} {R:gR} {rows:List Rw} {ln:Nat} {seen:List Tx} {v:Value} {q:c8} (h:dx w B H F R rows ln seen) (hm:Md (fun k=>R.vn.ownBlock=some k) w A) (O:bo A B 3 1 v (F.rules++ [q]).length ((F.rules++ [q]).map fun r=>jh .i64 (r.line:Nat))) (a:Md (fun k=>k=H.rb) A E) (U:E.heap[H.rb]? =some (.cells (vI H {R with vn:=v} ln).toArray 195 (0,0))) (Z:F'.rules=F.rules++ [q]) (hd:∀ x,eB F' x=eB F x):dx E B H F' {R with vn:=v} rows ln seen:=by
 have C:TF w [5] (fun k=>R.vn.ownBlock=some k):=TF.own h.on az
 have i:=hm.gy C h.cells az
 have G:TF A [197] (fun k=>k=H.rb):=TF.eq (dt i) az
 obtain ⟨f,j,V⟩:=h.sm
 obtain ⟨g,J,Y⟩:=h.tm
 have I:=j.md hm<|C.no (ez j) az
 have M:=J.md hm<|C.no (ez J) az
 exact ⟨U,(h.rws.md hm<|hU h.on az).md a (fg i az),(h.rt.md hm<|hU h.on az).md a (fg i az),⟨f,I.md a (G.no (ez I) az),V⟩,⟨g,M.md a (G.no (ez M) az),fun x aa=>by rw [hd]; exact Y x aa⟩,by rw [Z]; exact db O a (fun k hk j=>dw O i az<|j ▸ hk),h.lo,h.ne⟩
theorem BK {cs:List c7} {x:Nat} (h:(dU cs x).isSome=false):cs.findIdx? (fun c=>decide (c.flag=x))=none:=by
 rw [Nv]
 unfold dU at h
 rw [Option.isSome_eq_false_iff,Option.isNone_iff_eq_none,EB] at h
 intro c a
 simpa using h c a
theorem Sj {F:aR} {c:c7} (y:Nat):eB {F with bp:=F.bp++ [c]} y=(decide (y=c.flag) || eB F y):=by
 have h1:(dU (F.bp++ [c]) y).isSome=((dU F.bp y).isSome || decide (y=c.flag)):=by
  unfold dU
  rw [List.find?_append,Option.isSome_or]
  congr 1
  by_cases h:c.flag=y
  · simp [h]
  · simp [h,Ne.symm h]
 unfold eB
 show (decide (y∈F.sp) || (dU (F.bp++ [c]) y).isSome)=_
 rw [h1]
 cases decide (y∈F.sp) <;> cases (dU F.bp y).isSome <;> cases decide (y=c.flag) <;> rfl
theorem RA {F:aR} {c:c7} {f:Value→Option Value} (hd:eB F c.flag=false) (a:∀ x:Nat,f (bc x)=(F.bp.findIdx? fun c=>decide (c.flag=x)).map fun i:Nat=>jh .i64 i) (y:Nat):bS f (bc c.flag) (.int .i64 (F.bp.length:Nat)) (bc y)=((F.bp++ [c]).findIdx? fun c=>decide (c.flag=y)).map fun i:Nat=>jh .i64 i:=by
 unfold eB at hd
 rw [nw] at hd
 rw [List.findIdx?_append]
 by_cases h:y=c.flag
 · subst h
   rw [vE,BK hd.2]
   simp
 · rw [tE (fun h2=>h<|L0 h2),a y]
   cases F.bp.findIdx? fun c=>decide (c.flag=y) <;> simp [Ne.symm h]
theorem Bc {eof ln e:Nat} {F:aR} {rows:List Rw} {r:List Tx} (h:gD F (r.getD 1 [])= .error e):gH eof F rows ln r= .error (ln,e):=by unfold gH; rw [h]
theorem Be {eof ln x:Nat} {F:aR} {rows:List Rw} {r:List Tx} (h:gD F (r.getD 1 [])= .ok x) (h1:r.getD 2 []≠[89]) (h2:r.getD 2 []≠[78]):gH eof F rows ln r= .error (ln,114):=by unfold gH; rw [h]; exact if_pos ⟨h1,h2⟩
theorem GG {eof ln x e:Nat} {F:aR} {rows:List Rw} {r:List Tx} (h:gD F (r.getD 1 [])= .ok x) (h1:r.getD 2 []= [89]∨r.getD 2 []= [78]) (h2:eS (r.getD 3 []) 1024= .error e):gH eof F rows ln r= .error (ln,e):=by
 unfold gH; rw [h]; simp only; rw [if_neg (fun h3=>h1.elim h3.1 h3.2),h2]
theorem GH {eof ln x n:Nat} {F:aR} {rows:List Rw} {r:List Tx} (h:gD F (r.getD 1 [])= .ok x) (h1:r.getD 2 []= [89]∨r.getD 2 []= [78]) (h2:eS (r.getD 3 []) 1024= .ok n) (h3:1024 < F.rules.length+n):gH eof F rows ln r= .error (ln,117):=by
 unfold gH; rw [h]; simp only; rw [if_neg (fun h3=>h1.elim h3.1 h3.2),h2]; simp only; rw [if_pos h3]
theorem Bf {eof ln x n:Nat} {F:aR} {rows:List Rw} {r:List Tx} {e:Nat×Nat} (h:gD F (r.getD 1 [])= .ok x) (h1:r.getD 2 []= [89]∨r.getD 2 []= [78]) (h2:eS (r.getD 3 []) 1024= .ok n) (h3:¬1024 < F.rules.length+n) (h4:group [r.getD 0 [],r.getD 1 []] (fA F.kind F.aliases (⟨x,(if r.getD 0 []=di then 2 else 1:Nat),(decide (r.getD 2 []= [89])),F.rules.length,n⟩:c7)) eof n rows= .error e):gH eof F rows ln r= .error e:=by
 unfold gH; rw [h]; simp only; rw [if_neg (fun h3=>h1.elim h3.1 h3.2),h2]; simp only; rw [if_neg h3,h4]
theorem Q2 {eof ln x n:Nat} {F:aR} {rows:List Rw} {r:List Tx} {q:List c8×List Rw} (h:gD F (r.getD 1 [])= .ok x) (h1:r.getD 2 []= [89]∨r.getD 2 []= [78]) (h2:eS (r.getD 3 []) 1024= .ok n) (h3:¬1024 < F.rules.length+n) (h4:group [r.getD 0 [],r.getD 1 []] (fA F.kind F.aliases (⟨x,(if r.getD 0 []=di then 2 else 1:Nat),(decide (r.getD 2 []= [89])),F.rules.length,n⟩:c7)) eof n rows= .ok q):gH eof F rows ln r= .ok ({F with bp:=F.bp++ [(⟨x,(if r.getD 0 []=di then 2 else 1:Nat),(decide (r.getD 2 []= [89])),F.rules.length,n⟩:c7)],rules:=F.rules++q.1},q.2):=by
 unfold gH; rw [h]; simp only; rw [if_neg (fun h3=>h1.elim h3.1 h3.2),h2]; simp only; rw [if_neg h3,h4]
theorem GI (B:Nat) (H:dp) (F:aR) (rows:List Rw) (ln:Nat) (seen:List Tx) (r:List Tx) (cz:Nat) (ar:Option Addr) (cr:Nat) (w:World) (a:St w B H F rows ln seen) (c0:Tg w cz 9 r.length (.slice ar r.length cr) (r.map str)) (gf:r.length=4) (cs:∀ x∈r,x.length≤70000) (f2:F.dd.length+F.aliases.length+F.bp.length+F.rules.length+rows.length < 70000):
 fw ay 135 (ba [.pointer (some ⟨H.rb,0,none⟩),.slice ar r.length cr]) w (js B H seen (gH H.eof F rows ln r) w) (jr B H (gH H.eof F rows ln r) w):=by
 obtain ⟨V,R,J,ak,aC⟩:=a
 have Z:=c0.cI
 have gg:(r.getD 1 []).length≤70000:=cs _<|dQ ab
 have gh:(r.getD 2 []).length≤70000:=cs _<|dQ ab
 have gj:(r.getD 3 []).length≤70000:=cs _<|dQ ab
 have gd:=ak.lo
 have f7:=aC.len
 have gk:=(dm.1 ak.cells).1
 obtain ⟨a12,ks,ft⟩:=cw J.dB
 obtain ⟨cA,kr,dn⟩:=cw J.ej
 have eU:Hb.aO w.heap H.fb 12=some (.slice a12 F.rules.length ks):=by rw [← ft]; exact (a6 J.cells).trans rfl
 have f8:Hb.aO w.heap H.fb 11=some (.slice cA F.bp.length kr):=by rw [← dn]; exact (a6 J.cells).trans rfl
 have e0:∀ b,w.heap.size≤b→¬(V.v11.ownBlock=some b):=fun b f1 h=>by have :=dI J.ej h; omega
 obtain ⟨tf,fs,dk⟩:=ak.tm
 refine j8 func135 aa ntmps135 aa ?_
 refine ec (fun b1 cy=> ∃ (x I:Nat),(gD F (r.getD 1 [])= .ok x)∧(x≠0)∧(eB F x=false)∧(w.heap.size≤I)∧(cy.heap[I]? =some (.cells [bc x,.int .i64 (1:Nat),.bool false,.int .i64 (F.rules.length:Nat),.int .i64 (0:Nat)].toArray 131 (0,0)))∧(Wk w cy)∧(b1 0= .pointer (some ⟨H.rb,0,none⟩))∧(b1 1= .slice ar r.length cr)∧(b1 4= .pointer (some ⟨I,0,none⟩))) ?_ ?_
 have C:(fun w'=>Wk w w') w.drew:=(Md.refl _ _).drew
 refine bJ (fun w'=>Wk w w') aa wide C<|hp 0 aa ag (fun _ _=>aT (.pointer<|some ⟨H.rb,0,none⟩) aa) C<|hp 1 aa ag (fun _ _=>aT (.slice ar r.length cr) aa) C<|hp 2 aa ag (fun _ _=>a7 cE aa aa ab<|aI.ok (Z.2)<|bP ab) C<|hp 3 aa ag (fun w' a=>ld bR aa<|Wk.aO a<|bX.get (i:=1) Z.2 ab) C<|hp 5 aa ag (fun _ _=>aT (.pointer<|some ⟨H.rb,0,none⟩) aa) C<|hp 6 aa ag (fun _ _=>nc aa) C<|hp 7 aa ag (fun _ _=>fa gY aa) C<|hp 8 aa ag (fun w' a=>ld fZ aa<|Wk.aO a<|(a6 ak.cells).trans aa) C<|hp 9 aa ag (fun _ _=>nc aa) C<|hp 10 aa ag (fun _ _=>fa gC aa) C<|hp 11 aa ag (fun _ _=>fa nP aa) C<|hp 12 aa ag (fun w' a=>ld lU aa<|Wk.aO a<|eU) C<|hp 13 aa ag (fun _ _=>bF vX aa aa) C<|UE (Pn:=fun c w'=> ∃ e,gD F (r.getD 1 [])= .error e∧c=jk 47 ln (e:Nat)∧Wk w.drew w') 4 15 aa aa ag aa aa ?_ (fun c w' A aP J=>by obtain ⟨e,he,h,h2⟩:=A; exact ⟨ln,e,Bc he,h,Wk.mw<|Md.trans C h2⟩) ?_
 refine dN AN (Cf B H F V R rows ln seen (r.getD 1 []) w.drew (J.wk C) (ak.wk C) aC.kd ab) aa fun v10 bY bh=> ?_
 obtain ⟨x,ac,bz,rfl,aN,bG⟩:=bh
 have am:(fun w'=>Wk w w') bY:=Md.trans C bG
 refine ⟨am,?_⟩
 refine hp 14 aa ag (fun _ _=>cO (ps:= [(0,bc x),(1,.int .i64 (1:Nat)),(3,.int .i64 (F.rules.length:Nat))]) (L:= [bc x,.int .i64 (1:Nat),.bool false,.int .i64 (F.rules.length:Nat),.int .i64 0]) DE aa<|aa) am<|he 15 aa ag<|ga tV fun I b0 eQ ca b4=> ?_
 have aw:(fun w'=>Wk w w') b0:=Md.trans am ca.md
 refine ⟨aw,?_⟩
 refine he 16 aa ag<|gi rF aa aa aa aa b4 az fun cv b8 b5=> ?_
 have bl:(fun w'=>Wk w w') cv:=Md.trans' aw b8 fun k hk h=>by have h1:=Md.size am; have h2:=Md.size C; omega
 refine ⟨bl,?_⟩
 exact hn ag<|tn<|⟨x,I,ac,bz,aN,(by have h1:=Md.size am; have h2:=Md.size C; omega),b5,bl,aa,aa,aa⟩
 refine ga tV fun I b0 eQ ca b4=> ?_
 have aw:(fun w'=>Wk w w') b0:=Md.trans C ca.md
 refine ⟨aw,?_⟩
 refine tx 4 aa ag aa (dN AN (Cf B H F V R rows ln seen (r.getD 1 []) b0 (J.wk aw) (ak.wk aw) aC.kd ab) aa fun v10 bY bh=> ?_) fun c w' A aP J=>by obtain ⟨e,he,h,h2⟩:=A; exact ⟨ln,e,Bc he,h,Wk.mw<|Md.trans aw h2⟩
 obtain ⟨x,ac,bz,rfl,aN,bG⟩:=bh
 have am:(fun w'=>Wk w w') bY:=Md.trans aw bG
 refine ⟨am,?_⟩
 refine hp 14 aa ag (fun _ _=>cO (ps:= [(0,bc x),(1,.int .i64 (1:Nat)),(3,.int .i64 (F.rules.length:Nat))]) (L:= [bc x,.int .i64 (1:Nat),.bool false,.int .i64 (F.rules.length:Nat),.int .i64 0]) DE aa<|aa) am<|he 16 aa ag<|gi rF aa aa aa aa (Wk.aJ bG b4) az fun cv b8 b5=> ?_
 have bl:(fun w'=>Wk w w') cv:=Md.trans' am b8 fun k hk h=>by have h1:=Md.size am; have h2:=Md.size C; omega
 refine ⟨bl,?_⟩
 exact hn ag<|tn<|⟨x,I,ac,bz,aN,(by have h1:=Md.size am; have h2:=Md.size C; omega),b5,bl,aa,aa,aa⟩
 rintro b1 cy ⟨x,I,ac,bz,aN,e5,dg,bD,e8,e9,fc⟩
 refine fx 0 e8<|fx 1 e9<|fx 4 fc ?_
 refine ec (fun b2 aY=>(aY.heap[I]? =some (.cells [bc x,.int .i64 ((if r.getD 0 []=di then 2 else 1:Nat):Nat),.bool false,.int .i64 (F.rules.length:Nat),.int .i64 (0:Nat)].toArray 131 (0,0)))∧(Wk w aY)∧(b2 0= .pointer (some ⟨H.rb,0,none⟩))∧(b2 1= .slice ar r.length cr)∧(b2 4= .pointer (some ⟨I,0,none⟩))) ?_ ?_
 refine sq fun dD b7=>rg aa<|p (aT (.slice ar r.length cr) aa)<|p (a7 cE aa aa ab<|aI.ok (aI.wk Z.2 bD)<|bP ab)<|p (ld bR aa<|bX.get (i:=0) (aI.wk Z.2 bD) ab)<|p (dR aa aa)<|nl<|tn<|b7 _ _<|cd aa (fun ck=> ?_) fun ck=> ?_
 exact rg aa<|p (fa uZ aa)<|e<|cV gX aa aa (v:= .int .i64 (2:Nat)) aa dg (by show _ < 5; decide) fun gz ea dM=>nl<|tn<|⟨(by rw [if_pos (show r.getD 0 []=di from ck)]; exact dM),(bD.trans' ea fun k hk h=>by omega),aa,aa,aa⟩
 exact aM<|tn<|⟨(by rw [if_neg (show ¬r.getD 0 []=di from ck)]; exact dg),bD,aa,aa,aa⟩
 rintro b2 aY ⟨e4,ai,fd,fe,ff⟩
 refine fx 0 fd<|fx 1 fe<|fx 4 ff ?_
 refine ec (fun b3 dA=>(r.getD 2 []= [89]∨r.getD 2 []= [78])∧(dA=aY)∧(b3 0= .pointer (some ⟨H.rb,0,none⟩))∧(b3 1= .slice ar r.length cr)∧(b3 4= .pointer (some ⟨I,0,none⟩))) ?_ ?_
 refine rg aa<|p (aT (.pointer<|some ⟨H.rb,0,none⟩) aa)<|p (aT (.slice ar r.length cr) aa)<|p (a7 cE aa aa ab<|aI.ok (aI.wk Z.2 ai)<|bP ab)<|p (ld bR aa<|bX.get (i:=2) (aI.wk Z.2 ai) ab)<|p (dR aa aa)<|p mv<|gs (t:=31) aa (fun bQ=> ?_) fun bQ=> ?_
 refine sk aa aa aa aa<|sk aa aa aa aa<|sk aa aa aa aa<|sk aa aa aa aa<|p (bw aa)<|eP aa (dN il (iz H.rb ln _ 114 aY (Wk.aO ai ak.dj) az) aa fun v37 fF cb=> ?_) fun c w' A aP J=>by first | exact absurd A.2.1 az | exact ⟨ln,114,Be ac bQ (of_decide_eq_false A.2.1),A.1,by rw [A.2.2]; exact Wk.mw ai⟩
 obtain ⟨rfl,dr,rfl⟩:=cb
 exact nl<|tn<|⟨(.inl bQ),aa,aa,aa,aa⟩
 refine pg aa aa aa (aT (.slice ar r.length cr) aa)<|pg aa aa aa (a7 cE aa aa ab<|aI.ok (aI.wk Z.2 ai)<|bP ab)<|pg aa aa aa (ld bR aa<|bX.get (i:=2) (aI.wk Z.2 ai) ab)<|pg aa aa aa (dR aa aa)<|p (bm aa)<|eP aa (dN il (iz H.rb ln _ 114 aY (Wk.aO ai ak.dj) az) aa fun v37 fF cb=> ?_) fun c w' A aP J=>by first | exact absurd A.2.1 az | exact ⟨ln,114,Be ac bQ (of_decide_eq_false A.2.1),A.1,by rw [A.2.2]; exact Wk.mw ai⟩
 obtain ⟨rfl,dr,rfl⟩:=cb
 exact nl<|tn<|⟨(.inr<|of_decide_eq_true dr),aa,aa,aa,aa⟩
 rintro b3 dA ⟨aV,fv,fh,fi,fj⟩
 refine fx 0 fh<|fx 1 fi<|fx 4 fj ?_
 subst fv
 refine sq fun dD b7=>rg aa<|p (aT (.slice ar r.length cr) aa)<|p (a7 cE aa aa ab<|aI.ok (aI.wk Z.2 ai)<|bP ab)<|p (ld bR aa<|bX.get (i:=2) (aI.wk Z.2 ai) ab)<|p (dR aa aa)<|p (fa If aa)<|e<|cV G7 aa aa (v:= .bool<|decide (r.getD 2 []= [89])) aa e4 (by show _ < 5; decide) fun fG eb dO=> ?_
 have a9:=ai.trans' eb fun k hk h=>by omega
 refine nl<|tn<|b7 _ _<|sq fun fM d2=>rg aa<|p (aT (.pointer<|some ⟨H.rb,0,none⟩) aa)<|p (aT (.slice ar r.length cr) aa)<|p (a7 cE aa aa ab<|aI.ok (aI.wk Z.2 a9)<|bP ab)<|p (ld bR aa<|bX.get (i:=3) (aI.wk Z.2 a9) ab)<|eP aa (dN xD (yX H.rb ln (r.getD 3 []) 1024 fG (Wk.aO a9 ak.dj) ab ab) aa fun gv gx ex=> ?_) fun c w' A aP J=>by obtain ⟨e,he,h,h2⟩:=A; exact ⟨ln,e,GG ac aV he,h,Wk.mw<|a9.trans h2⟩
 obtain ⟨n,aU,rfl,cC⟩:=ex
 have ge:=CV aU
 refine p (fa yf aa)<|e<|cV gX aa aa (v:= .int .i64 (n:Nat)) aa (Wk.aJ cC dO) (by show _ < 5; decide) fun dv ef dT=> ?_
 have aE:=(a9.trans cC).trans' ef fun k hk h=>by omega
 have bs:dv.heap[I]? =some (.cells [bc x,.int .i64 ((if r.getD 0 []=di then 2 else 1:Nat):Nat),.bool (decide (r.getD 2 []= [89])),.int .i64 (F.rules.length:Nat),.int .i64 (n:Nat)].toArray 131 (0,0)):=dT
 refine nl<|tn<|d2 _ _<|sq fun fN d3=>rg aa<|p (aT (.pointer<|some ⟨H.rb,0,none⟩) aa)<|p (fa Ig aa)<|p (ld bA aa<|(a6 bs).trans aa)<|p (fa yf aa)<|p (ld bA aa<|(a6 bs).trans aa)<|p (bE ((F.rules.length+n:Nat):Int) aa aa<|bj ab ab)<|p (le aa aa)<|eP aa (dN il (iz H.rb ln _ 117 dv (Wk.aO aE ak.dj) az) aa fun gw cx ey=> ?_) fun c w' A aP J=>⟨ln,117,GH ac aV aU (by have :=of_decide_eq_false A.2.1; omega),A.1,by rw [A.2.2]; exact Wk.mw aE⟩
 obtain ⟨rfl,fy,rfl⟩:=ey
 have bC:¬1024 < F.rules.length+n:=by have :=of_decide_eq_true fy; omega
 have bK:=ak.wk aE
 have dW:=J.wk aE
 have bU:=fs.wk aE
 refine nl<|tn<|d3 _ _<|sq fun fO d4=> ?_
 have ao:(fun w'=>Wk cx w') cx.drew:=(Md.refl _ _).drew
 refine eM (fun w'=>Wk cx w') 8 aa wide ao<|lq 0 aa ag (fun _ _=>aT (.pointer<|some ⟨H.rb,0,none⟩) aa) ao<|lq 1 aa ag (fun _ _=>nc aa) ao<|lq 2 aa ag (fun _ _=>fa B5 aa) ao<|lq 3 aa ag (fun w' a=>ld uB aa<|Wk.aO a<|(a6 bK.cells).trans aa) ao<|lq 4 aa ag (fun _ _=>fa BW aa) ao<|lq 5 aa ag (fun w' a=>ld cU aa<|Wk.aO a<|(a6 bs).trans aa) ao<|lq 6 aa ag (fun w' a=>oK r7 oV rN (dq.md (bU) a id) aa aa (⟨_,aa⟩) (show _=jh .i64 0 from (dk x bz).trans<|by rw [aN]; rfl)) ao<|lq 7 aa ag (fun _ _=>bE ((1:Nat):Int) aa aa<|bj ab ab) ao<|dG 8 aa ag ag<|tP r7 rN (bU.wk ao) aa aa aa (⟨_,aa⟩) fun aZ ee er=> ?_
 have bf:=ib ee
 have bk:dx aZ B H {F with bp:=F.bp++ [(⟨x,(if r.getD 0 []=di then 2 else 1:Nat),(decide (r.getD 2 []= [89])),F.rules.length,n⟩:c7)]} R rows ln seen:=bK.vz bf er rfl (LQ aN dk fun y _=>Sj y)
 have bb:=dW.vz bK bf
 have da:=bf.aJ bs fun h=>bU.pP<|h ▸ bs
 have eJ:=(c0.wk aE).md bf fun k hk cur z co=>by subst hk; exact bU.pP co
 have el:=(Wk.mw aE).trans<|fu.mt bK bf
 obtain ⟨cf,cl,eV⟩:=bb.cm
 have eT:Hb.aO aZ.heap H.fb 11=some (.slice cA F.bp.length kr):=by rw [← dn]; exact (a6 bb.cells).trans rfl
 refine eL ag<|tn<|d4 _ _<|sq fun fQ d5=> ?_
 have E:(fun w'=>Wk aZ w') aZ.drew:=(Md.refl _ _).drew
 refine eM (fun w'=>Wk aZ w') 18 aa wide E<|lq 0 aa ag (fun _ _=>aT (.pointer<|some ⟨H.rb,0,none⟩) aa) E<|lq 1 aa ag (fun _ _=>nc aa) E<|lq 2 aa ag (fun _ _=>fa gY aa) E<|lq 3 aa ag (fun w' a=>ld fZ aa<|Wk.aO a<|(a6 bk.cells).trans aa) E<|lq 4 aa ag (fun _ _=>nc aa) E<|lq 5 aa ag (fun _ _=>fa Ie aa) E<|lq 6 aa ag (fun w' a=>ld uB aa<|Wk.aO a<|(a6 bb.cells).trans aa) E<|lq 7 aa ag (fun _ _=>fa BW aa) E<|lq 8 aa ag (fun w' a=>ld cU aa<|Wk.aO a<|(a6 da).trans aa) E<|lq 9 aa ag (fun _ _=>aT (.pointer<|some ⟨H.rb,0,none⟩) aa) E<|lq 10 aa ag (fun _ _=>nc aa) E<|lq 11 aa ag (fun _ _=>fa gY aa) E<|lq 12 aa ag (fun w' a=>ld fZ aa<|Wk.aO a<|(a6 bk.cells).trans aa) E<|lq 13 aa ag (fun _ _=>nc aa) E<|lq 14 aa ag (fun _ _=>fa gC aa) E ?_
 refine lq 15 aa ag (fun _ _=>fa tv aa) E<|lq 16 aa ag (fun w' a=>ld xv aa<|Wk.aO a<|eT) E<|lq 17 aa ag (fun _ _=>bF L7 aa aa) E<|dG 18 aa ag ag<|tP r7 rN (cl.wk E) aa aa aa (⟨_,aa⟩) fun a0 eg es=> ?_
 have et:dq a0.heap H.mc (pO .u16) (bS cf (bc x)<|.int .i64 (F.bp.length:Nat)):=es
 have bg:=ib eg
 have ce:TF aZ [1] (fun k=>k=H.mc):=TF.eq (ez cl) az
 have br:=(S8 bb).md (L:= [1]) bg ce az
 have bM:=bk.md (L:= [1]) bg ce az bk.ne.2.1 bk.ne.2.2
 have c4:=bg.gy ce da az
 have eK:=eJ.md bg fun k hk cur z co=>by subst hk; exact cl.pP co
 have en:=el.trans<|bg.mono fun k _ hk=>⟨hk ▸ bb.lo.2,.inr<|.inr<|.inl hk⟩
 have db:=e0 I e5
 have bx:¬(V.v11.ownBlock=some H.rb):=dw br.ej bM.cells az
 have cp:¬(V.v11.ownBlock=some H.fb):=dw br.ej br.cells az
 refine eL ag<|tn<|d5 _ _<|sq fun fS d6=> ?_
 have O:(fun w'=>Md (fun k=>V.v11.ownBlock=some k) a0 w') a0.drew:=(Md.refl _ _).drew
 refine eM (fun w'=>Md (fun k=>V.v11.ownBlock=some k) a0 w') 18 aa wide O<|dz 0 aa ag (fun _=>aT (.pointer<|some ⟨H.rb,0,none⟩) aa) (fun _=>O)<|dz 1 aa ag (fun _=>nc aa) (fun _=>O)<|dz 2 aa ag (fun _=>fa gY aa) (fun _=>O)<|kD 3 aa ag (fun w' a=>ld fZ aa<|Md.aO a ((a6 bM.cells).trans aa) bx) O<|dz 4 aa ag (fun _=>aT (.pointer<|some ⟨H.rb,0,none⟩) aa) (fun _=>O)<|dz 5 aa ag (fun _=>nc aa) (fun _=>O)<|dz 6 aa ag (fun _=>fa gY aa) (fun _=>O)<|kD 7 aa ag (fun w' a=>ld fZ aa<|Md.aO a ((a6 bM.cells).trans aa) bx) O<|dz 8 aa ag (fun _=>nc aa) (fun _=>O)<|dz 9 aa ag (fun _=>fa gC aa) (fun _=>O)<|dz 10 aa ag (fun _=>fa tv aa) (fun _=>O)<|kD 11 aa ag (fun w' a=>ld xv aa<|Md.aO a ((a6 br.cells).trans aa) cp) O<|kD 12 aa ag (fun w' a=>cT uC aa (aa) fun j eY=>bL.bB ⟨_,Md.aJ a c4 db⟩ j) O<|gL 13 aa ag<|kq zd aa aa aa fun fY fI f6 cN dU=> ?_
 have aQ:=ib cN.md
 have aq:=br.wk aQ
 have cQ:=bM.wk aQ
 have gn:=(dm.1 cQ.cells).1
 have cZ:(fun w'=>Md (fun k=>V.v11.ownBlock=some k) a0 w') fI:=O.trans' cN.md fun _ _ h=>h.elim
 refine ⟨cZ,?_⟩
 refine gL 14 aa ag<|ap zd (aq.ej) aa ab aa (aI.dS dU) (aa) (aa) ab ab fun ct dy df aK gr gc=> ?_
 have eo:=(en.trans<|Wk.mw aQ).trans<|Mw.of aK (TF.own aq.ej az) fun k hk=>(dI aq.ej hk).1
 have bh:=dx.own cQ aq.ej aK az
 have bt:=aK.aJ aq.cells<|dw aq.ej aq.cells az
 have cg:=aK.aJ (Wk.aJ aQ c4) db
 have eC:=(eK.wk aQ).md aK<|hU aq.ej az
 have e3:bo dy B 131 5 ct (F.bp++ [(⟨x,(if r.getD 0 []=di then 2 else 1:Nat),(decide (r.getD 2 []= [89])),F.rules.length,n⟩:c7)]).length (m7<|F.bp++ [(⟨x,(if r.getD 0 []=di then 2 else 1:Nat),(decide (r.getD 2 []= [89])),F.rules.length,n⟩:c7)]):=by rw [show m7 (F.bp++ [(⟨x,(if r.getD 0 []=di then 2 else 1:Nat),(decide (r.getD 2 []= [89])),F.rules.length,n⟩:c7)])=m7 F.bp++nK (⟨x,(if r.getD 0 []=di then 2 else 1:Nat),(decide (r.getD 2 []= [89])),F.rules.length,n⟩:c7) from by simp [m7],bI]; exact df
 have bO:(fun w'=>Md (fun k=>V.v11.ownBlock=some k) a0 w') dy:=cZ.trans' aK fun _ _ h=>h
 refine ⟨bO,?_⟩
 refine dz 15 aa ag (fun _=>nc aa) (fun _=>bO)<|dz 16 aa ag (fun _=>fa gC aa) (fun _=>bO)<|dz 17 aa ag (fun _=>fa tv aa) (fun _=>bO)<|dG 18 aa ag ag<|cV Ha aa aa (v:=ct) (eH df) bt (by show _ < 14; omega) fun aX aj b6=> ?_
 have dV:=ou.Aq (x:=(⟨x,(if r.getD 0 []=di then 2 else 1:Nat),(decide (r.getD 2 []= [89])),F.rules.length,n⟩:c7)) aq (et.wk aQ) (RA (c:=(⟨x,(if r.getD 0 []=di then 2 else 1:Nat),(decide (r.getD 2 []= [89])),F.rules.length,n⟩:c7)) aN eV) aK e3 aj b6
 have eu:=dx.oF bh bt aj
 have c5:=aj.aJ cg fun h=>by rw [h,bt] at cg; cases cg
 have eD:=eC.md aj<|fg bt az
 have eh:=eo.trans<|Mw.of aj (TF.eq (dt bt) az) fun k hk=>hk ▸ aq.lo.1
 refine eL ag<|tn<|d6 _ _<|sq fun fT d7=>rg aa<|p (fa yf aa)<|p (ld bA aa<|(a6 c5).trans aa)<|p mv<|nl<|tn<|d7 _ _<|aJ<|lp (fun cB a1 ae=> ∃ (i:Nat) (xs:List c8) (rows':List Rw) (bV:Nat) (G:eX) (R':gR),(i≤n)∧(iT [r.getD 0 [],r.getD 1 []] (fA F.kind F.aliases (⟨x,(if r.getD 0 []=di then 2 else 1:Nat),(decide (r.getD 2 []= [89])),F.rules.length,n⟩:c7)) H.eof (group [r.getD 0 [],r.getD 1 []] (fA F.kind F.aliases (⟨x,(if r.getD 0 []=di then 2 else 1:Nat),(decide (r.getD 2 []= [89])),F.rules.length,n⟩:c7)) H.eof n rows) xs (n - i) rows')∧(xs.length=i)∧(dP ae B H.fb H.mc {F with bp:=F.bp++ [(⟨x,(if r.getD 0 []=di then 2 else 1:Nat),(decide (r.getD 2 []= [89])),F.rules.length,n⟩:c7)],rules:=F.rules++xs} G)∧(dx ae B H {F with bp:=F.bp++ [(⟨x,(if r.getD 0 []=di then 2 else 1:Nat),(decide (r.getD 2 []= [89])),F.rules.length,n⟩:c7)],rules:=F.rules++xs} R' rows' bV seen)∧(kI {F with bp:=F.bp++ [(⟨x,(if r.getD 0 []=di then 2 else 1:Nat),(decide (r.getD 2 []= [89])),F.rules.length,n⟩:c7)],rules:=F.rules++xs} rows' seen)∧(fu B H w ae)∧(ae.heap[I]? =some (.cells [bc x,.int .i64 ((if r.getD 0 []=di then 2 else 1:Nat):Nat),.bool (decide (r.getD 2 []= [89])),.int .i64 (F.rules.length:Nat),.int .i64 (n:Nat)].toArray 131 (0,0)))∧(Tg ae cz 9 r.length (.slice ar r.length cr)<|r.map str)∧(a1 0= .pointer (some ⟨H.rb,0,none⟩))∧(a1 1= .slice ar r.length cr)∧(a1 4= .pointer (some ⟨I,0,none⟩))∧(a1 102= .int .i64 (n:Nat))∧(a1 103= .int .i64 (i:Nat))∧(n - i=cB)) _ ⟨0,[],rows,ln,{V with v11:=ct},R,ab,iT.start,aa,(by rw [ed]; exact dV),(by rw [ed]; exact eu),(⟨by simp only [bI,eW,fP]; omega,aC.sl,aC.row,aC.kd,aC.al⟩),eh,c5,eD,aa,aa,aa,aa,aa,aa⟩ ?_
 rintro cB a1 ae ⟨i,xs,rows',bV,G,R',hi,aS,fz,cD,au,a5,cH,dh,bq,fl,fm,fr,fo,fq,rfl⟩
 refine fx 0 fl<|fx 1 fm<|fx 4 fr<|fx 102 fo<|fx 103 fq<|sq fun fU d8=>rg aa<|p (lt aa aa)<|nl<|tn<|d8 _ _<|sq fun fV d9=>cd aa (fun eS=> ?_) fun eS=> ?_
 refine aM<|tn<|d9 _ _<|sq fun fJ dZ=>aJ<|sq fun fK d0=> ?_
 have av:(fun w'=>Md (fun k=>k=H.rb) ae w') ae.drew:=(Md.refl _ _).drew
 refine bJ (fun w'=>Md (fun k=>k=H.rb) ae w') aa wide av<|hp 0 aa ag (fun _ _=>aT (.pointer<|some ⟨H.rb,0,none⟩) aa) av<|hp 1 aa ag (fun _ _=>aT (.slice ar r.length cr) aa) av<|hp 2 aa ag (fun _ _=>a7 cE aa aa ab<|aI.ok (bq.cI.2)<|bP ab) av<|hp 3 aa ag (fun w' a=>ld bR aa<|bX.get (i:=0) (bq.md a<|fg au.cells az).cI.2 ab) av<|hp 4 aa ag (fun _ _=>aT (.slice ar r.length cr) aa) av<|hp 5 aa ag (fun _ _=>a7 cE aa aa ab<|aI.ok (bq.cI.2)<|bP ab) av<|hp 6 aa ag (fun w' a=>ld bR aa<|bX.get (i:=1) (bq.md a<|fg au.cells az).cI.2 ab) av<|he 7 aa ag<|sU (L:= [str (r.getD 0 []),str (r.getD 1 [])]) fH aa aa aa aa fun dF cu f4 cL dK=> ?_
 have ah:Wk ae cu:=ib cL.md
 have cJ:=cH.trans<|Wk.mw ah
 have cR:(fun w'=>Md (fun k=>k=H.rb) ae w') cu:=av.trans' cL.md fun _ _ h=>h.elim
 refine ⟨cR,?_⟩
 refine tx 8 aa ag aa (dN AO (Cz B H {F with bp:=F.bp++ [(⟨x,(if r.getD 0 []=di then 2 else 1:Nat),(decide (r.getD 2 []= [89])),F.rules.length,n⟩:c7)],rules:=F.rules++xs} R' rows' bV seen [r.getD 0 [],r.getD 1 []] dF 2 _ _ cu (au.wk ah) (Tg.C1 dK aa) aa az fun q cq=>(a5.row q cq).2.1) aa fun gu ax ew=> ?_) (fun c w' A aP J=>by
  obtain ⟨h1,h2⟩:=A
  have hm:=cJ.trans<|fu.rb (au.wk ah) h2
  rcases h1 with ⟨rfl,h3⟩ | ⟨bW,aW,rest,rfl,h4,h3⟩
  exact ⟨_,_,Bf ac aV aU bC (aS.ends ab),h3,hm⟩
  exact ⟨_,_,Bf ac aV aU bC (aS.other ab h4),h3,hm⟩)
 obtain ⟨bW,aW,rest,rfl,dl,⟨aA,bi⟩,hT15,hM15⟩:=ew
 obtain ⟨dE,uL,rfl⟩:=hT15.slice
 have aF:=(cD.wk ah).rb (au.wk ah) hM15
 have cK:=cJ.trans<|fu.rb (au.wk ah) hM15
 have e7:aW≠[]∧aW.length≤70000∧∀ x∈aW,x.length≤70000:=a5.row (bW,aW)<|by simp
 have a4:=kI.pH a5
 have eR:=a5.len
 simp only [cM,bI] at eR
 have eE:=(bq.wk ah).md hM15<|fg (au.wk ah).cells az
 have ch:=hM15.aJ (Wk.aJ ah dh) fun h=>by have h1:=(au.wk ah).cells; rw [← h,Wk.aJ ah dh] at h1; cases h1
 have cS:(fun w'=>Md (fun k=>k=H.rb) ae w') ax:=cR.trans' hM15 fun _ _ h=>h
 refine ⟨cS,?_⟩
 refine hp 9 aa ag (fun _ _=>aB) cS<|hn ag<|tn<|d0 _ _<|sq fun fL d1=> ?_
 have bx:¬(G.v12.ownBlock=some H.rb):=dw aF.dB bi.cells az
 have cp:¬(G.v12.ownBlock=some H.fb):=dw aF.dB aF.cells az
 have eZ:¬(G.v12.ownBlock=some I):=dw aF.dB ch az
 have M:(fun w'=>Md (fun k=>G.v12.ownBlock=some k) ax w') ax.drew:=(Md.refl _ _).drew
 refine eM (fun w'=>Md (fun k=>G.v12.ownBlock=some k) ax w') 21 aa wide M<|dz 0 aa ag (fun _=>aT (.pointer<|some ⟨H.rb,0,none⟩) aa) (fun _=>M)<|dz 1 aa ag (fun _=>nc aa) (fun _=>M)<|dz 2 aa ag (fun _=>fa gY aa) (fun _=>M)<|kD 3 aa ag (fun w' a=>ld fZ aa<|Md.aO a ((a6 bi.cells).trans aa) bx) M<|dz 4 aa ag (fun _=>aT (.pointer<|some ⟨H.rb,0,none⟩) aa) (fun _=>M)<|dz 5 aa ag (fun _=>nc aa) (fun _=>M)<|dz 6 aa ag (fun _=>fa gY aa) (fun _=>M)<|kD 7 aa ag (fun w' a=>ld fZ aa<|Md.aO a ((a6 bi.cells).trans aa) bx) M<|dz 8 aa ag (fun _=>nc aa) (fun _=>M)<|dz 9 aa ag (fun _=>fa gC aa) (fun _=>M)<|dz 10 aa ag (fun _=>fa nP aa) (fun _=>M)<|kD 11 aa ag (fun w' a=>ld lU aa<|Md.aO a ((a6 aF.cells).trans aa) cp) M<|dz 12 aa ag (fun _=>aT (.pointer<|some ⟨H.rb,0,none⟩) aa) (fun _=>M)<|kD 13 aa ag (fun w' a=>cT uC aa (aa) fun j eY=>bL.bB ⟨_,Md.aJ a ch eZ⟩ j) M<|dz 14 aa ag (fun _=>mv) (fun _=>M) ?_
 refine Jx 15 aa ag aa (dN PC (y1 B H {F with bp:=F.bp++ [(⟨x,(if r.getD 0 []=di then 2 else 1:Nat),(decide (r.getD 2 []= [89])),F.rules.length,n⟩:c7)],rules:=F.rules++xs} G aA rest bW seen (⟨x,(if r.getD 0 []=di then 2 else 1:Nat),(decide (r.getD 2 []= [89])),F.rules.length,n⟩:c7) aW B dE uL ax.drew (aF.wk (Md.refl _ _).drew) (bi.wk (Md.refl _ _).drew) a4 (by show (if r.getD 0 []=di then 2 else 1)=1∨(if r.getD 0 []=di then 2 else 1)=2; split <;> simp) (hT15.wk (Md.refl _ _).drew) e7.2) aa fun gt fC ev=> ?_) fun c w' A aP J=>by obtain ⟨e,he,h,h2⟩:=A; exact ⟨_,_,Bf ac aV aU bC (aS.bad ab dl he),h,cK.trans<|Wk.mw<|ib h2⟩
 obtain ⟨q,cq,e6,⟨vn,rfl,c3⟩,bH⟩:=ev
 obtain ⟨a2,a3,rfl⟩:=c3.slice
 have bH:=ib bH
 have cW:(fun w'=>Md (fun k=>G.v12.ownBlock=some k) ax w') fC:=Md.mono bH fun _ _ h=>h.elim
 refine ⟨cW,?_⟩
 refine gL 16 aa ag<|kq ze aa aa aa fun fW fD f3 b9 dJ=> ?_
 have a8:=bH.trans b9.md
 have U:=aF.wk a8
 have cP:=bi.wk a8
 have eF:=eE.wk a8
 have c6:=Wk.aJ a8 ch
 have eO:=c3.wk b9.md
 have gl:=(dm.1 cP.cells).1
 have cX:(fun w'=>Md (fun k=>G.v12.ownBlock=some k) ax w') fD:=cW.trans' b9.md fun _ _ h=>h.elim
 refine ⟨cX,?_⟩
 refine gL 17 aa ag<|ap ze (U.dB) aa ab aa (aI.dS dJ) (aa) (aa) (by simp only [bI]; omega) (by simp only [bI]; omega) fun v131 ds dc aG gp f9=> ?_
 have ei:=(cK.trans<|Wk.mw a8).trans<|Mw.of aG (TF.own U.dB az) fun k hk=>(dI U.dB hk).1
 have eA:=dx.own cP U.dB aG az
 have bu:=aG.aJ U.cells<|dw U.dB U.cells az
 have ci:=aG.aJ c6<|dw U.dB c6 az
 have eG:=eF.md aG<|hU U.dB az
 have e1:bo ds B 77 7 v131 ((F.rules++xs)++ [q]).length (iQ<|((F.rules++xs)++ [q]).zip<|G.rn++ [.slice a2 q.next.length a3]):=by
  have fB:(F.rules++xs).length=G.rn.length:=by have :=U.nx.1; rw [fE] at this; exact this.symm
  rw [List.zip_append fB,show iQ ((F.rules++xs).zip G.rn++ [q].zip [.slice a2 q.next.length a3])=iQ ((F.rules++xs).zip G.rn)++fk (q,.slice a2 q.next.length a3) from by simp [iQ],bI]
  exact dc
 have bN:(fun w'=>Md (fun k=>G.v12.ownBlock=some k) ax w') ds:=cX.trans' aG fun _ _ h=>h
 refine ⟨bN,?_⟩
 refine dz 18 aa ag (fun _=>nc aa) (fun _=>bN)<|dz 19 aa ag (fun _=>fa gC aa) (fun _=>bN)<|dz 20 aa ag (fun _=>fa nP aa) (fun _=>bN)<|dG 21 aa ag ag<|cV Hc aa aa (v:=v131) (eH dc) bu (by show _ < 14; omega) fun aX aj b6=> ?_
 have dX:=dP.xy (x:=q) (vx:= .slice a2 q.next.length a3) U eO aG e1 aj b6
 have aL:=dx.oF eA bu aj
 have c9:=aj.aJ ci fun h=>by rw [h,bu] at ci; cases ci
 have eI:=eG.md aj<|fg bu az
 have ek:=ei.trans<|Mw.of aj (TF.eq (dt bu) az) fun k hk=>hk ▸ U.lo.1
 refine eL ag<|tn<|d1 _ _ ?_
 have an:(fun w'=>Md (fun k=>aA.vn.ownBlock=some k) aX w') aX.drew:=(Md.refl _ _).drew
 refine eM (fun w'=>Md (fun k=>aA.vn.ownBlock=some k) aX w') 13 aa wide an<|dz 0 aa ag (fun _=>aT (.pointer<|some ⟨H.rb,0,none⟩) aa) (fun _=>an)<|dz 1 aa ag (fun _=>aT (.pointer<|some ⟨H.rb,0,none⟩) aa) (fun _=>an)<|dz 2 aa ag (fun _=>nc aa) (fun _=>an)<|dz 3 aa ag (fun _=>fa B6 aa) (fun _=>an)<|kD 4 aa ag (fun w' a=>ld pC aa<|Md.aO a ((a6 aL.cells).trans aa)<|dw aL.on aL.cells az) an<|dz 5 aa ag (fun _=>aT (.pointer<|some ⟨H.rb,0,none⟩) aa) (fun _=>an)<|dz 6 aa ag (fun _=>nc aa) (fun _=>an)<|dz 7 aa ag (fun _=>fa vd aa) (fun _=>an)<|kD 8 aa ag (fun w' a=>ld bA aa<|Md.aO a ((a6 aL.cells).trans aa)<|dw aL.on aL.cells az) an<|gL 9 aa ag<|fR np aa aa fun fX du f5 ep dL=> ?_
 have aD:=ib ep.md
 have Y:=aL.wk aD
 have cF:=dX.wk aD
 have gm:=(dm.1 Y.cells).1
 have cY:(fun w'=>Md (fun k=>aA.vn.ownBlock=some k) aX w') du:=Md.mono aD fun _ _ h=>h.elim
 refine ⟨cY,?_⟩
 refine gL 10 aa ag<|ap np (Y.on) aa ab aa (aI.dS dL) (aa) (aa) (by simp only [bI]; omega) (by simp only [bI]; omega) fun v145 bZ de aH gq gb=> ?_
 have em:=(ek.trans<|Wk.mw aD).trans<|Mw.of aH (TF.own Y.on az) fun k hk=>(dI Y.on hk).1
 have c2:TF du [5] (fun k=>aA.vn.ownBlock=some k):=TF.own Y.on az
 have cG:=cF.md aH c2 az fun h=>by obtain ⟨f,cn,_⟩:=cF.cm; exact c2.no (ez cn) az h
 have bv:=aH.aJ Y.cells<|dw Y.on Y.cells az
 have cj:=aH.aJ (Wk.aJ aD c9)<|dw Y.on (Wk.aJ aD c9) az
 have eN:=(eI.wk aD).md aH<|hU Y.on az
 have e2:bo bZ B 3 1 v145 ((F.rules++xs)++ [q]).length (((F.rules++xs)++ [q]).map fun r=>jh .i64 (r.line:Nat)):=by
  rw [ig,bI]
  show bo bZ B 3 1 v145 _ (_++ [jh .i64 (q.line:Nat)])
  rw [e6]
  exact de
 have cc:(fun w'=>Md (fun k=>aA.vn.ownBlock=some k) aX w') bZ:=cY.trans' aH fun _ _ h=>h
 refine ⟨cc,?_⟩
 refine dz 11 aa ag (fun _=>nc aa) (fun _=>cc)<|dz 12 aa ag (fun _=>fa B6 aa) (fun _=>cc)<|dG 13 aa ag ag<|cV Bp aa aa (v:=v145) (eH de) bv (by show _ < 7; omega) fun bY bd dH=> ?_
 have c1:TF bZ [197] (fun k=>k=H.rb):=TF.eq (dt bv) az
 have dY:=cG.md bd c1 az fun h=>by obtain ⟨f,cn,_⟩:=cG.cm; exact c1.no (ez cn) az h
 exact eL ag<|bn<|tn<|dZ _ _<|rg aa<|p (ad aa aa<|bT ab)<|p mv<|nl<|tn<|⟨_,ab,i+1,xs++ [q],rest,bW,{G with v12:=v131,rn:=G.rn++ [.slice a2 q.next.length a3]},{aA with vn:=v145},ab,(by rw [show n - (i+1)=n - i - 1 by omega]; exact aS.step ab dl cq),(by rw [bI,fz]; rfl),(by rw [← dC]; exact dY),(by rw [← dC]; exact dx.We (q:=q) Y aH e2 bd dH aa fun _=>rfl),(⟨by simp only [bI,eW]; omega,a4.sl,a4.row,a4.kd,a4.al⟩),(em.trans<|Mw.of bd (TF.eq (dt bv) az) fun k hk=>hk ▸ Y.lo.1),(bd.aJ cj fun h=>by rw [h,bv] at cj; cases cj),(eN.md bd<|fg bv az),aa,aa,aa,aa,aa,aa⟩
 refine ext<|te _<|te _<|be<|jM<|f0 aa ?_
 rw [show n - i=0 by omega] at aS
 exact ⟨aa,_,rows',bV,Q2 ac aV aU bC aS.done,⟨G,R',cD,au,a5⟩,cH⟩
end Go.Hb.nA
end
section
set_option maxRecDepth 20000
set_option maxHeartbeats 1000000
namespace Go.Hb.jF
open Go.Hb.dT
open Go.Proofs
open Go.Hb.fq Go.Hb.fQ Go.Hb.mi Go.Hb.gn Go.Hb.lQ Go.Hb.nA Go.Hb.oy Go.Hb.kn Go.Hb.qf Go.Hb.iM Go.Hb.ot Go.Hb.po Go.Hb.j5 Go.Hb.ji
def sZ:c7:=⟨0,0,false,0,0⟩
theorem Th {x:Nat} :∀ {cs:List c7} {i:Nat},cs.findIdx? (fun c=>decide (c.flag=x))=some i→∃ c,cs[i]? =some c∧dU cs x=some c:=by
 intro cs
 induction cs with
 | nil=>intro i h; simp at h
 | cons a l C=>
   intro i h
   rw [List.findIdx?_cons] at h
   unfold dU
   rw [Nu]
   by_cases q:a.flag=x
   · simp only [q,decide_true,if_true] at h ⊢
     cases h
     exact ⟨a,aa,aa⟩
   · simp only [q,decide_false] at h ⊢
     simp only [Bool.false_eq_true,if_false,Option.map_eq_some_iff] at h
     obtain ⟨j,A,rfl⟩:=h
     obtain ⟨c,h1,h2⟩:=C A
     exact ⟨c,by simpa using h1,h2⟩
theorem Km {F:aR} {x:Nat} (h:x=F.sp.getD 0 0):mE F x=true :=by unfold mE; rw [decide_eq_true h]; rfl
theorem Kn {F:aR} {x:Nat} (h:(dU F.bp x).isSome=true) (hk:((dU F.bp x).getD sZ).kind=2):mE F x=true :=by
 unfold mE
 obtain ⟨c,a⟩:=o8.1 h
 rw [a] at hk ⊢
 simp only [z8] at hk
 simp [hk]
theorem yT {F:aR} {x:Nat} (a:x≠F.sp.getD 0 0) (h:(dU F.bp x).isSome=true) (hk:((dU F.bp x).getD sZ).kind≠2):mE F x=false :=by
 unfold mE
 obtain ⟨c,i⟩:=o8.1 h
 rw [i] at hk ⊢
 simp only [z8] at hk
 rw [decide_eq_false a]
 simp [hk]
theorem yU {F:aR} {x:Nat} (a:x≠F.sp.getD 0 0) (h:(dU F.bp x).isSome=false):mE F x=false :=by
 unfold mE
 rw [decide_eq_false a]
 cases hc:dU F.bp x with
 | none=>rfl
 | some c=>rw [hc] at h; cases h
theorem qo {F:aR} {q:c8} {j:Nat} (a:j < q.next.length) (h:mE F (q.next.getD j 0)=false):nH F q=true :=by
 unfold nH
 rw [List.any_eq_true]
 exact ⟨_,dQ a,by rw [h]; rfl⟩
theorem Fy {F:aR} {q:c8} (h:∀ j,j < q.next.length→mE F (q.next.getD j 0)=true):nH F q=false :=by
 unfold nH
 rw [List.any_eq_false]
 intro x i
 obtain ⟨j,a,rfl⟩:=nU 0 i
 rw [h j a]; simp
theorem qA {p:c8→Bool} {q:c8} :∀ {l:List c8} {i:Nat},(∀ j A,j < i→l[j]? =some A→p A=false)→l[i]? =some q→p q=true→l.find? p=some q:=by
 intro l
 induction l with
 | nil=>intro i _ h; simp at h
 | cons a l G=>
   intro i C hi hp
   rw [Nu]
   cases i with
   | zero=>simp only [uj,Option.some.injEq] at hi; subst hi; rw [hp]
   | succ i=>
     rw [C 0 a ab rfl]
     exact G (i:=i) (fun j A I E=>C (j+1) A ab<|by simpa using E) (by simpa using hi) hp
theorem HQ {p:c8→Bool} {l:List c8} (h:∀ j i,j < l.length→l[j]? =some i→p i=false):l.find? p=none:=by
 rw [EB]
 intro q A
 obtain ⟨j,a⟩:=wT A
 rw [h j q (fJ.1 a).1 a]; simp
theorem Tj {x:Nat} {cs:List c7} (h:cs.findIdx? (fun c=>decide (c.flag=x))=none):dU cs x=none:=by
 rw [Nv] at h
 unfold dU
 rw [EB]
 intro c a
 simpa using h c a
theorem BE (B fb mc:Nat) (F:aR) (V:eX) (x:Nat) (w:World) (q:dP w B fb mc F V) (aK:F.bp.length≤70000):
 bh ay 137 (ba [aQ fb,bc x]) w (fun v w'=>v= .tuple #[.agg (nK<|(dU F.bp x).getD sZ).toArray,.bool (dU F.bp x).isSome]∧Wk w w'):=by
 obtain ⟨ah,kr,O⟩:=cw q.ej
 have J:=q.ej
 rw [O] at J
 have ap:Hb.aO w.heap fb 11=some (.slice ah F.bp.length kr):=by rw [← O]; exact (a6 q.cells).trans rfl
 obtain ⟨f,av,ax⟩:=q.cm
 obtain ⟨iv,ob,az,aC,G⟩:∃ (iv:Nat) (ob:Bool),(f<|bc x).getD (.int .i64 0)=au iv∧(f<|bc x).isSome=ob∧((ob=false∧dU F.bp x=none)∨(ob=true∧∃ c,F.bp[iv]? =some c∧dU F.bp x=some c)):=by
  rw [ax x]
  cases hfi:F.bp.findIdx? (fun c=>decide (c.flag=x)) with
  | none=>exact ⟨0,false,rfl,rfl,.inl ⟨rfl,Tj hfi⟩⟩
  | some i=>exact ⟨i,true,rfl,rfl,.inr ⟨rfl,Th hfi⟩⟩
 refine enter func137 aa ntmps137 aa<|aj fun _ U=>e<|al tV fun aG aL aH a E=>aw<|U _ _<|sq fun _ Y=>sq fun _ Z=>rg aa<|ak (aQ fb)<|p (lY vY aa aa)<|aE<|Z _ _<|cf (aa)<|aM<|tn<|Y _ _<|aj fun _ ac=>ak (aQ fb)<|p (nc aa)<|p (fa Ie aa)<|p (ld uB aa<|Wk.aO a.md<|(a6 q.cells).trans aa)<|ak (bc x)<|p (JD r7 oV rN (av.wk a.md) aa aa (⟨_,aa⟩) (az)<|aC)<|p mv<|p (xt aa aa)<|p (xt aa aa)<|p aB<|aw<|ac _ _<|sq fun _ ae=>aj fun _ ag=>p mv<|p (no aa)<|aE<|ag _ _<|cb aa (fun C=> ?_) fun C=> ?_
 have aD:ob=false :=by simpa using C
 have ar:dU F.bp x=none:=by rcases G with ⟨_,h⟩ | ⟨h,_⟩; exact h; rw [aD] at h; cases h
 exact aj fun _ A=>p (cO (ps:= []) (L:= [.int .u16 0,.int .i64 0,.bool false,.int .i64 0,.int .i64 0]) DE aa<|aa)<|e<|cW rF aa aa aa aa (E) (by simp) fun aN an ai=>aw<|A _ _<|rt<|tr<|eo aa (dK (cs:=nK sZ) aa uC aa fun j aA=>ai.bB j) ea<|⟨by rw [ar]; rfl,a.md.trans' an fun k hk h=>by omega⟩
 have aF:ob=true :=by simpa using C
 obtain ⟨c,I,aq⟩:∃ c,F.bp[iv]? =some c∧dU F.bp x=some c:=by rcases G with ⟨h,_⟩ | ⟨_,h⟩; rw [aF] at h; cases h; exact h
 have aJ:=(fJ.1 I).1
 have M:=aU J a.md
 exact aM<|tn<|ae _ _<|aj fun _ A=>ak (aQ fb)<|p (nc aa)<|p (fa gC aa)<|p (fa tv aa)<|p (ld xv aa<|Wk.aO a.md ap)<|p mv<|p (a7 S7 aa aa ab<|aI.ok ((aX M).2) fun h=>by have :=congrArg jy h; rw [show (m7 F.bp).length=F.bp.length*5 from oH (f:=nK) (m:=5) (fun _=>rfl) _] at this; simp at this; omega)<|p (cT uC aa (aa)<|e9 (f:=nK) (m:=5) (fun _=>rfl) (aX M).2 I)<|e<|cW rF aa aa aa aa (E) (by simp) fun aP ao am=>aw<|A _ _<|rt<|eo aa (dK (cs:=nK c) aa uC aa fun j aA=>am.bB j) ea<|⟨by rw [aq]; rfl,a.md.trans' ao fun k hk h=>by omega⟩
theorem QV (B:Nat) (H:dp) (F:aR) (rows:List Rw) (ln:Nat) (seen:List Tx) (w:World) (bB:St w B H F rows ln seen) (bL:∀ q∈F.rules,q.next.length≤64):
 fw ay 86 (ba [.pointer (some ⟨H.rb,0,none⟩)]) w (fun v w'=>v= .tuple #[]∧F.rules.find? (nH F)=none∧(∃ V R' ar,dP w' B H.fb H.mc F V∧dx w' B H F R' rows ar seen)∧fu B H w w') (fun c w'=> ∃ q,F.rules.find? (nH F)=some q∧c=jk 47 q.line 118∧fu B H w w'):=by
 obtain ⟨V,R,M,ao,a2⟩:=bB
 obtain ⟨a12,ks,aL⟩:=cw M.dB
 have bM:=M.dB
 rw [aL] at bM
 have bE:Hb.aO w.heap H.fb 12=some (.slice a12 F.rules.length ks):=by rw [← aL]; exact (a6 M.cells).trans rfl
 obtain ⟨vr,vs,vn⟩:=R
 obtain ⟨ak,cv,b4⟩:=cw ao.on
 obtain rfl :vn= .slice ak F.rules.length cv:=b4
 have cq:=a2.len
 have cr:=ao.lo
 refine j8 func86 aa ntmps86 aa<|sq fun b8 bf=>rg aa<|p (aT (.pointer<|some ⟨H.rb,0,none⟩) aa)<|p (nc aa)<|p (fa gY aa)<|p (ld fZ aa<|(a6 ao.cells).trans aa)<|p (nc aa)<|p (fa gC aa)<|p (fa nP aa)<|p (ld lU aa<|bE)<|p (bF vX aa aa)<|p mv<|nl<|tn<|bf _ _<|aJ<|lp (fun Z aj ai=> ∃ (i ar:Nat),(i≤F.rules.length)∧(∀ j q,j < i→F.rules[j]? =some q→nH F q=false)∧(dP ai B H.fb H.mc F V)∧(dx ai B H F ⟨vr,vs,.slice ak F.rules.length cv⟩ rows ar seen)∧(fu B H w ai)∧(aj 0= .pointer (some ⟨H.rb,0,none⟩))∧(aj 15= .slice a12 F.rules.length ks)∧(aj 16= .int .i64 (F.rules.length:Nat))∧(aj 17= .int .i64 (i:Nat))∧(F.rules.length - i=Z)) _ ⟨0,ln,ab,(fun j q aV=>by omega),M,ao,(Md.refl _ _),aa,aa,aa,aa,aa⟩ ?_
 rintro Z aj ai ⟨i,ar,hi,I,an,aD,aP,bQ,bR,bS,bU,rfl⟩
 refine fx 0 bQ<|fx 15 bR<|fx 16 bS<|fx 17 bU<|sq fun cc bi=>rg aa<|p (lt aa aa)<|nl<|tn<|bi _ _<|sq fun ce bj=>cd aa (fun bG=> ?_) fun bG=> ?_
 refine aM<|tn<|bj _ _<|sq fun cf bk=>aJ<|sq fun cg bl=> ?_
 have aG:=an.dB
 rw [aL] at aG
 have aU:i < F.rules.length:=ab
 obtain ⟨vn,b3,aF⟩:=ek.get an.nx (i:=i)<|by rw [fE]; exact aU
 obtain ⟨q,A⟩:∃ q,F.rules[i]? =some q:=⟨_,cz aU⟩
 have bO:(F.rules.map (·.next)).getD i []=q.next:=by rw [cQ,ic,A]; rfl
 rw [bO] at aF
 have ct:=bL q<|iJ A
 obtain ⟨av,aw,rfl⟩:=aF.slice
 have aW:(F.rules.zip V.rn)[i]? =some (q,.slice av q.next.length aw):=by rw [jx]; exact ⟨A,b3⟩
 have aY:(iQ<|F.rules.zip V.rn).length=(F.rules.zip V.rn).length*7:=oH (f:=fk) (m:=7) (fun _=>rfl) _
 have bK:(F.rules.map fun r=>jh .i64 (r.line:Nat))[i]? =some (.int .i64 (q.line:Nat)):=by rw [ic,A]; rfl
 refine rg aa<|p (aT (.int .i64 (i:Nat)) aa)<|p (a7 na aa aa ab<|aI.ok ((aX aG).2) (fun h=>by rw [h] at aY; have h2:0=(F.rules.zip V.rn).length*7:=aY; have h3:=(fJ.1 aW).1; omega)) ?_
 refine p (cT m3 aa (aa)<|e9 (f:=fk) (m:=7) (fun _=>rfl) (aX aG).2 aW)<|e<|al se fun cm cA co aS a4=> ?_
 skip
 refine p (cH (.int .i64 (i:Nat)) aa)<|e<|cW pG aa aa aa aa (a4) (by simp) fun b7 bs a3=> ?_
 have am:Wk ai b7:=aS.md.trans' bs fun k hk h=>by omega
 have bb:=an.wk am
 have C:=aD.wk am
 have cu:=aS.size
 have cs:=(dm.1 aD.cells).1
 refine nl<|tn<|bl _ _<|sq fun ch bo=>rg aa<|p (aT (.pointer<|some ⟨H.rb,0,none⟩) aa)<|p (aT (.pointer<|some ⟨H.rb,0,none⟩) aa)<|p (nc aa)<|p (fa B6 aa)<|p (ld pC aa<|(a6 C.cells).trans aa)<|p (aT (.int .i64 (i:Nat)) aa)<|p (a7 j9 aa aa ab<|aI.ok ((aX C.on).2)<|by simp; intro h; rw [h] at A; simp at A)<|p (ld bA aa<|aI.gG (aX C.on).2 bK)<|p (nc aa)<|p (fa vd aa)<|e<|cV gX aa aa (v:= .int .i64 (q.line:Nat)) aa C.cells (by show _ < 7; decide) fun cD ae a9=> ?_
 have bz:=C.dD (R':=⟨vr,vs,.slice ak F.rules.length cv⟩) (ln':=q.line) ae a9 rfl C.rws C.rt
 have bd:=bb.rb C ae
 have bD:=ae.B a3 fun h=>by omega
 have bC:=(aF.wk am).md ae<|fg C.cells az
 have bu:=(aP.trans<|Wk.mw am).trans<|fu.rb C ae
 refine nl<|tn<|bo _ _<|sq fun ci bp=>rg aa<|p (fa qC aa)<|p (ld mZ aa<|(bD.aO 6).trans aa)<|p (bF oQ aa aa)<|p mv<|nl<|tn<|bp _ _<|aJ<|lp (fun Z J Y=> ∃ (j:Nat),(j≤q.next.length)∧(∀ ah,ah < j→mE F (q.next.getD ah 0)=true)∧(dP Y B H.fb H.mc F V)∧(dx Y B H F ⟨vr,vs,.slice ak F.rules.length cv⟩ rows q.line seen)∧(fu B H w Y)∧(Tg Y B 51 q.next.length (.slice av q.next.length aw)<|q.next.map bc)∧(J 0= .pointer (some ⟨H.rb,0,none⟩))∧(J 15= .slice a12 F.rules.length ks)∧(J 16= .int .i64 (F.rules.length:Nat))∧(J 17= .int .i64 (i:Nat))∧(J 33= .slice av q.next.length aw)∧(J 34= .int .i64 (q.next.length:Nat))∧(J 35= .int .i64 (j:Nat))∧(q.next.length - j=Z)) _ ⟨0,ab,(fun ah bJ=>by omega),bd,bz,bu,bC,aa,aa,aa,aa,aa,aa,aa,aa⟩ ?_
 rintro Z J Y ⟨j,aV,aH,aA,aE,aQ,ap,bW,bX,bY,bZ,b0,b1,b2,rfl⟩
 refine fx 0 bW<|fx 15 bX<|fx 16 bY<|fx 17 bZ<|fx 33 b0<|fx 34 b1<|fx 35 b2<|sq fun cj bq=>rg aa<|p (lt aa aa)<|nl<|tn<|bq _ _<|sq fun ck br=>cd aa (fun bI=> ?_) fun bI=> ?_
 refine aM<|tn<|br _ _<|sq fun b9 aC=>aJ<|sq fun ca bg=> ?_
 have b5:(q.next.map bc)[j]? =some (bc<|q.next.getD j 0):=by rw [ic,cQ,cz (by omega :j < q.next.length)]; rfl
 refine rg aa<|p (a7 bV aa aa ab<|aI.ok (ap.cI.2)<|bP ab)<|p (ld cU aa<|aI.gG ap.cI.2 b5)<|p aB<|nl<|tn<|bg _ _<|sq fun cb bh=>rg aa<|p (aT (.pointer<|some ⟨H.rb,0,none⟩) aa)<|p (nc aa)<|p (fa gY aa)<|p (ld fZ aa<|(a6 aE.cells).trans aa)<|p mv<|e<|cl AG (BE B H.fb H.mc F V (q.next.getD j 0) _ aA ab) aa fun cy cB bx=> ?_
 obtain ⟨rfl,aN⟩:=bx
 have cx:=aN.size
 refine p mv<|p (xt aa aa)<|p (xt aa aa)<|e<|al tV fun cn cC cp bv a5=>e<|cW rF aa aa aa aa (a5) (by simp) fun au bt a8=> ?_
 have ac:Wk Y au:=(aN.trans bv.md).trans' bt fun k hk h=>by omega
 have ax:=aA.wk ac
 have U:=aE.wk ac
 have E:=aQ.trans<|Wk.mw ac
 refine p aB<|nl<|tn<|bh _ _<|rg aa<|p (aT (.pointer<|some ⟨H.rb,0,none⟩) aa)<|p mv<|p (aT (.pointer<|some ⟨H.rb,0,none⟩) aa)<|p (nc aa)<|p (fa gY aa)<|p (ld fZ aa<|(a6 U.cells).trans aa)<|p (nc aa)<|p (fa gC aa)<|p (fa yt aa)<|p (ka uG aa aa ab)<|p (ld cU aa<|(a6 ax.cells).trans aa)<|p (bH aa aa)<|p mv<|gs (t:=60) aa (fun O=> ?_) fun O=> ?_
 refine sk aa aa aa aa<|sk aa aa aa aa<|dV aa aa aa<|dV aa aa aa<|dV aa aa aa<|sk aa aa aa aa<|p (bw aa) ?_
 refine eP aa (dN il (iz H.rb q.line _ 118 au U.dj az) aa fun aZ a0 ag=> ?_) (fun c w' a a1 M=>by
  first
   | exact absurd a.2.1 az
   | exact ⟨q,qA I A (qo (j:=j) ab<|yT (fun h=>O<|by rw [h]) G<|by have :=of_decide_eq_false a.2.1; omega),a.1,by rw [a.2.2]; exact E⟩
   | exact ⟨q,qA I A (qo (j:=j) ab<|yU (fun h=>O<|by rw [h])<|by simpa using G),a.1,by rw [a.2.2]; exact E⟩)
 obtain ⟨rfl,aq,rfl⟩:=ag
 exact nl<|bn<|tn<|aC _ _<|rg aa<|p (ad aa aa<|bT ab)<|p mv<|nl<|tn<|⟨_,ab,j+1,ab,(fun k hk=>by rcases e8 k j with h | h <;> first | exact aH k h | (rw [show k=j by omega]; exact Km ab)),ax,U,E,(ap.wk ac),aa,aa,aa,aa,aa,aa,aa,aa⟩
 refine pg aa aa aa mv<|pg aa aa aa mv<|gb (t:=62) aa (fun G=> ?_) fun G=> ?_
 refine pg aa aa aa (fa uZ aa)<|pg aa aa aa (ld bA aa<|(a8.aO 1).trans aa)<|pg aa aa aa (bH aa aa)<|pg aa aa aa (bw aa)<|p (bm aa) ?_
 refine eP aa (dN il (iz H.rb q.line _ 118 au U.dj az) aa fun aZ a0 ag=> ?_) (fun c w' a a1 M=>by
  first
   | exact absurd a.2.1 az
   | exact ⟨q,qA I A (qo (j:=j) ab<|yT (fun h=>O<|by rw [h]) G<|by have :=of_decide_eq_false a.2.1; omega),a.1,by rw [a.2.2]; exact E⟩
   | exact ⟨q,qA I A (qo (j:=j) ab<|yU (fun h=>O<|by rw [h])<|by simpa using G),a.1,by rw [a.2.2]; exact E⟩)
 obtain ⟨rfl,aq,rfl⟩:=ag
 exact nl<|bn<|tn<|aC _ _<|rg aa<|p (ad aa aa<|bT ab)<|p mv<|nl<|tn<|⟨_,ab,j+1,ab,(fun k hk=>by rcases e8 k j with h | h <;> first | exact aH k h | (rw [show k=j by omega]; exact Kn G<|by have :=of_decide_eq_true aq; omega)),ax,U,E,(ap.wk ac),aa,aa,aa,aa,aa,aa,aa,aa⟩
 refine sk aa aa aa aa<|sk aa aa aa aa<|sk aa aa aa aa<|pg aa aa aa (bm aa)<|p (bm aa) ?_
 refine eP aa (dN il (iz H.rb q.line _ 118 au U.dj az) aa fun aZ a0 ag=> ?_) (fun c w' a a1 M=>by
  first
   | exact absurd a.2.1 az
   | exact ⟨q,qA I A (qo (j:=j) ab<|yT (fun h=>O<|by rw [h]) G<|by have :=of_decide_eq_false a.2.1; omega),a.1,by rw [a.2.2]; exact E⟩
   | exact ⟨q,qA I A (qo (j:=j) ab<|yU (fun h=>O<|by rw [h])<|by simpa using G),a.1,by rw [a.2.2]; exact E⟩)
 obtain ⟨rfl,aq,rfl⟩:=ag
 exact nl<|bn<|tn<|aC _ _<|rg aa<|p (ad aa aa<|bT ab)<|p mv<|nl<|tn<|absurd aq az
 exact ext<|te _<|te _<|be<|bn<|tn<|bk _ _<|rg aa<|p (ad aa aa<|bT ab)<|p mv<|nl<|tn<|⟨_,ab,i+1,q.line,ab,(fun k b6 hk aK=>by rcases e8 k i with h | h <;> first | exact I k b6 h aK | (rw [show k=i by omega,A] at aK; cases aK; exact Fy fun ah bJ=>aH ah ab)),aA,aE,aQ,aa,aa,aa,aa,aa⟩
 refine ext<|te _<|te _<|be<|jM<|f0 aa ?_
 exact ⟨aa,HQ (fun j q aV bN=>I j q ab bN),⟨V,_,_,an,aD⟩,aP⟩
end Go.Hb.jF
end
section
set_option maxRecDepth 20000
set_option maxHeartbeats 1000000
namespace Go.Hb.iK
open Go.Proofs
open Go.Hb.fq Go.Hb.fQ Go.Hb.mi Go.Hb.gn Go.Hb.lQ
def Nx (F:aR):Prop :=(∀ l∈F.aliases,l.length≤64)∧∀ q∈F.rules,q.next.length≤64
theorem Cq {α:Type} {hd:List Tx} {rd:Nat→List Tx→Except Nat α} {eof:Nat} :∀ (n:Nat) (rows:List Rw) (r:List α×List Rw),group hd rd eof n rows= .ok r→∀ x∈r.1,∃ ln row,rd ln row= .ok x:=by
 intro n
 induction n with
 | zero=>intro rows r h; simp only [group,sg] at h; subst h; intro x a; cases a
 | succ n i=>
   intro rows r h
   cases rows with
   | nil=>simp [group] at h
   | cons q rows=>
     obtain ⟨ln,row⟩:=q
     simp only [group] at h
     split at h
     · cases h
     · cases hr:rd ln row with
       | error e=>rw [hr] at h; cases h
       | ok y=>
         rw [hr] at h
         simp only at h
         cases hg:group hd rd eof n rows with
         | error e=>rw [hg] at h; cases h
         | ok j=>
           rw [hg] at h
           simp only [sg] at h
           subst h
           intro x a
           rcases gl.1 a with a | a
           · exact ⟨ln,row,by rw [a]; exact hr⟩
           · exact i rows j hg x a
theorem Ix {kind:Nat} {s:Tx} {l:List Nat} (h:kO kind s= .ok l):l.length≤64:=by
 unfold kO at h
 split at h
 · cases h
 · rename_i a
   cases h
   exact (Iv<|jn.1 a).1
theorem Oo {kind ln:Nat} {row:List Tx} {l:List Nat} (h:kp kind ln row= .ok l):l.length≤64:=by
 unfold kp at h
 split at h
 · cases h
 · exact Ix h
theorem x9 {kind:Nat} {al:List (List Nat)} {s:Tx} {l:List Nat} (a:∀ l∈al,l.length≤64) (h:fN kind al s= .ok l):l.length≤64:=by
 unfold fN at h
 split at h
 · exact Ix h
 · split at h
   · cases h
   · split at h
     · cases h
     · cases h
       rename_i n _ _
       rw [cQ]
       cases hg:al[n - 1]? with
       | none=>simp
       | some x=>exact a x<|iJ hg
theorem XN {kind ln:Nat} {al:List (List Nat)} {c:c7} {row:List Tx} {q:c8} (i:∀ l∈al,l.length≤64) (h:fA kind al c ln row= .ok q):q.next.length≤64:=by
 unfold fA at h
 split at h
 · cases h
 · split at h
   · cases h
   · split at h
     · cases h
     · split at h
       · cases h
       · rename_i nx a
         split at h
         · cases h
         · cases h
           unfold kT at a
           split at a
           · split at a
             · cases a
             · exact x9 i a
           · cases a; simp
theorem yC {eof ln:Nat} {F F':aR} {hs:List Tx} {rows rows':List Rw} {row:List Tx} (h:Nx F) (a:bY eof F hs rows ln row= .ok (F',rows')):Nx F':=by
 unfold bY at a
 split at a
 · unfold kh at a
   split at a
   · cases a
   · cases a; exact h
 · split at a
   · unfold kB at a
     split at a
     · cases a
     · split at a
       · cases a
       · cases a; exact h
   · split at a
     · unfold mK at a
       split at a
       · cases a
       · cases a; exact h
     · split at a
       · unfold mP at a
         split at a
         · cases a
         · cases a; exact h
       · split at a
         · unfold kS at a
           split at a
           · cases a
           · split at a
             · cases a
             · cases a; exact h
         · split at a
           · unfold kg at a
             split at a
             · cases a
             · split at a
               · cases a
               · cases a; exact h
           · split at a
             · unfold jS at a
               split at a
               · cases a
               · split at a
                 · cases a
                 · split at a
                   · cases a
                   · rename_i r A
                     cases a
                     refine ⟨fun l i=> ?_,h.2⟩
                     rcases jz.1 i with i | i
                     · exact h.1 l i
                     · obtain ⟨_,_,h2⟩:=Cq _ _ _ A l i
                       exact Oo h2
             · unfold gH at a
               split at a
               · cases a
               · split at a
                 · cases a
                 · split at a
                   · cases a
                   · split at a
                     · cases a
                     · split at a
                       · cases a
                       · rename_i r A
                         cases a
                         refine ⟨h.1,fun q j=> ?_⟩
                         rcases jz.1 j with j | j
                         · exact h.2 q j
                         · obtain ⟨_,_,h2⟩:=Cq _ _ _ A q j
                           exact XN h.1 h2
theorem UI {eof ln:Nat} {F F':aR} {hs:List Tx} {rows rows':List Rw} {row:List Tx} (i:row.getD 0 []∉dZ) (a:bY eof F hs rows ln row= .ok (F',rows')):F'.sp=F.sp:=by
 unfold bY at a
 rw [if_neg i] at a
 unfold kB mK mP kS kg jS gH at a
 repeat' split at a
 all_goals first
  | (cases a; done)
  | (cases a; rfl)
theorem I9 {eof ln:Nat} {F F':aR} {seen:List Tx} {rows rows':List Rw} {row:List Tx} (h:ko F seen) (i:bY eof F seen rows ln row= .ok (F',rows')):ko F' (seen++ [row.getD 0 []]):=by
 intro k hk q
 rw [jz,List.mem_singleton] at q
 have C:k∉seen:=fun h=>q<|.inl h
 have E:k≠row.getD 0 []:=fun h=>q<|.inr h
 by_cases j:row.getD 0 []∈dZ
 · unfold bY at i
   rw [if_pos j] at i
   unfold kh at i
   split at i
   · cases i
   · cases i
     show (F.sp.set (dZ.idxOf<|row.getD 0 []) _).getD (dZ.idxOf k) 0=0
     rw [cQ,kX,if_neg,← cQ]
     · exact h k hk C
     · intro he
       have A:∀ a∈dZ,dZ.getD (dZ.idxOf a) []=a:=az
       have h1:=A _ j
       have h2:=A _ hk
       rw [he] at h1
       exact E<|h2.symm.trans h1
 · rw [UI j i]; exact h k hk C
end Go.Hb.iK
end
section
set_option maxRecDepth 20000
set_option maxHeartbeats 1000000
namespace Go.Hb.rk
open Go.Hb.dT
open Go.Proofs
open Go.Hb.fq
def iw (s:Tx):Option Value:=if s=di then some (bK #[.int .i64 (4:Nat),.func (.func 135) #[] #[]]) else if s=fz then some (bK #[.int .i64 (4:Nat),.func (.func 135) #[] #[]]) else if s=eE then some (bK #[.int .i64 (2:Nat),.func (.func 134) #[] #[]]) else if s=e5 then some (bK #[.int .i64 (2:Nat),.func (.func 133) #[] #[]]) else if s=kb then some (bK #[.int .i64 (2:Nat),.func (.func 132) #[] #[]]) else if s=lL then some (bK #[.int .i64 (2:Nat),.func (.func 131) #[] #[]]) else if s=la then some (bK #[.int .i64 (2:Nat),.func (.func 131) #[] #[]]) else if s=kQ then some (bK #[.int .i64 (2:Nat),.func (.func 131) #[] #[]]) else if s=kA then some (bK #[.int .i64 (2:Nat),.func (.func 131) #[] #[]]) else if s=ke then some (bK #[.int .i64 (2:Nat),.func (.func 131) #[] #[]]) else if s=iP then some (bK #[.int .i64 (2:Nat),.func (.func 130) #[] #[]]) else if s=iy then some (bK #[.int .i64 (2:Nat),.func (.func 129) #[] #[]]) else if s=gZ then some (bK #[.int .i64 (2:Nat),.func (.func 128) #[] #[]]) else none
def zF:Value→Option Value:=fun _=>none
def zG:Tx→Option Value:=fun _=>none
theorem str_inj {a b:Tx} :str a=str b↔a=b:=⟨fun h=>by unfold str at h; cases h; rfl,fun h=>by rw [h]⟩
theorem mI {f:Value→Option Value} {g:Tx→Option Value} {k:Tx} {v:Value} (h:∀ s,f (str s)=g s) (s:Tx):bS f (str k) v (str s)=if s=k then some v else g s:=by
 by_cases hs:s=k
 · subst hs; rw [vE,if_pos rfl]
 · rw [tE (fun h2=>hs<|str_inj.1 h2),if_neg hs,h s]
theorem UJ (w:World):
 bh ay 83 (ba []) w (fun v w'=> ∃ b,v= .map (some b)∧b=w.heap.size∧(∃ f,dq w'.heap b jl f∧∀ s,f (str s)=iw s)∧Wk w w'):=by
 refine enter func83 aa ntmps83 aa<|aj fun _ Z=>aw<|Z _ _<|aj fun _ ab=>e<|vy fun a i bg aM ac=> ?_
 have aN:dq i.heap a jl zF:=dq.nil ac
 have bi:∀ s:Tx,zF (str s)=zG s:=fun _=>rfl
 have ae:Wk w i:=aM.md
 refine p (cO (ps:= [(0,au 2),(1,.func (.func 128) #[] #[])]) (L:= [au 2,.func (.func 128) #[] #[]]) mM aa<|aa)<|e<|mC l9 jb (aN) aa aa aa (⟨_,aa⟩) fun G aE aT=> ?_
 have a1:dq G.heap a jl (bS zF (str gZ)<|bK #[au 2,.func (.func 128) #[] #[]]):=aT
 have bj:=mI (k:=gZ) (v:=bK #[au 2,.func (.func 128) #[] #[]]) bi
 have ag:Wk w G:=ae.trans' aE fun k hk h=>by omega
 refine p (cO (ps:= [(0,au 2),(1,.func (.func 129) #[] #[])]) (L:= [au 2,.func (.func 129) #[] #[]]) mM aa<|aa)<|e<|mC l9 jb (a1) aa aa aa (⟨_,aa⟩) fun U aJ aY=> ?_
 have a2:dq U.heap a jl (bS (bS zF (str gZ)<|bK #[au 2,.func (.func 128) #[] #[]]) (str iy)<|bK #[au 2,.func (.func 129) #[] #[]]):=aY
 have bo:=mI (k:=iy) (v:=bK #[au 2,.func (.func 129) #[] #[]]) bj
 have am:Wk w U:=ag.trans' aJ fun k hk h=>by omega
 refine p (cO (ps:= [(0,au 2),(1,.func (.func 130) #[] #[])]) (L:= [au 2,.func (.func 130) #[] #[]]) mM aa<|aa)<|e<|mC l9 jb (a2) aa aa aa (⟨_,aa⟩) fun V aK aZ=> ?_
 have a6:dq V.heap a jl (bS (bS (bS zF (str gZ)<|bK #[au 2,.func (.func 128) #[] #[]]) (str iy)<|bK #[au 2,.func (.func 129) #[] #[]]) (str iP)<|bK #[au 2,.func (.func 130) #[] #[]]):=aZ
 have bp:=mI (k:=iP) (v:=bK #[au 2,.func (.func 130) #[] #[]]) bo
 have an:Wk w V:=am.trans' aK fun k hk h=>by omega
 refine p (cO (ps:= [(0,au 2),(1,.func (.func 131) #[] #[])]) (L:= [au 2,.func (.func 131) #[] #[]]) mM aa<|aa)<|e<|mC l9 jb (a6) aa aa aa (⟨_,aa⟩) fun Y aL a0=> ?_
 have a7:dq Y.heap a jl (bS (bS (bS (bS zF (str gZ)<|bK #[au 2,.func (.func 128) #[] #[]]) (str iy)<|bK #[au 2,.func (.func 129) #[] #[]]) (str iP)<|bK #[au 2,.func (.func 130) #[] #[]]) (str ke)<|bK #[au 2,.func (.func 131) #[] #[]]):=a0
 have bq:=mI (k:=ke) (v:=bK #[au 2,.func (.func 131) #[] #[]]) bp
 have ao:Wk w Y:=an.trans' aL fun k hk h=>by omega
 refine p (cO (ps:= [(0,au 2),(1,.func (.func 131) #[] #[])]) (L:= [au 2,.func (.func 131) #[] #[]]) mM aa<|aa)<|e<|mC l9 jb (a7) aa aa aa (⟨_,aa⟩) fun j az aO=> ?_
 have a8:dq j.heap a jl (bS (bS (bS (bS (bS zF (str gZ)<|bK #[au 2,.func (.func 128) #[] #[]]) (str iy)<|bK #[au 2,.func (.func 129) #[] #[]]) (str iP)<|bK #[au 2,.func (.func 130) #[] #[]]) (str ke)<|bK #[au 2,.func (.func 131) #[] #[]]) (str kA)<|bK #[au 2,.func (.func 131) #[] #[]]):=aO
 have br:=mI (k:=kA) (v:=bK #[au 2,.func (.func 131) #[] #[]]) bq
 have ap:Wk w j:=ao.trans' az fun k hk h=>by omega
 refine p (cO (ps:= [(0,au 2),(1,.func (.func 131) #[] #[])]) (L:= [au 2,.func (.func 131) #[] #[]]) mM aa<|aa)<|e<|mC l9 jb (a8) aa aa aa (⟨_,aa⟩) fun q aA aP=> ?_
 have a9:dq q.heap a jl (bS (bS (bS (bS (bS (bS zF (str gZ)<|bK #[au 2,.func (.func 128) #[] #[]]) (str iy)<|bK #[au 2,.func (.func 129) #[] #[]]) (str iP)<|bK #[au 2,.func (.func 130) #[] #[]]) (str ke)<|bK #[au 2,.func (.func 131) #[] #[]]) (str kA)<|bK #[au 2,.func (.func 131) #[] #[]]) (str kQ)<|bK #[au 2,.func (.func 131) #[] #[]]):=aP
 have bs:=mI (k:=kQ) (v:=bK #[au 2,.func (.func 131) #[] #[]]) br
 have aq:Wk w q:=ap.trans' aA fun k hk h=>by omega
 refine p (cO (ps:= [(0,au 2),(1,.func (.func 131) #[] #[])]) (L:= [au 2,.func (.func 131) #[] #[]]) mM aa<|aa)<|e<|mC l9 jb (a9) aa aa aa (⟨_,aa⟩) fun A aB aQ=> ?_
 have bb:dq A.heap a jl (bS (bS (bS (bS (bS (bS (bS zF (str gZ)<|bK #[au 2,.func (.func 128) #[] #[]]) (str iy)<|bK #[au 2,.func (.func 129) #[] #[]]) (str iP)<|bK #[au 2,.func (.func 130) #[] #[]]) (str ke)<|bK #[au 2,.func (.func 131) #[] #[]]) (str kA)<|bK #[au 2,.func (.func 131) #[] #[]]) (str kQ)<|bK #[au 2,.func (.func 131) #[] #[]]) (str la)<|bK #[au 2,.func (.func 131) #[] #[]]):=aQ
 have bt:=mI (k:=la) (v:=bK #[au 2,.func (.func 131) #[] #[]]) bs
 have ar:Wk w A:=aq.trans' aB fun k hk h=>by omega
 refine p (cO (ps:= [(0,au 2),(1,.func (.func 131) #[] #[])]) (L:= [au 2,.func (.func 131) #[] #[]]) mM aa<|aa)<|e<|mC l9 jb (bb) aa aa aa (⟨_,aa⟩) fun C aC aR=> ?_
 have bc:dq C.heap a jl (bS (bS (bS (bS (bS (bS (bS (bS zF (str gZ)<|bK #[au 2,.func (.func 128) #[] #[]]) (str iy)<|bK #[au 2,.func (.func 129) #[] #[]]) (str iP)<|bK #[au 2,.func (.func 130) #[] #[]]) (str ke)<|bK #[au 2,.func (.func 131) #[] #[]]) (str kA)<|bK #[au 2,.func (.func 131) #[] #[]]) (str kQ)<|bK #[au 2,.func (.func 131) #[] #[]]) (str la)<|bK #[au 2,.func (.func 131) #[] #[]]) (str lL)<|bK #[au 2,.func (.func 131) #[] #[]]):=aR
 have bu:=mI (k:=lL) (v:=bK #[au 2,.func (.func 131) #[] #[]]) bt
 have av:Wk w C:=ar.trans' aC fun k hk h=>by omega
 refine p (cO (ps:= [(0,au 2),(1,.func (.func 132) #[] #[])]) (L:= [au 2,.func (.func 132) #[] #[]]) mM aa<|aa)<|e<|mC l9 jb (bc) aa aa aa (⟨_,aa⟩) fun E aD aS=> ?_
 have bd:dq E.heap a jl (bS (bS (bS (bS (bS (bS (bS (bS (bS zF (str gZ)<|bK #[au 2,.func (.func 128) #[] #[]]) (str iy)<|bK #[au 2,.func (.func 129) #[] #[]]) (str iP)<|bK #[au 2,.func (.func 130) #[] #[]]) (str ke)<|bK #[au 2,.func (.func 131) #[] #[]]) (str kA)<|bK #[au 2,.func (.func 131) #[] #[]]) (str kQ)<|bK #[au 2,.func (.func 131) #[] #[]]) (str la)<|bK #[au 2,.func (.func 131) #[] #[]]) (str lL)<|bK #[au 2,.func (.func 131) #[] #[]]) (str kb)<|bK #[au 2,.func (.func 132) #[] #[]]):=aS
 have bv:=mI (k:=kb) (v:=bK #[au 2,.func (.func 132) #[] #[]]) bu
 have ax:Wk w E:=av.trans' aD fun k hk h=>by omega
 refine p (cO (ps:= [(0,au 2),(1,.func (.func 133) #[] #[])]) (L:= [au 2,.func (.func 133) #[] #[]]) mM aa<|aa)<|e<|mC l9 jb (bd) aa aa aa (⟨_,aa⟩) fun I aF aU=> ?_
 have bf:dq I.heap a jl (bS (bS (bS (bS (bS (bS (bS (bS (bS (bS zF (str gZ)<|bK #[au 2,.func (.func 128) #[] #[]]) (str iy)<|bK #[au 2,.func (.func 129) #[] #[]]) (str iP)<|bK #[au 2,.func (.func 130) #[] #[]]) (str ke)<|bK #[au 2,.func (.func 131) #[] #[]]) (str kA)<|bK #[au 2,.func (.func 131) #[] #[]]) (str kQ)<|bK #[au 2,.func (.func 131) #[] #[]]) (str la)<|bK #[au 2,.func (.func 131) #[] #[]]) (str lL)<|bK #[au 2,.func (.func 131) #[] #[]]) (str kb)<|bK #[au 2,.func (.func 132) #[] #[]]) (str e5)<|bK #[au 2,.func (.func 133) #[] #[]]):=aU
 have bk:=mI (k:=e5) (v:=bK #[au 2,.func (.func 133) #[] #[]]) bv
 have ah:Wk w I:=ax.trans' aF fun k hk h=>by omega
 refine p (cO (ps:= [(0,au 2),(1,.func (.func 134) #[] #[])]) (L:= [au 2,.func (.func 134) #[] #[]]) mM aa<|aa)<|e<|mC l9 jb (bf) aa aa aa (⟨_,aa⟩) fun J aG aV=> ?_
 have a3:dq J.heap a jl (bS (bS (bS (bS (bS (bS (bS (bS (bS (bS (bS zF (str gZ)<|bK #[au 2,.func (.func 128) #[] #[]]) (str iy)<|bK #[au 2,.func (.func 129) #[] #[]]) (str iP)<|bK #[au 2,.func (.func 130) #[] #[]]) (str ke)<|bK #[au 2,.func (.func 131) #[] #[]]) (str kA)<|bK #[au 2,.func (.func 131) #[] #[]]) (str kQ)<|bK #[au 2,.func (.func 131) #[] #[]]) (str la)<|bK #[au 2,.func (.func 131) #[] #[]]) (str lL)<|bK #[au 2,.func (.func 131) #[] #[]]) (str kb)<|bK #[au 2,.func (.func 132) #[] #[]]) (str e5)<|bK #[au 2,.func (.func 133) #[] #[]]) (str eE)<|bK #[au 2,.func (.func 134) #[] #[]]):=aV
 have bl:=mI (k:=eE) (v:=bK #[au 2,.func (.func 134) #[] #[]]) bk
 have ai:Wk w J:=ah.trans' aG fun k hk h=>by omega
 refine p (cO (ps:= [(0,au 4),(1,.func (.func 135) #[] #[])]) (L:= [au 4,.func (.func 135) #[] #[]]) mM aa<|aa)<|e<|mC l9 jb (a3) aa aa aa (⟨_,aa⟩) fun M aH aW=> ?_
 have a4:dq M.heap a jl (bS (bS (bS (bS (bS (bS (bS (bS (bS (bS (bS (bS zF (str gZ)<|bK #[au 2,.func (.func 128) #[] #[]]) (str iy)<|bK #[au 2,.func (.func 129) #[] #[]]) (str iP)<|bK #[au 2,.func (.func 130) #[] #[]]) (str ke)<|bK #[au 2,.func (.func 131) #[] #[]]) (str kA)<|bK #[au 2,.func (.func 131) #[] #[]]) (str kQ)<|bK #[au 2,.func (.func 131) #[] #[]]) (str la)<|bK #[au 2,.func (.func 131) #[] #[]]) (str lL)<|bK #[au 2,.func (.func 131) #[] #[]]) (str kb)<|bK #[au 2,.func (.func 132) #[] #[]]) (str e5)<|bK #[au 2,.func (.func 133) #[] #[]]) (str eE)<|bK #[au 2,.func (.func 134) #[] #[]]) (str fz)<|bK #[au 4,.func (.func 135) #[] #[]]):=aW
 have bm:=mI (k:=fz) (v:=bK #[au 4,.func (.func 135) #[] #[]]) bl
 have ak:Wk w M:=ai.trans' aH fun k hk h=>by omega
 refine p (cO (ps:= [(0,au 4),(1,.func (.func 135) #[] #[])]) (L:= [au 4,.func (.func 135) #[] #[]]) mM aa<|aa)<|e<|mC l9 jb (a4) aa aa aa (⟨_,aa⟩) fun O aI aX=> ?_
 have a5:dq O.heap a jl (bS (bS (bS (bS (bS (bS (bS (bS (bS (bS (bS (bS (bS zF (str gZ)<|bK #[au 2,.func (.func 128) #[] #[]]) (str iy)<|bK #[au 2,.func (.func 129) #[] #[]]) (str iP)<|bK #[au 2,.func (.func 130) #[] #[]]) (str ke)<|bK #[au 2,.func (.func 131) #[] #[]]) (str kA)<|bK #[au 2,.func (.func 131) #[] #[]]) (str kQ)<|bK #[au 2,.func (.func 131) #[] #[]]) (str la)<|bK #[au 2,.func (.func 131) #[] #[]]) (str lL)<|bK #[au 2,.func (.func 131) #[] #[]]) (str kb)<|bK #[au 2,.func (.func 132) #[] #[]]) (str e5)<|bK #[au 2,.func (.func 133) #[] #[]]) (str eE)<|bK #[au 2,.func (.func 134) #[] #[]]) (str fz)<|bK #[au 4,.func (.func 135) #[] #[]]) (str di)<|bK #[au 4,.func (.func 135) #[] #[]]):=aX
 have bn:=mI (k:=di) (v:=bK #[au 4,.func (.func 135) #[] #[]]) bm
 have al:Wk w O:=ak.trans' aI fun k hk h=>by omega
 exact p mv<|aw<|ab _ _<|rt<|f1 aa aa<|⟨a,aa,bg,⟨_,a5,fun s=>bn s⟩,al⟩
end Go.Hb.rk
end
section
set_option maxRecDepth 20000
set_option maxHeartbeats 1000000
namespace Go.Hb.EM
open Go.Hb.dT
open Go.Proofs
open Go.Hb.fq
theorem W9 (C E:Nat) (w:World):
 CallsD ay 82 (ba [.pointer (some ⟨C,0,none⟩),.pointer (some ⟨E,0,none⟩)]) .returning w (fun en G w'=> ∃ v,en= .returned v∧G= .returning∧(fun w'=>Wk w w') w'):=by
 refine GD (v:= .nilIface) func82 aa ntmps82 aa (fun M cs A=> .inr ⟨by simp [recoverD,A],aa,aa⟩) ?_
 refine p (YI CP ZT aa)<|p mv<|p (xt aa aa)<|p (xt aa aa)<|e<|al p5 fun J V U q a=>e<|cW jT aa aa aa aa (a) (by simp) fun Y j O=>p aB<|nl<|tn<|sq fun I i=>rg aa<|p mv<|nl<|tn<|i _ _<|cf (aa)<|aM<|f0 aa ?_
 exact q.md.trans' j fun k hk h=>by omega
theorem W8 (a i:Nat) (ln:Nat) (er:Int) (w:World) (h2:∃ v:Value,w.heap[a]? =some (.cells [v].toArray 60 (0,0))) (h3:∃ L:List Value,L.length=3∧w.heap[i]? =some (.cells L.toArray 47 (0,0))) (U:a≠i):
 CallsD ay 82 (ba [.pointer (some ⟨a,0,none⟩),.pointer (some ⟨i,0,none⟩)]) (.panicking<|jk 47 ln er) w (fun en ao w'=> ∃ v,en= .returned v∧ao=(.panicking [{v:= .iface 47 (.agg [.int .i64 1,.int .i64 (ln:Nat),.int .i64 er].toArray),recovered:=true}])∧(fun w'=>w'.heap[a]? =some (.cells [.pointer none].toArray 60 (0,0))∧w'.heap[i]? =some (.cells [.int .i64 1,.int .i64 (ln:Nat),.int .i64 er].toArray 47 (0,0))∧Md (fun k=>k=a∨k=i) w w') w'):=by
 obtain ⟨v2,h2⟩:=h2
 obtain ⟨J,ai,h3⟩:=h3
 have ax:=(dm.1 h2).1
 have az:=(dm.1 h3).1
 refine GD (v:= .iface 47<|.agg [.int .i64 1,.int .i64 (ln:Nat),.int .i64 er].toArray) func82 aa ntmps82 aa (fun au cs am=> .inl<|by simp [recoverD,am,jk]) ?_
 refine p (YH CP aa)<|p mv<|p (xt aa aa)<|p (xt aa aa)<|e<|al p5 fun V aA av G Z=>e<|cW jT aa aa aa aa (Z) (by simp) fun q A Y=> ?_
 have ae:bL q.heap V [.int .i64 1,.int .i64 (ln:Nat),.int .i64 er]:=Y
 refine p aB<|nl<|tn<|sq fun ar ah=>rg aa<|p mv<|nl<|tn<|ah _ _<|ct (aa) ?_
 have I:(fun w'=>Md (fun k=>k=a∨k=i) q w') q.drew:=(Md.refl _ _).drew
 refine bJ (fun w'=>Md (fun k=>k=a∨k=i) q w') aa wide I<|hp 0 aa ag (fun w' aj=>cT k5 aa (aa) fun j aw=>bL.bB (Md.B aj ae fun h=>by omega) j) I<|he 1 aa ag<|cV Bo aa aa (v:= .pointer none) aa (A.aJ (Wk.aJ G.md h2) fun h=>by omega) (by show 0 < 1; decide) fun ap C ac=> ?_
 have O:(fun w'=>Md (fun k=>k=a∨k=i) q w') ap:=I.trans' C fun _ _ h=> .inl h
 refine ⟨O,?_⟩
 refine he 2 aa ag<|gi jT aa aa aa aa (C.aJ (A.aJ (Wk.aJ G.md h3) fun h=>by omega) fun h=>U h.symm) (by rw [ai]; decide) fun aq E M=> ?_
 have ak:(fun w'=>Md (fun k=>k=a∨k=i) q w') aq:=O.trans' E fun _ _ h=> .inr h
 refine ⟨ak,?_⟩
 refine hn ag<|f0 aa ?_
 have an:J.take 0 ++ [jh .i64 1,.int .i64 (ln:Nat),.int .i64 er]++J.drop (0 +3)= [jh .i64 1,.int .i64 (ln:Nat),.int .i64 er]:=by rw [gP ab]; rfl
 rw [an] at M
 exact ⟨E.aJ ac U,M,(((G.md.mono fun _ _ h=>h.elim).trans' A fun k hk h=>by omega).trans' (ib C) fun _ _ h=> .inl h).trans' E fun _ _ h=> .inr h⟩
theorem KH (a i:Nat) (w:World):(invoke (.fn (.func 82) #[aQ a,aQ i]) #[]).run ay w= .ok (.enter 82 #[aQ a,aQ i]) w:=by
 have h:=QH #[aQ a,aQ i] w
 simp [invoke,h]
theorem xZ {n:Nat} {D:List Deferred} {G:List Nat} {σ:Nat→Value} {t:Nat} (h:t < n):ev ⟨n,D,G,none⟩ σ (.tmp t)=σ t:=by
 show cond (Nat.blt t n) (σ t) undef=_
 rw [show Nat.blt t n=true from by simpa using h]; rfl
theorem Xc {n:Nat} {G:List Nat} {fn:Func} {R:Value→World→Prop} {σ:Nat→Value} {w:World} {a i ln:Nat} {er:Int} (I:fn.results= #[.cell 2 60,.cell 3 47]) (O:3 < n) (J:σ 2= .pointer (some ⟨a,0,none⟩)) (M:σ 3= .pointer (some ⟨i,0,none⟩)) (h2:∃ v:Value,w.heap[a]? =some (.cells [v].toArray 60 (0,0))) (h3:∃ L:List Value,L.length=3∧w.heap[i]? =some (.cells L.toArray 47 (0,0))) (E:a≠i)
 (q:∀ w',Md (fun k=>k=a∨k=i) w w'→R (.tuple #[.pointer none,.agg [.int .i64 1,.int .i64 (ln:Nat),.int .i64 er].toArray]) w'):qb ⟨n,[{target:= .fn (.func 82) #[.pointer (some ⟨a,0,none⟩),.pointer (some ⟨i,0,none⟩)],args:= #[]}],G,none⟩ (qd ay fn R) (.panic<|jk 47 ln er) σ w:=by
 refine Td (KH a i w) (W8 a i ln er w h2 h3 E) ?_
 rintro w' ⟨A,C,hm⟩
 exact ⟨_,y0 I (nm<|Dp ((xZ ab).trans J) fZ<|(a6 A).trans aa) (nm<|dK (cs:= [.int .i64 1,.int .i64 (ln:Nat),.int .i64 er]) ((xZ ab).trans M) k5 aa fun j _=>by rw [gQ,a6 C]; simp),q w' hm⟩
theorem Xd {n:Nat} {G:List Nat} {fn:Func} {R:Value→World→Prop} {σ:Nat→Value} {w:World} {a i:Nat} {v:Value} {L:List Value} (I:fn.results= #[.cell 2 60,.cell 3 47]) (O:3 < n) (J:σ 2= .pointer (some ⟨a,0,none⟩)) (M:σ 3= .pointer (some ⟨i,0,none⟩)) (h2:w.heap[a]? =some (.cells [v].toArray 60 (0,0))) (h3:w.heap[i]? =some (.cells L.toArray 47 (0,0))) (q:L.length=3)
 (A:∀ w',Wk w w'→R (.tuple #[v,.agg L.toArray]) w'):qb ⟨n,[{target:= .fn (.func 82) #[.pointer (some ⟨a,0,none⟩),.pointer (some ⟨i,0,none⟩)],args:= #[]}],G,none⟩ (qd ay fn R) .ret σ w:=by
 refine Tc (KH a i w) (W9 a i w) ?_
 intro w' hm
 have C:=Wk.aJ hm h2
 have E:=Wk.aJ hm h3
 exact ⟨_,y0 I (nm<|Dp ((xZ ab).trans J) fZ<|(a6 C).trans aa) (nm<|dK (cs:=L) ((xZ ab).trans M) k5 q fun j _=>by rw [gQ,a6 E]; simp),A w' hm⟩
end Go.Hb.EM
end
section
set_option maxRecDepth 20000
set_option maxHeartbeats 1000000
namespace Go.Hb.EN
open Go.Hb.dT
open Go.Proofs
open Go.Hb.fq Go.Hb.fQ Go.Hb.mi Go.Hb.gn Go.Hb.lQ Go.Hb.nA Go.Hb.rk Go.Hb.iK
theorem Ur (B:Nat) (H:dp) (F:aR) (rows:List Rw) (ln:Nat) (seen:List Tx) (r:List Tx) (a:Nat) (ar:Option Addr) (cr:Nat) (w:World) (i:St w B H F rows ln seen) (j:Tg w a 9 r.length (.slice ar r.length cr) (r.map str)) (q:∀ x∈r,x.length≤70000) (hw:r.length=width (r.getD 0 [])) (E:ko F seen) (C:width (r.getD 0 [])=2→r.getD 0 []∉seen) (A:F.dd.length+F.aliases.length+F.bp.length+F.rules.length+rows.length < 70000) (hk:r.getD 0 []=gZ):fw ay 128 (ba [.pointer (some ⟨H.rb,0,none⟩),.slice ar r.length cr]) w (js B H seen (bY H.eof F seen rows ln r) w) (jr B H (bY H.eof F seen rows ln r) w):=by
 have h:=Vs B H F rows ln seen r a ar cr w i j (by rw [hw,hk]; decide) q
 rw [show bY H.eof F seen rows ln r=kB F seen rows ln r from by unfold bY; rw [hk]; rfl]
 exact h
theorem Uz (B:Nat) (H:dp) (F:aR) (rows:List Rw) (ln:Nat) (seen:List Tx) (r:List Tx) (a:Nat) (ar:Option Addr) (cr:Nat) (w:World) (i:St w B H F rows ln seen) (j:Tg w a 9 r.length (.slice ar r.length cr) (r.map str)) (q:∀ x∈r,x.length≤70000) (hw:r.length=width (r.getD 0 [])) (E:ko F seen) (C:width (r.getD 0 [])=2→r.getD 0 []∉seen) (A:F.dd.length+F.aliases.length+F.bp.length+F.rules.length+rows.length < 70000) (hk:r.getD 0 []=iy):fw ay 129 (ba [.pointer (some ⟨H.rb,0,none⟩),.slice ar r.length cr]) w (js B H seen (bY H.eof F seen rows ln r) w) (jr B H (bY H.eof F seen rows ln r) w):=by
 have h:=QS B H F rows ln seen r a ar cr w i j (by rw [hw,hk]; decide) q
 rw [show bY H.eof F seen rows ln r=mK F rows ln r from by unfold bY; rw [hk]; rfl]
 exact h
theorem UB (B:Nat) (H:dp) (F:aR) (rows:List Rw) (ln:Nat) (seen:List Tx) (r:List Tx) (a:Nat) (ar:Option Addr) (cr:Nat) (w:World) (i:St w B H F rows ln seen) (j:Tg w a 9 r.length (.slice ar r.length cr) (r.map str)) (q:∀ x∈r,x.length≤70000) (hw:r.length=width (r.getD 0 [])) (E:ko F seen) (C:width (r.getD 0 [])=2→r.getD 0 []∉seen) (A:F.dd.length+F.aliases.length+F.bp.length+F.rules.length+rows.length < 70000) (hk:r.getD 0 []=iP):fw ay 130 (ba [.pointer (some ⟨H.rb,0,none⟩),.slice ar r.length cr]) w (js B H seen (bY H.eof F seen rows ln r) w) (jr B H (bY H.eof F seen rows ln r) w):=by
 have h:=Y2 B H F rows ln seen r a ar cr w i j (by rw [hw,hk]; decide) q
 rw [show bY H.eof F seen rows ln r=mP F rows ln r from by unfold bY; rw [hk]; rfl]
 exact h
theorem Uv (B:Nat) (H:dp) (F:aR) (rows:List Rw) (ln:Nat) (seen:List Tx) (r:List Tx) (a:Nat) (ar:Option Addr) (cr:Nat) (w:World) (i:St w B H F rows ln seen) (j:Tg w a 9 r.length (.slice ar r.length cr) (r.map str)) (A:∀ x∈r,x.length≤70000) (hw:r.length=width (r.getD 0 [])) (C:ko F seen) (q:width (r.getD 0 [])=2→r.getD 0 []∉seen) (E:F.dd.length+F.aliases.length+F.bp.length+F.rules.length+rows.length < 70000) (hk:r.getD 0 []=ke):fw ay 131 (ba [.pointer (some ⟨H.rb,0,none⟩),.slice ar r.length cr]) w (js B H seen (bY H.eof F seen rows ln r) w) (jr B H (bY H.eof F seen rows ln r) w):=by
 have h:=vS B H F rows ln seen r a ar cr w i j (by rw [hw,hk]; decide) A (by rw [hk]; decide)<|C _ (by rw [hk]; decide)<|q<|by rw [hk]; decide
 rw [show bY H.eof F seen rows ln r=kh F rows ln r from by unfold bY; rw [hk]; rfl]
 exact h
theorem Us (B:Nat) (H:dp) (F:aR) (rows:List Rw) (ln:Nat) (seen:List Tx) (r:List Tx) (a:Nat) (ar:Option Addr) (cr:Nat) (w:World) (i:St w B H F rows ln seen) (j:Tg w a 9 r.length (.slice ar r.length cr) (r.map str)) (A:∀ x∈r,x.length≤70000) (hw:r.length=width (r.getD 0 [])) (C:ko F seen) (q:width (r.getD 0 [])=2→r.getD 0 []∉seen) (E:F.dd.length+F.aliases.length+F.bp.length+F.rules.length+rows.length < 70000) (hk:r.getD 0 []=kA):fw ay 131 (ba [.pointer (some ⟨H.rb,0,none⟩),.slice ar r.length cr]) w (js B H seen (bY H.eof F seen rows ln r) w) (jr B H (bY H.eof F seen rows ln r) w):=by
 have h:=vS B H F rows ln seen r a ar cr w i j (by rw [hw,hk]; decide) A (by rw [hk]; decide)<|C _ (by rw [hk]; decide)<|q<|by rw [hk]; decide
 rw [show bY H.eof F seen rows ln r=kh F rows ln r from by unfold bY; rw [hk]; rfl]
 exact h
theorem Ut (B:Nat) (H:dp) (F:aR) (rows:List Rw) (ln:Nat) (seen:List Tx) (r:List Tx) (a:Nat) (ar:Option Addr) (cr:Nat) (w:World) (i:St w B H F rows ln seen) (j:Tg w a 9 r.length (.slice ar r.length cr) (r.map str)) (A:∀ x∈r,x.length≤70000) (hw:r.length=width (r.getD 0 [])) (C:ko F seen) (q:width (r.getD 0 [])=2→r.getD 0 []∉seen) (E:F.dd.length+F.aliases.length+F.bp.length+F.rules.length+rows.length < 70000) (hk:r.getD 0 []=kQ):fw ay 131 (ba [.pointer (some ⟨H.rb,0,none⟩),.slice ar r.length cr]) w (js B H seen (bY H.eof F seen rows ln r) w) (jr B H (bY H.eof F seen rows ln r) w):=by
 have h:=vS B H F rows ln seen r a ar cr w i j (by rw [hw,hk]; decide) A (by rw [hk]; decide)<|C _ (by rw [hk]; decide)<|q<|by rw [hk]; decide
 rw [show bY H.eof F seen rows ln r=kh F rows ln r from by unfold bY; rw [hk]; rfl]
 exact h
theorem Uq (B:Nat) (H:dp) (F:aR) (rows:List Rw) (ln:Nat) (seen:List Tx) (r:List Tx) (a:Nat) (ar:Option Addr) (cr:Nat) (w:World) (i:St w B H F rows ln seen) (j:Tg w a 9 r.length (.slice ar r.length cr) (r.map str)) (A:∀ x∈r,x.length≤70000) (hw:r.length=width (r.getD 0 [])) (C:ko F seen) (q:width (r.getD 0 [])=2→r.getD 0 []∉seen) (E:F.dd.length+F.aliases.length+F.bp.length+F.rules.length+rows.length < 70000) (hk:r.getD 0 []=la):fw ay 131 (ba [.pointer (some ⟨H.rb,0,none⟩),.slice ar r.length cr]) w (js B H seen (bY H.eof F seen rows ln r) w) (jr B H (bY H.eof F seen rows ln r) w):=by
 have h:=vS B H F rows ln seen r a ar cr w i j (by rw [hw,hk]; decide) A (by rw [hk]; decide)<|C _ (by rw [hk]; decide)<|q<|by rw [hk]; decide
 rw [show bY H.eof F seen rows ln r=kh F rows ln r from by unfold bY; rw [hk]; rfl]
 exact h
theorem Uw (B:Nat) (H:dp) (F:aR) (rows:List Rw) (ln:Nat) (seen:List Tx) (r:List Tx) (a:Nat) (ar:Option Addr) (cr:Nat) (w:World) (i:St w B H F rows ln seen) (j:Tg w a 9 r.length (.slice ar r.length cr) (r.map str)) (A:∀ x∈r,x.length≤70000) (hw:r.length=width (r.getD 0 [])) (C:ko F seen) (q:width (r.getD 0 [])=2→r.getD 0 []∉seen) (E:F.dd.length+F.aliases.length+F.bp.length+F.rules.length+rows.length < 70000) (hk:r.getD 0 []=lL):fw ay 131 (ba [.pointer (some ⟨H.rb,0,none⟩),.slice ar r.length cr]) w (js B H seen (bY H.eof F seen rows ln r) w) (jr B H (bY H.eof F seen rows ln r) w):=by
 have h:=vS B H F rows ln seen r a ar cr w i j (by rw [hw,hk]; decide) A (by rw [hk]; decide)<|C _ (by rw [hk]; decide)<|q<|by rw [hk]; decide
 rw [show bY H.eof F seen rows ln r=kh F rows ln r from by unfold bY; rw [hk]; rfl]
 exact h
theorem Uu (B:Nat) (H:dp) (F:aR) (rows:List Rw) (ln:Nat) (seen:List Tx) (r:List Tx) (a:Nat) (ar:Option Addr) (cr:Nat) (w:World) (i:St w B H F rows ln seen) (j:Tg w a 9 r.length (.slice ar r.length cr) (r.map str)) (q:∀ x∈r,x.length≤70000) (hw:r.length=width (r.getD 0 [])) (E:ko F seen) (C:width (r.getD 0 [])=2→r.getD 0 []∉seen) (A:F.dd.length+F.aliases.length+F.bp.length+F.rules.length+rows.length < 70000) (hk:r.getD 0 []=kb):fw ay 132 (ba [.pointer (some ⟨H.rb,0,none⟩),.slice ar r.length cr]) w (js B H seen (bY H.eof F seen rows ln r) w) (jr B H (bY H.eof F seen rows ln r) w):=by
 have h:=Vw B H F rows ln seen r a ar cr w i j (by rw [hw,hk]; decide) q
 rw [show bY H.eof F seen rows ln r=kS F rows ln r from by unfold bY; rw [hk]; rfl]
 exact h
theorem Uy (B:Nat) (H:dp) (F:aR) (rows:List Rw) (ln:Nat) (seen:List Tx) (r:List Tx) (a:Nat) (ar:Option Addr) (cr:Nat) (w:World) (i:St w B H F rows ln seen) (j:Tg w a 9 r.length (.slice ar r.length cr) (r.map str)) (q:∀ x∈r,x.length≤70000) (hw:r.length=width (r.getD 0 [])) (E:ko F seen) (C:width (r.getD 0 [])=2→r.getD 0 []∉seen) (A:F.dd.length+F.aliases.length+F.bp.length+F.rules.length+rows.length < 70000) (hk:r.getD 0 []=e5):fw ay 133 (ba [.pointer (some ⟨H.rb,0,none⟩),.slice ar r.length cr]) w (js B H seen (bY H.eof F seen rows ln r) w) (jr B H (bY H.eof F seen rows ln r) w):=by
 have h:=Xj B H F rows ln seen r a ar cr w i j (by rw [hw,hk]; decide) q
 rw [show bY H.eof F seen rows ln r=kg H.eof F rows ln r from by unfold bY; rw [hk]; rfl]
 exact h
theorem Up (B:Nat) (H:dp) (F:aR) (rows:List Rw) (ln:Nat) (seen:List Tx) (r:List Tx) (a:Nat) (ar:Option Addr) (cr:Nat) (w:World) (i:St w B H F rows ln seen) (j:Tg w a 9 r.length (.slice ar r.length cr) (r.map str)) (q:∀ x∈r,x.length≤70000) (hw:r.length=width (r.getD 0 [])) (E:ko F seen) (C:width (r.getD 0 [])=2→r.getD 0 []∉seen) (A:F.dd.length+F.aliases.length+F.bp.length+F.rules.length+rows.length < 70000) (hk:r.getD 0 []=eE):fw ay 134 (ba [.pointer (some ⟨H.rb,0,none⟩),.slice ar r.length cr]) w (js B H seen (bY H.eof F seen rows ln r) w) (jr B H (bY H.eof F seen rows ln r) w):=by
 have h:=Ot B H F rows ln seen r a ar cr w i j (by rw [hw,hk]; decide) q
 rw [show bY H.eof F seen rows ln r=jS H.eof F seen rows ln r from by unfold bY; rw [hk]; rfl]
 exact h
theorem Ux (B:Nat) (H:dp) (F:aR) (rows:List Rw) (ln:Nat) (seen:List Tx) (r:List Tx) (a:Nat) (ar:Option Addr) (cr:Nat) (w:World) (i:St w B H F rows ln seen) (j:Tg w a 9 r.length (.slice ar r.length cr) (r.map str)) (A:∀ x∈r,x.length≤70000) (hw:r.length=width (r.getD 0 [])) (E:ko F seen) (C:width (r.getD 0 [])=2→r.getD 0 []∉seen) (q:F.dd.length+F.aliases.length+F.bp.length+F.rules.length+rows.length < 70000) (hk:r.getD 0 []=fz):fw ay 135 (ba [.pointer (some ⟨H.rb,0,none⟩),.slice ar r.length cr]) w (js B H seen (bY H.eof F seen rows ln r) w) (jr B H (bY H.eof F seen rows ln r) w):=by
 have h:=GI B H F rows ln seen r a ar cr w i j (by rw [hw,hk]; decide) A q
 rw [show bY H.eof F seen rows ln r=gH H.eof F rows ln r from by unfold bY; rw [hk]; rfl]
 exact h
theorem UA (B:Nat) (H:dp) (F:aR) (rows:List Rw) (ln:Nat) (seen:List Tx) (r:List Tx) (a:Nat) (ar:Option Addr) (cr:Nat) (w:World) (i:St w B H F rows ln seen) (j:Tg w a 9 r.length (.slice ar r.length cr) (r.map str)) (A:∀ x∈r,x.length≤70000) (hw:r.length=width (r.getD 0 [])) (E:ko F seen) (C:width (r.getD 0 [])=2→r.getD 0 []∉seen) (q:F.dd.length+F.aliases.length+F.bp.length+F.rules.length+rows.length < 70000) (hk:r.getD 0 []=di):fw ay 135 (ba [.pointer (some ⟨H.rb,0,none⟩),.slice ar r.length cr]) w (js B H seen (bY H.eof F seen rows ln r) w) (jr B H (bY H.eof F seen rows ln r) w):=by
 have h:=GI B H F rows ln seen r a ar cr w i j (by rw [hw,hk]; decide) A q
 rw [show bY H.eof F seen rows ln r=gH H.eof F rows ln r from by unfold bY; rw [hk]; rfl]
 exact h
theorem Ja (B:Nat) (H:dp) (F:aR) (rows:List Rw) (ln:Nat) (seen:List Tx) (r:List Tx) (i:Nat) (ar:Option Addr) (cr:Nat) (w:World) (j:St w B H F rows ln seen) (q:Tg w i 9 r.length (.slice ar r.length cr) (r.map str)) (E:∀ x∈r,x.length≤70000) (hw:r.length=width (r.getD 0 [])) (G:ko F seen) (C:width (r.getD 0 [])=2→r.getD 0 []∉seen) (A:F.dd.length+F.aliases.length+F.bp.length+F.rules.length+rows.length < 70000) {v:Value} (a:iw (r.getD 0 [])=some v):∃ f:Nat,v= .agg [.int .i64 (width (r.getD 0 []):Nat),.func (.func f) #[] #[]].toArray∧bg ay f∧fw ay f (ba [.pointer (some ⟨H.rb,0,none⟩),.slice ar r.length cr]) w (js B H seen (bY H.eof F seen rows ln r) w) (jr B H (bY H.eof F seen rows ln r) w):=by
 unfold iw at a
 by_cases hk:r.getD 0 []=di
 · rw [if_pos hk] at a; cases a; exact ⟨_,by rw [hk]; rfl,FQ,UA B H F rows ln seen r i ar cr w j q E hw G C A hk⟩
 · rw [if_neg hk] at a; clear hk
   by_cases hk:r.getD 0 []=fz
   · rw [if_pos hk] at a; cases a; exact ⟨_,by rw [hk]; rfl,FQ,Ux B H F rows ln seen r i ar cr w j q E hw G C A hk⟩
   · rw [if_neg hk] at a; clear hk
     by_cases hk:r.getD 0 []=eE
     · rw [if_pos hk] at a; cases a; exact ⟨_,by rw [hk]; rfl,Pf,Up B H F rows ln seen r i ar cr w j q E hw G C A hk⟩
     · rw [if_neg hk] at a; clear hk
       by_cases hk:r.getD 0 []=e5
       · rw [if_pos hk] at a; cases a; exact ⟨_,by rw [hk]; rfl,Pe,Uy B H F rows ln seen r i ar cr w j q E hw G C A hk⟩
       · rw [if_neg hk] at a; clear hk
         by_cases hk:r.getD 0 []=kb
         · rw [if_pos hk] at a; cases a; exact ⟨_,by rw [hk]; rfl,Pd,Uu B H F rows ln seen r i ar cr w j q E hw G C A hk⟩
         · rw [if_neg hk] at a; clear hk
           by_cases hk:r.getD 0 []=lL
           · rw [if_pos hk] at a; cases a; exact ⟨_,by rw [hk]; rfl,uK,Uw B H F rows ln seen r i ar cr w j q E hw G C A hk⟩
           · rw [if_neg hk] at a; clear hk
             by_cases hk:r.getD 0 []=la
             · rw [if_pos hk] at a; cases a; exact ⟨_,by rw [hk]; rfl,uK,Uq B H F rows ln seen r i ar cr w j q E hw G C A hk⟩
             · rw [if_neg hk] at a; clear hk
               by_cases hk:r.getD 0 []=kQ
               · rw [if_pos hk] at a; cases a; exact ⟨_,by rw [hk]; rfl,uK,Ut B H F rows ln seen r i ar cr w j q E hw G C A hk⟩
               · rw [if_neg hk] at a; clear hk
                 by_cases hk:r.getD 0 []=kA
                 · rw [if_pos hk] at a; cases a; exact ⟨_,by rw [hk]; rfl,uK,Us B H F rows ln seen r i ar cr w j q E hw G C A hk⟩
                 · rw [if_neg hk] at a; clear hk
                   by_cases hk:r.getD 0 []=ke
                   · rw [if_pos hk] at a; cases a; exact ⟨_,by rw [hk]; rfl,uK,Uv B H F rows ln seen r i ar cr w j q E hw G C A hk⟩
                   · rw [if_neg hk] at a; clear hk
                     by_cases hk:r.getD 0 []=iP
                     · rw [if_pos hk] at a; cases a; exact ⟨_,by rw [hk]; rfl,Pc,UB B H F rows ln seen r i ar cr w j q E hw G C A hk⟩
                     · rw [if_neg hk] at a; clear hk
                       by_cases hk:r.getD 0 []=iy
                       · rw [if_pos hk] at a; cases a; exact ⟨_,by rw [hk]; rfl,Pb,Uz B H F rows ln seen r i ar cr w j q E hw G C A hk⟩
                       · rw [if_neg hk] at a; clear hk
                         by_cases hk:r.getD 0 []=gZ
                         · rw [if_pos hk] at a; cases a; exact ⟨_,by rw [hk]; rfl,Pa,Ur B H F rows ln seen r i ar cr w j q E hw G C A hk⟩
                         · rw [if_neg hk] at a; clear hk
                           cases a
theorem I7 {s:Tx} (a:iw s=none):width s=0:=by
 unfold iw at a
 by_cases U:s=di
 · rw [if_pos U] at a; cases a
 · rw [if_neg U] at a
   by_cases J:s=fz
   · rw [if_pos J] at a; cases a
   · rw [if_neg J] at a
     by_cases i:s=eE
     · rw [if_pos i] at a; cases a
     · rw [if_neg i] at a
       by_cases M:s=e5
       · rw [if_pos M] at a; cases a
       · rw [if_neg M] at a
         by_cases E:s=kb
         · rw [if_pos E] at a; cases a
         · rw [if_neg E] at a
           by_cases I:s=lL
           · rw [if_pos I] at a; cases a
           · rw [if_neg I] at a
             by_cases j:s=la
             · rw [if_pos j] at a; cases a
             · rw [if_neg j] at a
               by_cases C:s=kQ
               · rw [if_pos C] at a; cases a
               · rw [if_neg C] at a
                 by_cases A:s=kA
                 · rw [if_pos A] at a; cases a
                 · rw [if_neg A] at a
                   by_cases G:s=ke
                   · rw [if_pos G] at a; cases a
                   · rw [if_neg G] at a
                     by_cases V:s=iP
                     · rw [if_pos V] at a; cases a
                     · rw [if_neg V] at a
                       by_cases O:s=iy
                       · rw [if_pos O] at a; cases a
                       · rw [if_neg O] at a
                         by_cases q:s=gZ
                         · rw [if_pos q] at a; cases a
                         · rw [if_neg q] at a
                           unfold width dZ; simp [q,O,V,G,A,C,j,I,E,M,i,J,U]
theorem Cw (s:Tx):iw s=none∨∃ (wd f:Nat),iw s=some (bK #[.int .i64 (wd:Nat),.func (.func f) #[] #[]])∧width s=wd∧wd≠0:=by
 by_cases a:s=di
 · exact .inr ⟨4,135,by unfold iw; rw [if_pos a],by rw [a]; decide,az⟩
 by_cases i:s=fz
 · exact .inr ⟨4,135,by unfold iw; rw [if_neg a,if_pos i],by rw [i]; decide,az⟩
 by_cases j:s=eE
 · exact .inr ⟨2,134,by unfold iw; rw [if_neg a,if_neg i,if_pos j],by rw [j]; decide,az⟩
 by_cases q:s=e5
 · exact .inr ⟨2,133,by unfold iw; rw [if_neg a,if_neg i,if_neg j,if_pos q],by rw [q]; decide,az⟩
 by_cases A:s=kb
 · exact .inr ⟨2,132,by unfold iw; rw [if_neg a,if_neg i,if_neg j,if_neg q,if_pos A],by rw [A]; decide,az⟩
 by_cases C:s=lL
 · exact .inr ⟨2,131,by unfold iw; rw [if_neg a,if_neg i,if_neg j,if_neg q,if_neg A,if_pos C],by rw [C]; decide,az⟩
 by_cases E:s=la
 · exact .inr ⟨2,131,by unfold iw; rw [if_neg a,if_neg i,if_neg j,if_neg q,if_neg A,if_neg C,if_pos E],by rw [E]; decide,az⟩
 by_cases G:s=kQ
 · exact .inr ⟨2,131,by unfold iw; rw [if_neg a,if_neg i,if_neg j,if_neg q,if_neg A,if_neg C,if_neg E,if_pos G],by rw [G]; decide,az⟩
 by_cases I:s=kA
 · exact .inr ⟨2,131,by unfold iw; rw [if_neg a,if_neg i,if_neg j,if_neg q,if_neg A,if_neg C,if_neg E,if_neg G,if_pos I],by rw [I]; decide,az⟩
 by_cases J:s=ke
 · exact .inr ⟨2,131,by unfold iw; rw [if_neg a,if_neg i,if_neg j,if_neg q,if_neg A,if_neg C,if_neg E,if_neg G,if_neg I,if_pos J],by rw [J]; decide,az⟩
 by_cases M:s=iP
 · exact .inr ⟨2,130,by unfold iw; rw [if_neg a,if_neg i,if_neg j,if_neg q,if_neg A,if_neg C,if_neg E,if_neg G,if_neg I,if_neg J,if_pos M],by rw [M]; decide,az⟩
 by_cases O:s=iy
 · exact .inr ⟨2,129,by unfold iw; rw [if_neg a,if_neg i,if_neg j,if_neg q,if_neg A,if_neg C,if_neg E,if_neg G,if_neg I,if_neg J,if_neg M,if_pos O],by rw [O]; decide,az⟩
 by_cases U:s=gZ
 · exact .inr ⟨2,128,by unfold iw; rw [if_neg a,if_neg i,if_neg j,if_neg q,if_neg A,if_neg C,if_neg E,if_neg G,if_neg I,if_neg J,if_neg M,if_neg O,if_pos U],by rw [U]; decide,az⟩
 refine .inl ?_
 unfold iw
 rw [if_neg a,if_neg i,if_neg j,if_neg q,if_neg A,if_neg C,if_neg E,if_neg G,if_neg I,if_neg J,if_neg M,if_neg O,if_neg U]
end Go.Hb.EN
end
section
set_option maxRecDepth 20000
set_option maxHeartbeats 1000000
namespace Go.Hb.xh
open Go.Hb.dT
open Go.Proofs
open Go.Hb.j5 Go.Hb.ji
theorem TZ {α:Type} {l:List α} {i:Nat} {d:α} (h:i < l.length):l.getD i d∈l:=by
 rw [cQ,cz h]; exact List.getElem_mem h
def jU (n:Nat) (a:List (List UInt8)):List (Nat×List UInt8):=(a.zipIdx n).map fun q=>(q.2,q.1)
theorem Wm (n:Nat) (l:List UInt8) (a:List (List UInt8)):jU n (l::a)=(n,l)::jU (n+1) a:=by simp [jU,List.zipIdx_cons]
theorem Wn (n:Nat):jU n []= []:=rfl
theorem CU (n:Nat) (a:List (List UInt8)):(jU n a).map nz=a:=by
 unfold jU; rw [List.map_map]; exact List.zipIdx_map_fst n a
theorem Kk (n:Nat) (a:List (List UInt8)):(jU n a).length=a.length:=by simp [jU]
def xS (x:Nat×List UInt8):Array Value:= #[.int .i64 x.1,str x.2]
theorem CT {a:List (List UInt8)} {n:Nat} {pre:List (Nat×List UInt8)} {x:Nat×List UInt8} {rest:List (Nat×List UInt8)} (h:jU n a=pre++x::rest):pre.length < a.length∧x.1=n+pre.length∧a=pre.map nz++x.2::rest.map nz:=by
 have h1:=congrArg jy h
 rw [Kk,bI,cM] at h1
 have h2:=congrArg (List.map nz) h
 rw [CU,ig,List.map_cons] at h2
 refine ⟨ab,?_,h2⟩
 have h3:=congrArg (fun l=>l[pre.length]?) h
 simp only [jU,ic,List.getElem?_zipIdx,mT (cj _),Nat.sub_self,uj] at h3
 cases h4:a[pre.length]? with
 | none=>rw [h4] at h3; cases h3
 | some q=>rw [h4] at h3; cases h3; rfl
theorem uR (s:List UInt8) (w:World):
 bh ay 126 (ba [str s]) w (fun v w'=> ∃ b,v= .func (.func 189) #[] #[aQ b]∧w.heap.size≤b∧w'.heap[b]? =some (.cells [str s].toArray 9 (0,0))∧Wk w w'):=by
 exact enter func126 aa ntmps126 aa<|aj fun _ a=>e<|uI aa aa fun j E C A q=>aw<|a _ _<|aj fun _ i=>p JS<|aw<|i _ _<|rt<|f1 aa aa<|⟨j,aa,ab,q,A.md⟩
theorem Bx (s:List UInt8) (b:Nat) (hs:s.length≤65536) (l:Nat) (a:List (Nat×List UInt8)→World→Prop) (w:World) (I:a [] w) (aA:∀ pre W,a pre W→W.heap[b]? =some (.cells [str s].toArray 9 (0,0))) (bJ:∀ pre i E,a pre i→Wk i E→a pre E) (aH:∀ pre x rest i,(jU 1<|bG s)=pre++x::rest→a pre i→YieldAt Fence.wide 0 ay l (xS x) i fun e W'=>e= .returned (.bool true)∧a (pre++ [x]) W'):
 bh ay 189 (ba [.func (.yield l) #[] #[],aQ b]) w (fun v w'=>a (jU 1<|bG s) w'):=by
 have M:=aA _ _ I
 refine enter func189 aa ntmps189 aa<|sq fun _ U=>aj fun _ Y=>p (ld bR aa<|(a6 M).trans aa)<|p (cg u9 aa aa)<|p (gt aa aa)<|aE<|Y _ _<|cd aa (fun h=>absurd h ab) fun aK=> ?_
 refine aM<|tn<|U _ _<|aj fun _ Z=>p (ld bR aa<|(a6 M).trans aa)<|e<|cl GB (LV s qL _ ab az) aa fun v12 aS aq=> ?_
 obtain ⟨rfl,am⟩:=aq
 refine aw<|Z _ _<|aj fun _ ac=>aw<|ac _ _<|aJ<|lp (fun G q C=> ∃ (r:List UInt8) (pre:List (Nat×List UInt8)),(r.length≤s.length)∧((jU 1<|bG s)=pre++jU (pre.length+1) (fU [] r))∧(a pre C)∧(pre.length≤s.length)∧(q 0= .func (.yield l) #[] #[])∧(q 3=str r)∧(q 4=au (pre.length+1))∧(r.length=G)) _ ⟨kV s,[],(zx s),aa,(bJ _ _ _ I am),(Nat.zero_le _),aa,aa,(iv<|by first | rfl | (rw [bI]; rfl)),aa⟩ ?_
 rintro G q C ⟨r,pre,aO,O,J,aL,aD,aF,aG,rfl⟩
 refine fx 0 aD<|fx 3 aF<|fx 4 aG<|sq fun _ ae=>aj fun _ ag=>ak (str r)<|p (oN aa aa)<|aE<|ag _ _<|cd aa (fun j=> ?_) fun j=> ?_
 have A:(jU 1<|bG s)=pre++(pre.length+1,jK (mx 10 r))::jU (pre.length+2) (fU []<|nL 10 r):=by rw [O,VO j,Wm]
 have aN:=RV (c:=10) j
 have aI:=RR 10 r
 refine aM<|tn<|ae _ _<|sq fun _ ah=>aJ<|aj fun _ ai=>ak (str r)<|e<|cl PA (RW r 10 _ ab) aa fun aP aU ar=> ?_
 obtain ⟨rfl,an⟩:=ar
 refine p mv<|p (xt aa aa)<|p (xt aa aa)<|p (xt aa aa)<|p aB<|p aB<|p aB<|nl<|tn<|ai _ _<|aj fun _ al=>p mv<|aw<|al _ _<|sq fun _ V=>Xr ?_
 refine py aa (aT (.func (.yield l) #[] #[]) aa)<|py aa (aT (au<|pre.length+1) aa)<|py aa mv<|ey aa<|cl GA (Y1 (mx 10 r) _ ab) aa fun aR aV av=> ?_
 obtain ⟨rfl,ao⟩:=av
 have ap:=bJ _ _ _ J<|Md.trans an ao
 refine ZG aa aa (aH pre (pre.length+1,jK (mx 10 r)) _ _ A ap) fun aW ax=> ?_
 refine py aa (no aa)<|Wf ?_
 exact tn<|V _ _<|cf (aa)<|aM<|bn<|tn<|ah _ _<|rg aa<|ak (au<|pre.length+1)<|p (bE ((pre.length+2:Nat):Int) aa aa<|bj ab ab)<|aw<|⟨_,ab,nL 10 r,pre++ [(pre.length+1,jK (mx 10 r))],ab,(by rw [A,dC,bI]; rfl),ax,(by have h1:=CT A; have h2:=nT s; rw [bI,eW]; omega),aa,aa,(iv<|by first | rfl | (rw [bI]; rfl)),aa⟩
 refine ext<|te _<|te _<|be<|f0 aa ?_
 show a (jU 1<|bG s) C
 have aC:r= []:=Decidable.of_not_not j
 rw [O,aC,CM,Wn,ed]
 exact J
theorem xR (s:List UInt8) (b:Nat) (hs:s.length≤65536):EO ay 189 #[.pointer (some ⟨b,0,none⟩)] xS (jU 1<|bG s) (fun W=>W.heap[b]? =some (.cells [str s].toArray 9 (0,0))):=
 fun l a W i j bJ A=>Calls.mono (Bx s b hs l a W i j bJ A) fun e w' ⟨v,he,q⟩=>⟨⟨v,he⟩,q⟩
theorem Ly (s:List UInt8) (w:World) (hs:s.length≤1048576):
 bh ay 81 (ba [str s]) w (fun v w'=>(∃ a,v= .tuple #[a,.int .i64 (if 65536 < s.length then 10 else 0)]∧(if 65536 < s.length then a= .slice none 0 0 else bo w' w.heap.size 9 1 (a) (bG s).length ((bG s).map str)))∧Wk w w'):=by
 refine xV [] func81 aa ntmps81 aa ?_
 refine eU<|fj<|rg aa<|p aB<|p aB<|nl<|eN<|eU<|eU<|fj<|rg aa<|p (aT (str s) aa)<|p (cg u9 aa aa)<|p (gt aa aa)<|nl<|eN<|fj<|cd aa (fun aE=> ?_) fun aE=> ?_
 refine sq fun aN aw=>rg aa<|p aB<|p aB<|nl<|tn<|aw _ _<|rt<|prt<|HH aa aa aa ?_
 have E:65536 < s.length:=ab
 exact ⟨⟨.slice none 0 0,by show gx #[.slice none 0 0,.int .i64 10]=_; rw [if_pos E],by rw [if_pos E]⟩,Md.refl _ _⟩
 refine aM<|eN<|eU<|fj<|rg aa<|e<|ga ZP fun ak aK aS ax am=>nl<|eN<|eU<|eU<|fj<|rg aa<|p (aT (str s) aa)<|e<|cl FP (uR s _) aa fun v11 aj aA=> ?_
 obtain ⟨V,rfl,aQ,al,an⟩:=aA
 have G:Wk w aj:=Md.trans ax.md an
 have aC:=an.aJ am
 have aR:=(dm.1 al).1
 have aZ:ak < aK.heap.size:=(dm.1 am).1
 have E:s.length≤65536:=ab
 refine nl<|eN ?_
 apply KV (xS) (jU 1<|bG s) (fun W=>W.heap[V]? =some (.cells [str s].toArray 9 (0,0))) (fun pre q=> ∃ v,q.heap[ak]? =some (.cells [v].toArray 87 (0,0))∧bo q aj.heap.size 9 1 v pre.length ((pre.map nz).map str)∧q.heap[V]? =some (.cells [str s].toArray 9 (0,0))∧aj.heap.size≤q.heap.size∧Wk w q) rfl F5 (fun _=>rfl) (xR s V E) (⟨.slice none 0 0,aC,du _ _ _ _,al,cj _,G⟩) (fun _ _ ⟨_,_,_,h,_⟩=>h) (fun pre A C F ⟨v,h1,h2,h3,h5,h4⟩ hm O=>⟨v,zh h1 hm O,LF h2 hm O,zh h3 hm O,fW h5 hm.size,LG h4 hm G.size O⟩)
 intro l x q K I
 exact rg aa<|p (cH (str x.2) aa)<|nl<|tn<|I
 intro l pre x rest q aF Z
 obtain ⟨v,U,j,ag,ai,Y⟩:=Z
 obtain ⟨aY,a1,a2⟩:=CT aF
 have aW:=nT s
 have a0:=(dm.1 ag).1
 refine aJ<|rg aa<|p (ld jR aa<|(a6 U).trans aa)<|p mv<|e<|fR fH aa aa fun aO aH ac i ao=> ?_
 have ar:Wk w aH:=Md.trans Y i.md
 have ac:=i.md.aJ U
 refine e<|ap fH (aU j i.md) aa (fW ai i.md.size) aa (aI.dS ao) (aa) (aa) ab ab fun aG a4 ah J a3 aV=> ?_
 have au:=Wk.own ar (aU j i.md) J G.size
 have aD:=J.aJ (i.md.aJ ag) fun h=>by have :=dI (aU j i.md) h; omega
 have ae:=J.aJ ac fun h=>dw (aU j i.md) ac az h
 refine e<|cV He aa aa (eH ah) ae (by simp) fun aL M aq=> ?_
 have av:Wk w aL:=Md.trans' au M fun k hk h=>by omega
 exact nl<|bn<|⟨(fM.wk i.md).trans ((fM.md J<|mF<|aU j i.md).trans<|fM.md M fun k hk=>⟨_,_,_,hk ▸ ae⟩),aG,aq,db (by rw [ig,ig,bI]; exact ah) M (fun k hk h=>dw ah ae az<|h ▸ hk),M.aJ aD (fun h=>by omega),fW ai (fW i.md.size<|fW J.size M.size),av⟩
 intro D q aP Z I
 obtain ⟨v,U,j,ag,ai,Y⟩:=Z
 have aX:=(dm.1 I).1
 refine eN<|eU<|fj<|rg aa<|p (ld jR aa<|(a6 U).trans aa)<|p aB<|p aB<|nl<|eN<|rY<|HI aa aa aa I ?_
 have E:¬65536 < s.length:=ab
 rw [CU,Kk] at j
 exact ⟨⟨v,by show gx #[v,.int .i64 0]=_; rw [if_neg E],by rw [if_neg E]; exact ep (db j (lg _ _ _) fun k hk h=>by obtain ⟨c,e,z,h1⟩:=mF j k hk; rw [h,I] at h1; cases h1) G.size⟩,Md.trans' Y (lg _ _ _) fun k hk h=>by have :=G.size; omega⟩
end Go.Hb.xh
end
section
set_option maxRecDepth 20000
set_option maxHeartbeats 1000000
namespace Go.Hb.xk
open Go.Hb.dT
open Go.Proofs
open Go.Hb.j5 Go.Hb.ji Go.Hb.xh
set_option maxHeartbeats 1000000 in
theorem KX (s:List UInt8) (w:World) (hs:s.length≤1048576):
 bh ay 80 (ba [str s]) w (fun v w'=>(∃ a,v= .tuple #[a,.int .i64 (if 65536 < s.length then 10 else 0)]∧(if 65536 < s.length then a= .slice none 0 0 else ∃ vs,bo w' w.heap.size 209 2 a (bN s).length (kF vs)∧gT w' w.heap.size 9 vs (bN s)))∧Wk w w'):=by
 refine xV [] func80 aa ntmps80 aa ?_
 refine eU<|fj<|rg aa<|p aB<|p aB<|nl<|eN<|eU<|eU<|fj<|rg aa<|p (aT (str s) aa)<|p (cg u9 aa aa)<|p (gt aa aa)<|nl<|eN<|fj<|cd aa (fun bw=> ?_) fun bw=> ?_
 refine sq fun aL ag=>rg aa<|p aB<|p aB<|nl<|tn<|ag _ _<|rt<|prt<|HH aa aa aa ?_
 have O:65536 < s.length:=ab
 exact ⟨⟨.slice none 0 0,by show gx #[.slice none 0 0,.int .i64 10]=_; rw [if_pos O],by rw [if_pos O]⟩,Md.refl _ _⟩
 refine aM<|eN<|eU<|fj<|rg aa<|e<|ga ZJ fun al b4 ch br aP=>nl<|eN<|eU<|eU<|fj<|rg aa<|p (aT (str s) aa)<|e<|cl FP (uR s _) aa fun cu aq bs=> ?_
 obtain ⟨av,rfl,ce,aO,aR⟩:=bs
 have Y:Wk w aq:=Md.trans br.md aR
 have cq:al < b4.heap.size:=(dm.1 aP).1
 have bu:=aR.aJ aP
 have cf:=(dm.1 aO).1
 have O:s.length≤65536:=ab
 refine nl<|eN ?_
 apply KV (xS) (jU 1<|bG s) (fun W=>W.heap[av]? =some (.cells [str s].toArray 9 (0,0))) (fun pre I=> ∃ v vs,I.heap[al]? =some (.cells [v].toArray 187 (0,0))∧bo I aq.heap.size 209 2 v (lk 1<|pre.map nz).length (kF vs)∧gT I aq.heap.size 9 vs (lk 1<|pre.map nz)∧I.heap[av]? =some (.cells [str s].toArray 9 (0,0))∧aq.heap.size≤I.heap.size∧Wk w I) rfl F5 (fun _=>rfl) (xR s av O) (⟨.slice none 0 0,[],bu,du _ _ _ _,gT.nil _ _ _,aO,cj _,Y⟩) (fun _ _ ⟨_,_,_,_,_,h,_⟩=>h) (fun pre A C F ⟨v,vs,h1,h2,a8,h3,h5,h4⟩ hm ae=>⟨v,vs,zh h1 hm ae,LF h2 hm ae,a8.md hm (fun k hk cur z=>(ae k hk).2 cur _ z),zh h3 hm ae,fW h5 hm.size,LG h4 hm Y.size ae⟩)
 intro l x I K Z
 exact sq fun aL ag=>rg aa<|p (cH (.int .i64 x.1) aa)<|nl<|tn<|ag _ _<|rg aa<|p (cH (str x.2) aa)<|nl<|tn<|Z
 intro l pre x rest I b0 aA
 obtain ⟨v,vs,aG,aj,an,aF,ao,ax⟩:=aA
 obtain ⟨co,b1,b2⟩:=CT b0
 have cm:=nT s
 have cr:=(dm.1 aF).1
 have cs:x.2.length≤s.length:=CJ<|by rw [b2]; simp
 have ck:=uY x.2 []
 have bE:=Dn (pre.map nz) 1
 rw [fE] at bE
 refine aJ<|sq fun aL ag=>rg aa<|p mv<|e<|cl O9 (Te x.2 _ ab) aa fun cv a1 bt=> ?_
 obtain ⟨ai,bd⟩:=bt
 obtain ⟨j,am,rfl⟩:=cw ai
 have aS:=(aX ai).2
 have bx:=(aX ai).1
 refine p aB<|nl<|tn<|ag _ _ ?_
 refine ec (fun au ar=> ∃ (n cp:Nat),(n≤(cD [] x.2).length)∧(n≤cp)∧(nS (cD [] x.2)=(cD [] x.2).take n)∧(Wk a1 ar)∧(au 4= .pointer (some ⟨al,0,none⟩))∧(au 5= .int .i64 x.1)∧(au 7= .slice j n cp)) ?_ ?_
 refine sq fun a4 aC=>rg aa<|p mv<|p (bF eQ aa aa)<|p mv<|nl<|tn<|aC _ _<|aJ<|lp (fun aN V a3=> ∃ (i:Nat),(i≤(cD [] x.2).length)∧(∀ q,q < i→vK ((cD [] x.2).getD q [])=false)∧(Wk a1 a3)∧(V 4= .pointer (some ⟨al,0,none⟩))∧(V 5= .int .i64 x.1)∧(V 7= .slice j (cD [] x.2).length am)∧(V 19= .slice j (cD [] x.2).length am)∧(V 20= .int .i64 (cD [] x.2).length)∧(V 21= .int .i64 i)∧((cD [] x.2).length - i=aN)) _ ⟨0,ab,(fun q bD=>by omega),(Md.refl _ _),aa,aa,aa,aa,aa,aa,aa⟩ ?_
 rintro aN V a3 ⟨i,hi,aK,ac,bW,bY,bZ,bS,bU,bV,rfl⟩
 refine fx 4 bW<|fx 5 bY<|fx 7 bZ<|fx 19 bS<|fx 20 bU<|fx 21 bV<|sq fun b6 bj=>rg aa<|p (lt aa aa)<|nl<|tn<|bj _ _<|sq fun b7 bk=>cd aa (fun bz=> ?_) fun bz=> ?_
 refine aM<|tn<|bk _ _<|sq fun b8 bl=>aJ<|sq fun b9 bm=>rg aa<|p (aT (.int .i64 i) aa)<|p (a7 cE aa aa ab<|aI.ok (aS.wk ac)<|bP ab)<|p (ld bR aa<|bX.get (i:=i) (aS.wk ac) ab)<|p (cH (.int .i64 i) aa)<|p aB<|nl<|tn<|bm _ _<|sq fun ca bp=>rg aa<|p mv<|p (ja 0 u9 aa aa<|lx.2 (BS _ _ _<|TZ ab).1)<|p (bH aa aa)<|nl<|tn<|bp _ _<|cd aa (fun bA=> ?_) fun bA=> ?_
 exact sq fun cb bq=>rg aa<|p (aT (.slice j (cD [] x.2).length am) aa)<|p (aT (.int .i64 i) aa)<|p (aT (.int .i64 i) aa)<|p (Q4 cE aa aa aa ab)<|p aB<|nl<|tn<|bq _ _<|ext<|m4 az<|te _<|te _<|be<|tn<|⟨i,i,hi,(cj _),(yH hi aK<|.inr<|decide_eq_true ab),ac,aa,aa,aa⟩
 exact aM<|bn<|tn<|bl _ _<|rg aa<|p (ad aa aa<|bT ab)<|p mv<|nl<|tn<|⟨_,ab,i+1,ab,(fun q bD=>by rcases e8 q i with h | h <;> first | exact aK q h | (rw [show q=i by omega]; exact decide_eq_false ab)),ac,aa,aa,aa,aa,aa,aa,aa⟩
 exact ext<|te _<|te _<|be<|tn<|⟨(cD [] x.2).length,am,(cj _),bx,(by have h:=yH hi aK (.inl ab); rwa [show i=(cD [] x.2).length from by omega] at h),ac,aa,aa,aa⟩
 rintro au ar ⟨n,cp,hn,bC,aW,aw,bM,bO,bQ⟩
 refine fx 4 bM<|fx 5 bO<|fx 7 bQ ?_
 have E:Wk I ar:=Md.trans bd aw
 have aE:=E.aJ aG
 have aZ:=aU aj E
 have a0:=an.wk E
 have aV:=E.aJ aF
 have aQ:Wk w ar:=Md.trans ax E
 refine sq fun a4 aC=>rg aa<|p (aT (.slice j n cp) aa)<|p (bF eQ aa aa)<|p (gt aa aa)<|nl<|tn<|aC _ _<|cd aa (fun bB=> ?_) fun bB=> ?_
 have ak:lf x.2 (1 +pre.length)= [(x.1,(cD [] x.2).take n)]:=by unfold lf; rw [aW,if_neg (fun h=>by have h:=congrArg jy h; rw [dO,fP] at h; omega),← b1]
 refine rg aa<|p (ld sL aa<|(a6 aE).trans aa)<|p (aT (.int .i64 x.1) aa)<|p (aT (.slice j n cp) aa)<|p (cO (ps:= [(0,.int .i64 x.1),(1,.slice j n cp)]) (L:= [.int .i64 x.1,.slice j n cp]) Yw aa<|aa)<|e<|kq Lr aa aa aa fun a5 a2 aD G a9=> ?_
 have bb:bL a2.heap a5 [.int .i64 x.1,.slice j n cp]:=a9
 have bf:Wk w a2:=Md.trans aQ G.md
 have U:=aU aZ G.md
 have aD:=G.md.aJ aE
 refine e<|ap Lr (U) aa (by have :=G.size; have :=E.size; omega) aa (aI.dS bb) (aa) (aa) ab ab fun b3 cx aH J ct ci=> ?_
 have bg:=Wk.own bf U J Y.size
 have bv:=J.aJ (G.md.aJ aV) fun h=>by have :=dI U h; omega
 have ah:=J.aJ aD fun h=>dw U aD az h
 have bJ:=(a0.wk G.md).md J<|hU U az
 have aY:=db (aU (aU ai aw) G.md) J fun k hk=>mG (aU (aU ai aw) G.md) U az hk
 refine e<|cV G3 aa aa (eH aH) ah (by simp) fun b5 M bc=> ?_
 have bi:Wk w b5:=Md.trans' bg M fun k hk h=>by omega
 have bK:=(bJ.md M<|fg ah az).snoc (n:=x.1) (r:=(cD [] x.2).take n) (v:= .slice j n cp)<|by rw [dO,Nat.min_eq_left hn,List.map_take]; exact (Tg.jN<|ep (db aY M fun k hk h=>dw aY ah az<|h ▸ hk) ao).clip bC
 exact nl<|bn<|⟨(fM.wk E).trans ((fM.wk G.md).trans<|(fM.md J<|mF U).trans<|fM.md M fun k hk=>⟨_,_,_,hk ▸ ah⟩),b3,vs++ [(x.1,.slice j n cp)],bc,(by rw [ig,show [x].map nz= [x.2] from aa,nk,fE,ak]; rw [bI,Du]; exact db aH M fun k hk h=>dw aH ah az<|h ▸ hk),(by rw [ig,show [x].map nz= [x.2] from aa,nk,fE,ak]; exact bK),M.aJ bv (fun h=>by omega),fW ao (fW E.size<|fW G.md.size<|fW J.size M.size),bi⟩
 have ak:lf x.2 (1 +pre.length)= []:=by unfold lf; rw [aW,if_pos (by rw [show n=0 by omega]; rfl)]
 exact aM<|bn<|⟨fM.wk E,v,vs,aE,(by rw [ig,show [x].map nz= [x.2] from aa,nk,fE,ak]; rw [ed]; exact aZ),(by rw [ig,show [x].map nz= [x.2] from aa,nk,fE,ak]; rw [ed]; exact a0),aV,fW ao E.size,aQ⟩
 intro D I cc aA Z
 obtain ⟨v,vs,aG,aj,an,aF,ao,ax⟩:=aA
 have cn:=(dm.1 Z).1
 refine eN<|eU<|fj<|rg aa<|p (ld sL aa<|(a6 aG).trans aa)<|p aB<|p aB<|nl<|eN<|rY<|HI aa aa aa Z ?_
 have O:¬65536 < s.length:=ab
 rw [CU] at aj an
 exact ⟨⟨v,by show gx #[v,.int .i64 0]=_; rw [if_neg O],by rw [if_neg O]; exact ⟨vs,ep (db aj (lg _ _ _) fun k hk h=>by obtain ⟨c,e,z,h1⟩:=mF aj k hk; rw [h,Z] at h1; cases h1) Y.size,(an.md (lg _ _ _) fun k hk cur z=>by rw [hk,Z]; simp).mono Y.size⟩⟩,Md.trans' ax (lg _ _ _) fun k hk h=>by have :=Y.size; omega⟩
end Go.Hb.xk
end
section
set_option maxRecDepth 20000
set_option maxHeartbeats 1000000
namespace Go.Hb.kH
open Go.Hb.dT
open Go.Proofs
open Go.Hb.fq Go.Hb.fQ Go.Hb.mi Go.Hb.gn Go.Hb.lQ Go.Hb.nA Go.Hb.jF Go.Hb.rk Go.Hb.EM Go.Hb.iK Go.Hb.EN Go.Hb.xk Go.Hb.xh Go.Hb.j5 Go.Hb.ji
theorem qG {eof ln:Nat} {F F':aR} {hs:List Tx} {rows rows':List Rw} {row:List Tx} (a:bY eof F hs rows ln row= .ok (F',rows')):rows'.length≤rows.length:=by
 unfold bY at a
 repeat' split at a
 · unfold kh at a; split at a; cases a; cases a; exact cj _
 · unfold kB at a; repeat' split at a
   all_goals first | (cases a; done) | (cases a; exact cj _)
 · unfold mK at a; split at a; cases a; cases a; exact cj _
 · unfold mP at a; split at a; cases a; cases a; exact cj _
 · unfold kS at a; repeat' split at a
   all_goals first | (cases a; done) | (cases a; exact cj _)
 · unfold kg at a; repeat' split at a
   all_goals first | (cases a; done) | (cases a; exact (yA _ _ _<|by assumption).1)
 · unfold jS at a; repeat' split at a
   all_goals first | (cases a; done) | (cases a; exact (yA _ _ _<|by assumption).1)
 · unfold gH at a; repeat' split at a
   all_goals first | (cases a; done) | (cases a; exact (yA _ _ _<|by assumption).1)
theorem vJ {eof k:Nat} {F:aR} {hs:List Tx} :gF eof k F hs []= .ok F:=by cases k <;> simp [gF]
section
variable {eof k n:Nat} {F:aR} {hs:List Tx} {r:List Tx} {rest:List Rw} {T:Except (Nat×Nat) aR} (h:gF eof k F hs ((n,r)::rest)=T) (hk:rest.length+1≤k)
include h hk
theorem KK (a:width (r.getD 0 [])=0):T= .error (n,110):=by
 obtain ⟨m,rfl⟩:∃ m,k=m+1:=⟨k - 1,ab⟩
 rw [← h,gF,if_pos a]
theorem KL (a:width (r.getD 0 [])≠0) (h1:r.length≠width (r.getD 0 [])):T= .error (n,111):=by
 obtain ⟨m,rfl⟩:∃ m,k=m+1:=⟨k - 1,ab⟩
 rw [← h,gF,if_neg a,if_pos h1]
theorem Dh (a:width (r.getD 0 [])≠0) (h1:r.length=width (r.getD 0 [])) (h2:width (r.getD 0 [])≠4) (h3:r.getD 0 []∈hs):T= .error (n,112):=by
 obtain ⟨m,rfl⟩:∃ m,k=m+1:=⟨k - 1,ab⟩
 have hw:width (r.getD 0 [])=2:=by
  unfold width at a h2 ⊢
  split
  · rfl
  · rename_i hn
    rw [if_neg hn] at a h2
    split at h2
    · exact absurd aa h2
    · rename_i i; rw [if_neg i] at a; exact absurd rfl a
 rw [← h,gF,if_neg a,if_neg (fun h4=>h4 h1),if_pos ⟨hw,h3⟩]
theorem Di {e:Nat×Nat} (a:width (r.getD 0 [])≠0) (h1:r.length=width (r.getD 0 [])) (h2:width (r.getD 0 [])=2→r.getD 0 []∉hs) (h3:bY eof F hs rest n r= .error e):T= .error e:=by
 obtain ⟨m,rfl⟩:∃ m,k=m+1:=⟨k - 1,ab⟩
 rw [← h,gF,if_neg a,if_neg (fun h4=>h4 h1),if_neg (fun h4=>h2 h4.1 h4.2),h3]
theorem Dj {F':aR} {rows':List Rw} (a:width (r.getD 0 [])≠0) (h1:r.length=width (r.getD 0 [])) (h2:width (r.getD 0 [])=2→r.getD 0 []∉hs) (h3:bY eof F hs rest n r= .ok (F',rows')):gF eof (k - 1) F' (hs++ [r.getD 0 []]) rows'=T∧rows'.length≤k - 1:=by
 obtain ⟨m,rfl⟩:∃ m,k=m+1:=⟨k - 1,ab⟩
 refine ⟨?_,by have :=qG h3; omega⟩
 rw [← h,gF,if_neg a,if_neg (fun h4=>h4 h1),if_neg (fun h4=>h2 h4.1 h4.2),h3]; rfl
end
theorem E6 {s:Tx} (h:65536 < s.length):ff s= .error (0,10):=by unfold ff; rw [if_pos h]
theorem oz {s:Tx} {e:Nat×Nat} (h:¬65536 < s.length) (h1:gF ((bG s).length+1) (bN s).length gV [] (bN s)= .error e):ff s= .error e:=by unfold ff; rw [if_neg h,h1]
theorem Af {s:Tx} {F:aR} {q:c8} (h:¬65536 < s.length) (h1:gF ((bG s).length+1) (bN s).length gV [] (bN s)= .ok F) (h2:F.rules.find? (nH F)=some q):ff s= .error (q.line,118):=by unfold ff; rw [if_neg h,h1]; simp only; rw [h2]
theorem E8 {s:Tx} {F:aR} (h:¬65536 < s.length) (h1:gF ((bG s).length+1) (bN s).length gV [] (bN s)= .ok F) (h2:F.rules.find? (nH F)=none):ff s= .ok F:=by unfold ff; rw [if_neg h,h1]; simp only; rw [h2]
def qI (s:Tx):Value:=match iw s with | some (.agg cs)=>cs.getD 1 .nilFunc | _=> .nilFunc
theorem UF (s:Tx):(iw s).getD (.agg #[.int .i64 0,.nilFunc])= .agg [.int .i64 (width s:Nat),qI s].toArray∧(iw s).isSome=decide (width s≠0):=by
 rcases Cw s with h | ⟨wd,f,h,hw,a⟩
 · have a:=I7 h
   unfold qI
   rw [h,a]; exact ⟨rfl,rfl⟩
 · unfold qI
   rw [h,hw,decide_eq_true a]; exact ⟨rfl,rfl⟩
theorem UL (s:Tx):[jh .i64 (width s:Nat),qI s].all gz=true :=by
 rcases Cw s with h | ⟨wd,f,h,hw,a⟩ <;> unfold qI <;> rw [h] <;> rfl
theorem I6 {s:Tx} (h:width s≠0):∃ v,iw s=some v∧∀ (wd:Nat) (f:Nat),v= .agg [.int .i64 (wd:Nat),.func (.func f) #[] #[]].toArray→qI s= .func (.func f) #[] #[]:=by
 rcases Cw s with h1 | ⟨wd,f,h1,hw,i⟩
 · exact absurd (I7 h1) h
 · refine ⟨_,h1,fun j a he=> ?_⟩
   unfold qI
   rw [h1,he]; rfl
theorem Lf {f:Value→Option Value} {seen:List Tx} (k:Tx) (a:∀ s:Tx,(f<|str s).getD (.int .i64 0)= .int .i64 (seen.count s:Nat)) (s:Tx):(bS f (str k) (.int .i64 (seen.count k+1:Nat))<|str s).getD (.int .i64 0)= .int .i64 ((seen++ [k]).count s:Nat):=by
 rw [List.count_append]
 by_cases h:s=k
 · subst h; rw [vE]; simp
 · rw [tE (fun h2=>h<|str_inj.1 h2),a s,List.count_singleton,show (k==s)=false from by simpa using fun h2=>h h2.symm]; rfl
theorem dx.Le {w w':World} {B:Nat} {H:dp} {F:aR} {R:gR} {rows:List Rw} {ln:Nat} {seen j:List Tx} {f:Value→Option Value} (h:dx w B H F R rows ln seen) (hm:Md (fun k=>k=H.ms) w w') (q:dq w'.heap H.ms jl f) (hd:∀ s:Tx,(f<|str s).getD (.int .i64 0)= .int .i64 (j.count s:Nat)):dx w' B H F R rows ln j:=by
 obtain ⟨g,C,E⟩:=h.tm
 obtain ⟨f0,A,_⟩:=h.sm
 have a:TF w [1] (fun k=>k=H.ms):=TF.eq (ez A) az
 exact ⟨hm.gy a h.cells az,h.rws.md hm (fun k hk cur z i=>a.no (dt i) az hk),h.rt.md hm (fun k hk cur z i=>a.no (dt i) az hk),⟨f,q,hd⟩,⟨g,C.md hm (fun h2=>h.ne.1 h2.symm),E⟩,bZ h.on hm a az,h.lo,h.ne⟩
theorem dP.ms {w w':World} {B:Nat} {H:dp} {F a:aR} {V:eX} {R:gR} {rows:List Rw} {ln:Nat} {seen:List Tx} (h:dP w B H.fb H.mc a V) (i:dx w B H F R rows ln seen) (hm:Md (fun k=>k=H.ms) w w'):dP w' B H.fb H.mc a V:=by
 obtain ⟨g,j,_⟩:=i.sm
 exact h.md (L:= [1]) hm (TF.eq (ez j) az) az fun h=>i.ne.2.1 h.symm
theorem fu.ms {w w':World} {B:Nat} {H:dp} {F:aR} {R:gR} {rows:List Rw} {ln:Nat} {seen:List Tx} (a:dx w B H F R rows ln seen) (hm:Md (fun k=>k=H.ms) w w'):fu B H w w':=hm.mono fun k _ hk=>⟨hk ▸ a.lo.2.1,.inl hk⟩
structure pj (w0 w:World) (H:dp) (b2 b3 bt:Nat):Prop where
 c2:w.heap[b2]? =some (.cells [.pointer none].toArray 60 (0,0))
 c3:w.heap[b3]? =some (.cells [.int .i64 0,.int .i64 0,.int .i64 0].toArray 47 (0,0))
 lo:w0.heap.size≤b2∧w0.heap.size≤b3∧b2≠b3
 tb:∃ f,dq w.heap bt jl f∧∀ s,f (str s)=iw s
 ne:bt≠H.ms∧bt≠H.mt∧bt≠H.mc
 wk:Wk w0 w
theorem pj.md {q w w':World} {H:dp} {a i j:Nat} (h:pj q w H a i j) (hm:Wk w w'):pj q w' H a i j:=by
 obtain ⟨f,A,C⟩:=h.tb
 exact ⟨Wk.aJ hm h.c2,Wk.aJ hm h.c3,h.lo,⟨f,A.wk hm,C⟩,h.ne,h.wk.trans hm⟩
theorem pj.mw {a w w':World} {H:dp} {i j q:Nat} {F:aR} {R:gR} {V:eX} {rows:List Rw} {ln:Nat} {seen:List Tx} (h:pj a w H i j q) (E:dP w a.heap.size H.fb H.mc F V) (A:dx w a.heap.size H F R rows ln seen) (hm:fu a.heap.size H w w'):pj a w' H i j q:=by
 obtain ⟨f,C,I⟩:=h.tb
 obtain ⟨f1,G,_⟩:=A.sm
 obtain ⟨f2,J,_⟩:=A.tm
 obtain ⟨f3,M,_⟩:=E.cm
 have hn:=fun e (O:([197,127,130,72,133,79,5]:List Nat).contains (e+2)=false)=>Wr.ne (B:=a.heap.size) (ez G) (ez J) (ez M) O
 refine ⟨hm.aJ h.c2 (fun hk=>hn 60 az _ hk _ _ h.c2),hm.aJ h.c3 (fun hk=>hn 47 az _ hk _ _ h.c3),h.lo,⟨f,C.md hm ?_,I⟩,h.ne,hm.wk h.wk<|cj _⟩
 rintro ⟨_,h1 | h1 | h1 | h1⟩
 · exact h.ne.1 h1
 · exact h.ne.2.1 h1
 · exact h.ne.2.2 h1
 · rw [ez C] at h1; exact absurd h1 az
def N4 (w':World) (B:Nat) (F:aR) (v:Value):Prop := ∃ fb mc V,v= .tuple #[.pointer (some ⟨fb,0,none⟩),.agg [.int .i64 0,.int .i64 0,.int .i64 0].toArray]∧dP w' B fb mc F V∧(∃ seen,kI F [] seen)∧Nx F
def N3 (e:Nat×Nat) (v:Value):Prop :=v= .tuple #[.pointer none,.agg [.int .i64 1,.int .i64 (e.1:Nat),.int .i64 (e.2:Nat)].toArray]
def pq (s:Tx) (w:World) (v:Value) (w':World):Prop :=(match ff s with | .ok F=>N4 w' w.heap.size F v | .error e=>N3 e v)∧Wk w w'
theorem pq.no {s:Tx} {w w':World} {l e:Nat} (h:ff s= .error (l,e)) (hm:Wk w w'):pq s w (.tuple #[.pointer none,.agg [.int .i64 1,.int .i64 (l:Nat),.int .i64 (e:Nat)].toArray]) w':=by
 unfold pq; rw [h]; exact ⟨rfl,hm⟩
theorem rW {n:Nat} {G:List Nat} {fn:Func} {σ:Nat→Value} {s:Tx} {w W:World} {H:dp} {i j q l e:Nat} (C:fn.results= #[.cell 2 60,.cell 3 47]) (A:3 < n) (E:σ 2= .pointer (some ⟨i,0,none⟩)) (I:σ 3= .pointer (some ⟨j,0,none⟩)) (a:pj w W H i j q) (J:ff s= .error (l,e)):qb ⟨n,[{target:= .fn (.func 82) #[.pointer (some ⟨i,0,none⟩),.pointer (some ⟨j,0,none⟩)],args:= #[]}],G,none⟩ (qd ay fn<|pq s w) (.panic<|jk 47 l (e:Nat)) σ W:=
 Xc C A E I ⟨_,a.c2⟩ ⟨_,rfl,a.c3⟩ a.lo.2.2 (fun w' hm=>pq.no J<|a.wk.trans' hm fun k hk h=>by rcases h with rfl | rfl; have :=a.lo.1; omega; have :=a.lo.2.1; omega)
theorem Si {x:Nat} (h:x≠0):eB gV x=false :=by
 unfold eB gV dU
 simp [h]
theorem Wk.dr {w:World} :Wk w w.drew:=(Md.refl _ _).drew
theorem Oj (s:Tx) (w:World) (hs:s.length≤1048576):
 bh ay 45 (ba [str s]) w (pq s w):=by
 refine SO [2,3] func45 aa ntmps45 aa ?_
 refine eU<|fj<|rg aa<|e<|ga ZO fun aK fq eI cy c0=>e<|ga p5 fun aL er eO bz c7=> ?_
 have e5:=cy.size
 have e9:=bz.size
 have df:Wk w er:=cy.md.trans bz.md
 have d6:=Wk.aJ bz.md c0
 refine nl<|eN<|eU<|fj<|rg aa<|p (aT (str s) aa)<|e<|cl Gx (KX s _ hs) aa fun fi fo dF=> ?_
 obtain ⟨⟨eE,rfl,cC⟩,hE15⟩:=dF
 have ck:=df.trans hE15
 have cJ:=Wk.aJ hE15 d6
 have cK:=Wk.aJ hE15 c7
 have e4:=hE15.size
 refine p mv<|p (xt aa aa)<|p (xt aa aa)<|p aB<|p aB<|nl<|eN<|eU<|eU<|fj<|rg aa<|p mv<|p (cX aa aa)<|nl<|eN<|fj<|cd aa (fun bO=> ?_) fun bO=> ?_
 have cB:65536 < s.length:=Classical.byContradiction fun h=>bO<|by rw [if_neg h]
 exact sq fun cQ bs=>rg aa<|p mv<|p (cO (ps:= [(0,.int .i64 1),(2,.int .i64 (if 65536 < s.length then 10 else 0))]) (L:= [.int .i64 1,.int .i64 0,.int .i64 (if 65536 < s.length then 10 else 0)]) tH aa<|aa)<|e<|cV Bo aa aa (v:= .pointer none) aa cJ az fun fz cv da=>e<|gi jT aa aa aa aa (cv.aJ cK fun h=>by omega) az fun fA cx db=>nl<|tn<|bs _ _<|rt<|prt<|S9 (y0 aa (nm<|Dp aa aa<|(a6<|cx.aJ da fun h=>by omega).trans aa)<|nm<|dK aa aa aa fun j eX=>by rw [gQ,a6 db,if_pos cB]; simp)<|pq.no (E6 cB)<|(ck.trans' cv fun k hk h=>by omega).trans' cx fun k hk h=>by omega
 have an:¬65536 < s.length:=fun h=>bO<|by rw [if_pos h]; decide
 rw [if_neg an] at cC
 obtain ⟨vs,cH,d7⟩:=cC
 obtain ⟨ar,cr,rfl⟩:=cw cH
 refine aM<|eN<|eU<|fj<|rg aa<|p (aT (str s) aa)<|e<|cl Gy (Ly s _ hs) aa fun v24 cP dH=> ?_
 obtain ⟨⟨a24,rfl,cD⟩,hE24⟩:=dH
 rw [if_neg an] at cD
 obtain ⟨fe,qt,rfl⟩:=cw cD
 have de:=ck.trans hE24
 have eY:=nT s
 have e6:=hE24.size
 refine p mv<|p (xt aa aa)<|p (xt aa aa)<|p aB<|p aB<|nl<|eN<|eU<|fj<|rg aa<|e<|vy fun M ft eJ cz c5=> ?_
 have e7:=cz.size
 refine p (cO (ps:= [(1,.map (some M))]) (L:= [.int .i64 0,.string ⟨⟨[]⟩⟩,.string ⟨⟨[]⟩⟩,.int .u16 0,.int .u16 0,.int .u16 0,.int .u16 0,.int .u16 0,.int .i64 0,.slice none 0 0,.slice none 0 0,.slice none 0 0,.slice none 0 0,.map (some M)]) Yq aa<|aa)<|e<|oC aa fun I fv eK bx c6=> ?_
 have e8:=bx.size
 refine p mv<|p mv<|p (bF eQ aa aa)<|p (bE (((bG s).length+1:Nat):Int) aa aa<|bj ab ab)<|e<|vy fun U fw eR bi c8=> ?_
 have fb:=bi.size
 refine e<|vy fun Y fy eS aZ c9=> ?_
 have fc:=aZ.size
 refine p (cO (ps:= [(0,.pointer (some ⟨I,0,none⟩)),(1,.slice ar (bN s).length cr),(3,.int .i64 ((bG s).length+1:Nat)),(4,.map (some U)),(5,.map (some Y))]) (L:= [.pointer (some ⟨I,0,none⟩),.slice ar (bN s).length cr,.int .i64 0,.int .i64 ((bG s).length+1:Nat),.map (some U),.map (some Y),.slice none 0 0]) Yv aa<|aa)<|e<|oC aa fun A aG eT aQ bq=> ?_
 have fd:=aQ.size
 have dW:=Wk.aJ (bi.md.trans<|aZ.md.trans aQ.md) c6
 refine p aB<|nl<|eN<|eU<|fj ?_
 have ai:(fun w'=>Md (fun k=>k=I) aG w') aG.drew:=(Md.refl _ _).drew
 refine bJ (fun w'=>Md (fun k=>k=I) aG w') aa wide ai<|hp 0 aa ag (fun _ _=>mv) ai<|hp 1 aa ag (fun _ _=>nc aa) ai<|hp 2 aa ag (fun _ _=>fa gY aa) ai<|hp 3 aa ag (fun w' J=>ld fZ aa<|Md.aO J ((a6 bq).trans aa) fun h=>by omega) ai<|hp 4 aa ag (fun _ _=>mv) ai<|hp 5 aa ag (fun _ _=>nc aa) ai<|hp 6 aa ag (fun _ _=>fa gY aa) ai<|hp 7 aa ag (fun w' J=>ld fZ aa<|Md.aO J ((a6 bq).trans aa) fun h=>by omega) ai<|hp 8 aa ag (fun _ _=>nc aa) ai<|hp 9 aa ag (fun _ _=>fa gC aa) ai<|hp 10 aa ag (fun _ _=>fa tu aa) ai<|he 11 aa ag<|cV gX aa aa (v:= .int .i64 (1:Nat)) aa dW (by show 0 +0 +0 < 14; decide) fun eu dz dc=> ?_
 have a0:(fun w'=>Md (fun k=>k=I) aG w') eu:=ai.trans' dz fun _ _ h=>h
 refine ⟨a0,?_⟩
 refine hp 12 aa ag (fun _ _=>nc aa) a0<|hp 13 aa ag (fun _ _=>fa gC aa) a0<|hp 14 aa ag (fun _ _=>fa B9 aa) a0<|he 15 aa ag<|cV gX aa aa (v:= .int .i64 (3:Nat)) aa dc (by show _ < 14; decide) fun ev dA dd=> ?_
 have bM:(fun w'=>Md (fun k=>k=I) aG w') ev:=a0.trans' dA fun _ _ h=>h
 refine ⟨bM,?_⟩
 refine hn ag<|eN<|eU<|Su Vz #[.pointer (some ⟨aK,0,none⟩),.pointer (some ⟨aL,0,none⟩)] aa az ?_
 refine eU<|fj<|rg aa<|e<|cl QI (UJ _) aa fun v53 am dJ=> ?_
 obtain ⟨aC,rfl,eV,eg,cn⟩:=dJ
 have dg:Wk cP aG:=cz.md.trans<|bx.md.trans<|bi.md.trans<|aZ.md.trans aQ.md
 have aP:Md (fun k=>k=I) aG am:=bM.trans' cn fun _ _ h=>h.elim
 have aY:Wk cP am:=Md.trans' dg aP fun k hk h=>by omega
 have e2:=aP.size
 have dh:=de.trans aY
 have dT:am.heap[I]? =some (.cells (oG gV ⟨.slice none 0 0,.slice none 0 0,.slice none 0 0,.slice none 0 0,[],[]⟩ M).toArray 125 (0,0)):=Wk.aJ cn dd
 have dV:am.heap[A]? =some (.cells (vI (⟨A,I,U,Y,M,(bG s).length+1⟩:dp) ⟨.slice ar (bN s).length cr,vs,.slice none 0 0⟩ 0).toArray 195 (0,0)):=aP.aJ bq fun h=>by omega
 have d1:dq am.heap M (pO .u16) (fun _=>none):=dq.md (dq.wk (dq.nil c5)<|bx.md.trans<|bi.md.trans<|aZ.md.trans aQ.md) aP fun h=>by omega
 have d2:dq am.heap U jl (fun _=>none):=dq.md (dq.wk (dq.nil c8)<|aZ.md.trans aQ.md) aP fun h=>by omega
 have d3:dq am.heap Y (pO .u16) (fun _=>none):=dq.md (dq.wk (dq.nil c9) aQ.md) aP fun h=>by omega
 have di:dP am w.heap.size I M gV ⟨.slice none 0 0,.slice none 0 0,.slice none 0 0,.slice none 0 0,[],[]⟩:=⟨dT,du _ _ _ _,du _ _ _ _,ek.nil _ _ _,du _ _ _ _,du _ _ _ _,ek.nil _ _ _,⟨_,d1,fun _=>rfl⟩,⟨ab,ab⟩,rfl⟩
 have dC:dx am w.heap.size (⟨A,I,U,Y,M,(bG s).length+1⟩:dp) gV ⟨.slice ar (bN s).length cr,vs,.slice none 0 0⟩ (bN s) 0 []:=⟨dV,(((Tg.jN cH).mono ab).wk<|hE24.trans aY).YS,(d7.mono ab).wk (hE24.trans aY),⟨_,d2,fun _=>rfl⟩,⟨_,d3,fun x b9=>by rw [Si b9]; rfl⟩,du _ _ _ _,⟨by show w.heap.size≤A; omega,by show w.heap.size≤U; omega,by show w.heap.size≤Y; omega⟩,⟨by show U≠Y; omega,by show U≠M; omega,by show Y≠M; omega⟩⟩
 have e1:=yY s
 have dQ:St am w.heap.size (⟨A,I,U,Y,M,(bG s).length+1⟩:dp) gV (bN s) 0 []:=⟨_,_,di,dC,⟨by show 0 +0 +0 +0 +(bN s).length≤70000; omega,by show 0 +(bN s).length≤70000; omega,fun q b2=>by have h:=yZ b2; exact ⟨h.2.2.1,ab,fun x b9=>by have :=(h.2.2.2.2 x b9).2; omega⟩,.inl rfl,fun l a8=>by cases a8⟩⟩
 have ef:ko gV []:=fun k hk _=>by have h:∀ k∈dZ,gV.sp.getD (dZ.idxOf k) 0=0:=az
                                  exact h k hk
 have d4:Nx gV:=⟨fun l a8=>(by cases a8),fun l a8=>by cases a8⟩
 have e3:=bM.size
 have d5:pj w am (⟨A,I,U,Y,M,(bG s).length+1⟩:dp) aK aL aC:=⟨Wk.aJ (hE24.trans aY) cJ,Wk.aJ (hE24.trans aY) cK,⟨ab,ab,ab⟩,eg,⟨by show aC≠U; omega,by show aC≠Y; omega,by show aC≠M; omega⟩,dh⟩
 refine p aB<|nl<|eN<|eU<|fj<|aJ<|lp (fun ch bd bb=> ∃ (k:Nat) (F:aR) (rows:List Rw) (ln:Nat) (seen:List Tx),(gF (⟨A,I,U,Y,M,(bG s).length+1⟩:dp).eof k F seen rows=gF ((bG s).length+1) (bN s).length gV [] (bN s))∧(rows.length≤k)∧(St bb w.heap.size (⟨A,I,U,Y,M,(bG s).length+1⟩:dp) F rows ln seen)∧(ko F seen)∧(Nx F)∧(pj w bb (⟨A,I,U,Y,M,(bG s).length+1⟩:dp) aK aL aC)∧(bd 2= .pointer (some ⟨aK,0,none⟩))∧(bd 3= .pointer (some ⟨aL,0,none⟩))∧(bd 8= .pointer (some ⟨A,0,none⟩))∧(bd 9= .map (some aC))∧(rows.length=ch)) _ ⟨(bN s).length,gV,bN s,0,[],aa,(cj _),dQ,ef,d4,d5,aa,aa,aa,aa,aa⟩ ?_
 rintro ch bd bb ⟨k,F,rows,ln,seen,aj,hk,J,bo,bl,bZ,d9,ea,eb,ec,rfl⟩
 refine fx 2 d9<|fx 3 ea<|fx 8 eb<|fx 9 ec ?_
 obtain ⟨V,R,O,au,aN⟩:=J
 obtain ⟨vr,vs,vn⟩:=R
 obtain ⟨ce,cg,eh⟩:=au.rws.slice
 obtain rfl :vr= .slice ce rows.length cg:=eh
 refine sq fun cQ bs=>sq fun ew dm=>rg aa<|p (aT (.pointer<|some ⟨A,0,none⟩) aa)<|p (nc aa)<|p (fa vc aa)<|p (ld sL aa<|(a6 au.cells).trans aa)<|p (bF zo aa aa)<|p (gt aa aa)<|nl<|tn<|dm _ _<|cd aa (fun bQ=> ?_) fun bQ=> ?_
 obtain ⟨⟨n,r⟩,rest,rfl⟩:∃ q rest,rows=q::rest:=by
  cases rows with
  | nil=>exact absurd bQ<|by simp
  | cons q rest=>exact ⟨q,rest,rfl⟩
 have b6:=aN.row (n,r)<|List.mem_cons_self ..
 have dR:=aN.len
 have dS:=aN.sl
 simp only [cM] at dR dS hk
 refine aM<|tn<|bs _ _<|aJ<|sq fun ex dn=>rg aa<|p (aT (.pointer<|some ⟨A,0,none⟩) aa)<|e<|cl Gz (LP w.heap.size (⟨A,I,U,Y,M,(bG s).length+1⟩:dp) F ⟨.slice ce (rest.length+1) cg,vs,vn⟩ n r rest ln seen bb au) aa fun fk es dL=> ?_
 obtain ⟨⟨R1,dD⟩,hT1,hM1⟩:=dL
 obtain ⟨cc,cf,rfl⟩:=hT1.slice
 have dk:=O.rb au hM1
 have cG:=bZ.mw O au<|fu.rb au hM1
 have e0:0 < r.length:=lx.2 b6.1
 have ci:=kI.pH aN
 have cL:=UF<|r.getD 0 []
 obtain ⟨eG,d0,cF⟩:=cG.tb
 refine p aB<|nl<|tn<|dn _ _<|sq fun ey ds=>rg aa<|p (aT (.map<|some aC) aa)<|p mv<|p (a7 cE aa aa ab<|aI.ok (hT1.cI.2)<|bP ab)<|p (ld bR aa<|bX.get (i:=0) hT1.cI.2 ab)<|p (JD l9 ZS jb (d0) aa aa (⟨_,aa⟩) ((congrArg (fun o=>Option.getD o _)<|cF<|r.getD 0 []).trans cL.1)<|(congrArg Option.isSome<|cF<|r.getD 0 []).trans cL.2)<|p mv<|p (xt aa aa)<|p (xt aa aa)<|e<|ga ZK fun cU fm eH dB cY=>e<|gi Sa aa aa aa (UL _) cY az fun cb dy cZ=> ?_
 have bg:Wk es cb:=dB.md.trans' dy fun k hk h=>by omega
 have bk:cb.heap[cU]? =some (.cells [.int .i64 (width (r.getD 0 []):Nat),qI (r.getD 0 [])].toArray 202 (0,0)):=cZ
 have ax:=dk.wk bg
 have Z:=dD.wk bg
 have aS:=hT1.wk bg
 have aA:=cG.md bg
 refine p aB<|nl<|tn<|ds _ _<|sq fun eA dv=>rg aa<|p (aT (.pointer<|some ⟨A,0,none⟩) aa)<|p mv ?_
 refine eP aa (dN il (iz A n _ 110 cb Z.dj az) aa fun v72 et dM=> ?_) (fun c w' ae aV O=>by
  obtain ⟨rfl,av,rfl⟩:=ae
  exact rW aa az ((O 2<|.head _).trans aa) ((O 3<|.tail _<|.head _).trans aa) aA (oz an<|KK aj hk<|jn.1<|of_decide_eq_false av))
 obtain ⟨rfl,ak,rfl⟩:=dM
 have ak:width (r.getD 0 [])≠0:=of_decide_eq_true ak
 refine nl<|tn<|dv _ _<|sq fun eB dw=>rg aa<|p (aT (.pointer<|some ⟨A,0,none⟩) aa)<|p mv<|p (bF eQ aa aa)<|p (fa Im aa)<|p (ld bA aa<|(a6 bk).trans aa)<|p (bH aa aa) ?_
 refine eP aa (dN il (iz A n _ 111 et Z.dj az) aa fun fl aw dO=> ?_) (fun c w' ae aV O=>by
  obtain ⟨rfl,av,rfl⟩:=ae
  exact rW aa az ((O 2<|.head _).trans aa) ((O 3<|.tail _<|.head _).trans aa) aA (oz an<|KL aj hk ak fun h=>of_decide_eq_false av<|by rw [h]))
 obtain ⟨rfl,ao,rfl⟩:=dO
 have ao:r.length=width (r.getD 0 []):=by have :=of_decide_eq_true ao; omega
 refine nl<|tn<|dw _ _<|sq fun eC cq=> ?_
 obtain ⟨fg,ed,ee⟩:=Z.sm
 have C:(fun w'=>Wk aw w') aw.drew:=(Md.refl _ _).drew
 refine bJ (fun w'=>Wk aw w') aa wide C<|hp 0 aa ag (fun _ _=>aT (.pointer<|some ⟨A,0,none⟩) aa) C<|hp 1 aa ag (fun _ _=>fa Im aa) C<|hp 2 aa ag (fun w' J=>ld bA aa<|Wk.aO J<|(a6 bk).trans aa) C<|hp 3 aa ag (fun _ _=>bH aa aa) C<|hp 4 aa ag (fun _ _=>mv) C<|iO (t:=84) aa (fun a5=> ?_) fun a5=> ?_
 refine aW 5 aa ag aa aa aa aa C<|aW 6 aa ag aa aa aa aa C<|aW 7 aa ag aa aa aa aa C<|aW 8 aa ag aa aa aa aa C<|aW 9 aa ag aa aa aa aa C<|aW 10 aa ag aa aa aa aa C<|aW 11 aa ag aa aa aa aa C<|aW 12 aa ag aa aa aa aa C<|aW 13 aa ag aa aa aa aa C<|hp 14 aa ag (fun _ _=>bw aa) C ?_
 refine tx 15 aa ag aa (dN il (iz A n _ 112 aw.drew (Wk.aO C Z.dj) az) aa fun eo aH bK=> ?_) (fun c w' ae aV O=>by
  obtain ⟨rfl,av,rfl⟩:=ae
  first
   | exact absurd av az
   | exact rW rfl az ((O 2<|.head _).trans rfl) ((O 3<|.tail _<|.head _).trans rfl) (aA.md Wk.dr) (oz an<|Dh aj hk ak ao (fun h=>a5<|by rw [h]; rfl)<|jn.1 fun h=>of_decide_eq_false av<|by rw [q9.2 h]; rfl))
 obtain ⟨rfl,ca,a9⟩:=bK
 have aE:width (r.getD 0 [])=2→r.getD 0 []∉seen:=by
  first
   | exact fun h=>absurd a5 ab
   | exact fun _=>q9.1<|by have :=of_decide_eq_true ca; omega
 have E:Wk aw aH:=by rw [a9]; exact Wk.dr
 obtain ⟨ei,bW,bU⟩:=I6 ak
 obtain ⟨cW,b8,bS,bT⟩:=Ja w.heap.size (⟨A,I,U,Y,M,(bG s).length+1⟩:dp) F rest n seen r w.heap.size cc cf aH ⟨_,_,ax.wk E,Z.wk E,ci⟩ (aS.wk E) b6.2.2 ao bo aE ab bW
 have bV:=bU _ _ b8
 have bL:(fun w'=>Wk aw w') aH:=by rw [a9]; exact C
 refine ⟨bL,?_⟩
 refine hn ag<|tn<|cq _ _<|sq fun cR bt=>rg aa<|p (fa Io aa)<|p (ld Fc aa<|(a6<|Wk.aJ E bk).trans<|congrArg some bV)<|p (aT (.pointer<|some ⟨A,0,none⟩) aa)<|p mv ?_
 refine eP aa (Mt bS aa bT aa fun en aF bC=> ?_) (fun c w' ae aV O=>by
  obtain ⟨l,e,ac,rfl,aq⟩:=ae
  exact rW aa az ((O 2<|.head _).trans aa) ((O 3<|.tail _<|.head _).trans aa) ((aA.md E).mw (ax.wk E) (Z.wk E) aq) (oz an<|Di aj hk ak ao aE ac))
 obtain ⟨rfl,F',rows',ln',ac,⟨cS,bp,aX,ah,ap⟩,aq⟩:=bC
 have b1:=(aA.md E).mw (ax.wk E) (Z.wk E) aq
 obtain ⟨ej,b3,_⟩:=Z.sm
 obtain ⟨el,b4,_⟩:=Z.tm
 obtain ⟨em,b5,_⟩:=ax.cm
 have a1:=(aS.wk E).md aq<|Wr.ne (ez<|b3.wk E) (ez<|b4.wk E) (ez<|b5.wk E) az
 obtain ⟨fs,a3,a4⟩:=ah.sm
 have dU:=ui (a:=r.getD 0 []) (l:=seen)
 have a2:=Dj aj hk ak ao aE ac
 refine nl<|tn<|bt _ _ ?_
 have G:(fun w'=>Wk aF w') aF.drew:=(Md.refl _ _).drew
 refine eM (fun w'=>Wk aF w') 9 aa wide G<|lq 0 aa ag (fun _ _=>aT (.pointer<|some ⟨A,0,none⟩) aa) G<|lq 1 aa ag (fun _ _=>nc aa) G<|lq 2 aa ag (fun _ _=>fa tq aa) G<|lq 3 aa ag (fun w' J=>ld sM aa<|Wk.aO J<|(a6 ah.cells).trans aa) G<|lq 4 aa ag (fun _ _=>mv) G<|lq 5 aa ag (fun _ _=>a7 cE aa aa ab<|aI.ok (aI.wk a1.cI.2 G)<|bP ab) G<|lq 6 aa ag (fun w' J=>ld bR aa<|Wk.aO J<|bX.get (i:=0) a1.cI.2 ab) G<|lq 7 aa ag (fun w' J=>oK qU oV jb (dq.md (a3) J id) aa aa (⟨_,aa⟩)<|a4<|r.getD 0 []) G<|lq 8 aa ag (fun _ _=>bE ((seen.count (r.getD 0 [])+1:Nat):Int) aa aa<|bj ab ab) G<|dG 9 aa ag ag<|tP qU jb (a3.wk G) aa aa aa (⟨_,aa⟩) fun bc bu bB=> ?_
 have aD:=ib bu
 have bD:dx bc w.heap.size (⟨A,I,U,Y,M,(bG s).length+1⟩:dp) F' bp rows' ln' (seen++ [r.getD 0 []]):=dx.Le ah aD bB<|Lf _ a4
 have br:=dP.ms aX ah aD
 have b0:=b1.mw aX ah<|fu.ms ah aD
 have d8:=qG ac
 have G:St bc w.heap.size (⟨A,I,U,Y,M,(bG s).length+1⟩:dp) F' rows' ln' (seen++ [r.getD 0 []]):=⟨_,_,br,bD,⟨ap.len,by rw [bI,eW]; omega,ap.row,ap.kd,ap.al⟩⟩
 have b7:=I9 bo ac
 have bY:=yC bl ac
 exact eL ag<|bn<|tn<|⟨_,by simp only [cM]; have :=qG ac; omega,k - 1,F',rows',ln',seen++ [r.getD 0 []],a2.1,a2.2,G,b7,bY,b0,aa,aa,aa,aa,aa⟩
 refine bf 5 aa ag aa aa aa (fun _ _=>aT (.pointer<|some ⟨A,0,none⟩) aa) C<|bf 6 aa ag aa aa aa (fun _ _=>nc aa) C<|bf 7 aa ag aa aa aa (fun _ _=>fa tq aa) C<|bf 8 aa ag aa aa aa (fun w' J=>ld sM aa<|Wk.aO J<|(a6 Z.cells).trans aa) C<|bf 9 aa ag aa aa aa (fun _ _=>mv) C<|bf 10 aa ag aa aa aa (fun _ _=>a7 cE aa aa ab<|aI.ok (aI.wk aS.cI.2 C)<|bP ab) C<|bf 11 aa ag aa aa aa (fun w' J=>ld bR aa<|Wk.aO J<|bX.get (i:=0) aS.cI.2 ab) C<|bf 12 aa ag aa aa aa (fun w' J=>oK qU oV jb (dq.md (ed) J id) aa aa (⟨_,aa⟩)<|ee<|r.getD 0 []) C<|bf 13 aa ag aa aa aa (fun _ _=>bH aa aa) C<|hp 14 aa ag (fun _ _=>bm aa) C ?_
 refine tx 15 aa ag aa (dN il (iz A n _ 112 aw.drew (Wk.aO C Z.dj) az) aa fun eo aH bK=> ?_) (fun c w' ae aV O=>by
  obtain ⟨rfl,av,rfl⟩:=ae
  first
   | exact absurd av az
   | exact rW rfl az ((O 2<|.head _).trans rfl) ((O 3<|.tail _<|.head _).trans rfl) (aA.md Wk.dr) (oz an<|Dh aj hk ak ao (fun h=>a5<|by rw [h]; rfl)<|jn.1 fun h=>of_decide_eq_false av<|by rw [q9.2 h]; rfl))
 obtain ⟨rfl,ca,a9⟩:=bK
 have aE:width (r.getD 0 [])=2→r.getD 0 []∉seen:=by
  first
   | exact fun h=>absurd a5 ab
   | exact fun _=>q9.1<|by have :=of_decide_eq_true ca; omega
 have E:Wk aw aH:=by rw [a9]; exact Wk.dr
 obtain ⟨ei,bW,bU⟩:=I6 ak
 obtain ⟨cW,b8,bS,bT⟩:=Ja w.heap.size (⟨A,I,U,Y,M,(bG s).length+1⟩:dp) F rest n seen r w.heap.size cc cf aH ⟨_,_,ax.wk E,Z.wk E,ci⟩ (aS.wk E) b6.2.2 ao bo aE ab bW
 have bV:=bU _ _ b8
 have bL:(fun w'=>Wk aw w') aH:=by rw [a9]; exact C
 refine ⟨bL,?_⟩
 refine hn ag<|tn<|cq _ _<|sq fun cR bt=>rg aa<|p (fa Io aa)<|p (ld Fc aa<|(a6<|Wk.aJ E bk).trans<|congrArg some bV)<|p (aT (.pointer<|some ⟨A,0,none⟩) aa)<|p mv ?_
 refine eP aa (Mt bS aa bT aa fun en aF bC=> ?_) (fun c w' ae aV O=>by
  obtain ⟨l,e,ac,rfl,aq⟩:=ae
  exact rW aa az ((O 2<|.head _).trans aa) ((O 3<|.tail _<|.head _).trans aa) ((aA.md E).mw (ax.wk E) (Z.wk E) aq) (oz an<|Di aj hk ak ao aE ac))
 obtain ⟨rfl,F',rows',ln',ac,⟨cS,bp,aX,ah,ap⟩,aq⟩:=bC
 have b1:=(aA.md E).mw (ax.wk E) (Z.wk E) aq
 obtain ⟨ej,b3,_⟩:=Z.sm
 obtain ⟨el,b4,_⟩:=Z.tm
 obtain ⟨em,b5,_⟩:=ax.cm
 have a1:=(aS.wk E).md aq<|Wr.ne (ez<|b3.wk E) (ez<|b4.wk E) (ez<|b5.wk E) az
 obtain ⟨fs,a3,a4⟩:=ah.sm
 have dU:=ui (a:=r.getD 0 []) (l:=seen)
 have a2:=Dj aj hk ak ao aE ac
 refine nl<|tn<|bt _ _ ?_
 have G:(fun w'=>Wk aF w') aF.drew:=(Md.refl _ _).drew
 refine eM (fun w'=>Wk aF w') 9 aa wide G<|lq 0 aa ag (fun _ _=>aT (.pointer<|some ⟨A,0,none⟩) aa) G<|lq 1 aa ag (fun _ _=>nc aa) G<|lq 2 aa ag (fun _ _=>fa tq aa) G<|lq 3 aa ag (fun w' J=>ld sM aa<|Wk.aO J<|(a6 ah.cells).trans aa) G<|lq 4 aa ag (fun _ _=>mv) G<|lq 5 aa ag (fun _ _=>a7 cE aa aa ab<|aI.ok (aI.wk a1.cI.2 G)<|bP ab) G<|lq 6 aa ag (fun w' J=>ld bR aa<|Wk.aO J<|bX.get (i:=0) a1.cI.2 ab) G<|lq 7 aa ag (fun w' J=>oK qU oV jb (dq.md (a3) J id) aa aa (⟨_,aa⟩)<|a4<|r.getD 0 []) G<|lq 8 aa ag (fun _ _=>bE ((seen.count (r.getD 0 [])+1:Nat):Int) aa aa<|bj ab ab) G<|dG 9 aa ag ag<|tP qU jb (a3.wk G) aa aa aa (⟨_,aa⟩) fun bc bu bB=> ?_
 have aD:=ib bu
 have bD:dx bc w.heap.size (⟨A,I,U,Y,M,(bG s).length+1⟩:dp) F' bp rows' ln' (seen++ [r.getD 0 []]):=dx.Le ah aD bB<|Lf _ a4
 have br:=dP.ms aX ah aD
 have b0:=b1.mw aX ah<|fu.ms ah aD
 have d8:=qG ac
 have G:St bc w.heap.size (⟨A,I,U,Y,M,(bG s).length+1⟩:dp) F' rows' ln' (seen++ [r.getD 0 []]):=⟨_,_,br,bD,⟨ap.len,by rw [bI,eW]; omega,ap.row,ap.kd,ap.al⟩⟩
 have b7:=I9 bo ac
 have bY:=yC bl ac
 exact eL ag<|bn<|tn<|⟨_,by simp only [cM]; have :=qG ac; omega,k - 1,F',rows',ln',seen++ [r.getD 0 []],a2.1,a2.2,G,b7,bY,b0,aa,aa,aa,aa,aa⟩
 obtain rfl :rows= []:=by
  cases rows with
  | nil=>rfl
  | cons q rest=>exact absurd (by simp only [cM]; omega) bQ
 rw [vJ] at aj
 refine ext<|te _<|te _<|be<|eN<|eU<|fj<|rg aa<|p (aT (.pointer<|some ⟨A,0,none⟩) aa) ?_
 refine eP aa (dN QJ (QV w.heap.size (⟨A,I,U,Y,M,(bG s).length+1⟩:dp) F [] ln seen bb ⟨_,_,O,au,aN⟩ bl.2) aa fun fh cN dE=> ?_) (fun c w' ae aV co=>by
  obtain ⟨q,b2,rfl,bv⟩:=ae
  exact rW aa az ((co 2<|.head _).trans aa) ((co 3<|.tail _<|.head _).trans aa) (bZ.mw O au bv) (Af an aj.symm b2))
 obtain ⟨rfl,dX,⟨cT,eD,ff,cp,dI⟩,bv⟩:=dE
 have aU:=bZ.mw O au bv
 have eZ:=aU.lo
 refine nl<|eN<|eU<|fj<|rg aa<|p (aT (.pointer<|some ⟨A,0,none⟩) aa)<|p (nc aa)<|p (fa gY aa)<|p (ld fZ aa<|(a6 dI.cells).trans aa)<|p (cO (ps:= []) (L:= [.int .i64 0,.int .i64 0,.int .i64 0]) tH aa<|aa)<|e<|cV Bo aa aa (v:= .pointer<|some ⟨I,0,none⟩) aa aU.c2 az fun fr cs c1=>e<|gi jT aa aa aa aa (cs.aJ aU.c3 fun h=>by omega) az fun ep ct c4=> ?_
 have cu:Md (fun k=>k=aK∨k=aL) cN ep:=(cs.mono fun _ _ h=> .inl h).trans' ct fun _ _ h=> .inr h
 refine nl<|eN<|rY ?_
 have cA:TF cN [62,49] (fun k=>k=aK∨k=aL):=TF.or (TF.eq (dt aU.c2) az)<|TF.eq (dt aU.c3) az
 obtain ⟨eF,dY,_⟩:=cp.cm
 have dl:=cp.md cu cA az<|cA.no (ez dY) az
 exact Xd aa az aa aa (ct.aJ c1 fun h=>by omega) c4 aa (fun w' hm=>by
  unfold pq
  rw [E8 an aj.symm dX]
  exact ⟨⟨I,M,cT,aa,dl.wk hm,⟨seen,aN⟩,bl⟩,(aU.wk.trans' cu fun k hk h=>by omega).trans hm⟩)
end Go.Hb.kH
end
section
set_option maxRecDepth 20000
set_option maxHeartbeats 1000000
namespace Go.Hb.j4
open Go.Hb.dT
open Go.Proofs
open Go.Hb.fq Go.Hb.fQ Go.Hb.gn Go.Hb.iK Go.Hb.iM
def lF (F:aR) (V:eX):List Value:= [.int .i64 (F.kind:Nat),str F.rE,str F.tr,bc (F.sp.getD 0 0),bc (F.sp.getD 1 0),bc (F.sp.getD 2 0),bc (F.sp.getD 3 0),bc (F.sp.getD 4 0),.int .i64 (F.least:Nat),V.v9,V.v10,V.v11,V.v12]
structure ph (w:World) (B:Nat) (F:aR) (V:eX):Prop where
 o9:bo w B 128 2 V.v9 F.dd.length (kU F.dd)
 eO:bo w B 70 1 V.v10 F.aliases.length V.sa
 al:ek w B 51 V.sa F.aliases
 ej:bo w B 131 5 V.v11 F.bp.length (m7 F.bp)
 dB:bo w B 77 7 V.v12 F.rules.length (iQ<|F.rules.zip V.rn)
 nx:ek w B 51 V.rn (F.rules.map (·.next))
theorem Ao {w:World} {B e:Nat} {vs:List Value} {A:List (List Nat)} (h:ek w B e vs A):vs.all gz=true :=by
 rw [me]
 intro v q
 obtain ⟨i,hi⟩:=wT q
 have h1:=(fJ.1 hi).1
 obtain ⟨u,hu,j⟩:=ek.get h (i:=i)<|by rw [← h.1]; exact h1
 rw [hi] at hu; cases hu
 obtain ⟨a,c,rfl⟩:=j.slice; rfl
theorem XJ {w:World} {B e:Nat} {rs:List c8} {vs:List Value} {j:List (List Nat)} (h:ek w B e vs j):(iQ<|rs.zip vs).all gz=true :=by
 rw [me]
 intro v a
 obtain ⟨q,i,a⟩:=List.mem_flatMap.1 a
 have h1:=me.1 (Ao h) q.2 (List.of_mem_zip i).2
 simp only [fk,gl,ur,or_false] at a
 rcases a with rfl | rfl | rfl | rfl | rfl | rfl | rfl <;> first | rfl | exact h1
theorem XK {rs:List c8} {vs:List Value} {i:Nat} {v:Value} (hi:i < rs.length) (E:i < vs.length):(iQ<|rs.zip vs).set (i*7 +6) v=iQ (rs.zip<|vs.set i v):=by
 obtain ⟨r,C⟩:∃ r,rs[i]? =some r:=⟨_,cz hi⟩
 obtain ⟨u,hu⟩:∃ u,vs[i]? =some u:=⟨_,cz E⟩
 have G:(rs.zip vs)[i]? =some (r,u):=jx.2 ⟨C,hu⟩
 have O:rs.zip (vs.set i v)=(rs.zip vs).set i (r,v):=by
  apply p8
  intro j
  rw [kX]
  by_cases A:i=j
  · subst A
    rw [if_pos rfl,if_pos (fJ.1 G).1]
    exact jx.2 ⟨C,by simp [E]⟩
  · rw [if_neg A]
    cases h1:(rs.zip vs)[j]? with
    | none=>
      rw [List.getElem?_eq_none_iff,zY] at h1 ⊢
      rw [wX]; exact h1
    | some q=>
      have h2:=jx.1 h1
      exact jx.2 ⟨h2.1,by rw [kX,if_neg A]; exact h2.2⟩
 have U:(rs.zip vs).length=min rs.length vs.length:=zY
 have a:(iQ<|rs.zip vs).length=(rs.zip vs).length*7:=oH (f:=fk) (m:=7) (fun _=>rfl) _
 rw [O,show iQ ((rs.zip vs).set i (r,v))=(iQ<|rs.zip vs).take (i*7)++fk (r,v)++(iQ<|rs.zip vs).drop (i*7 +7) from Ia (f:=fk) (m:=7) (fun _=>rfl) _ ab]
 apply p8
 intro j
 have I:=fun c a=>BO (f:=fk) (m:=7) (fun _=>rfl) (c:=c) G a
 have J:∀ c,c < 7→(iQ<|rs.zip vs)[i*7 +c]? =(fk (r,u))[c]? :=fun c h=>I c h
 have M:((iQ<|rs.zip vs).take<|i*7).length=i*7:=by rw [dO,a]; omega
 rw [kX]
 by_cases h1:j < i*7
 · rw [if_neg ab,dC,mg ab,List.getElem?_take,if_pos h1]
 · rw [dC,mT ab,M]
   by_cases h2:j < i*7 +7
   · rw [mg (by show _ < 7; omega)]
     obtain ⟨c,rfl⟩:∃ c,j=i*7 +c:=⟨j - i*7,ab⟩
     have h3:c < 7:=ab
     rw [J c h3,show i*7 +c - i*7=c by omega]
     match c,h3 with
     | 0,_=>rw [if_neg ab]; rfl
     | 1,_=>rw [if_neg ab]; rfl
     | 2,_=>rw [if_neg ab]; rfl
     | 3,_=>rw [if_neg ab]; rfl
     | 4,_=>rw [if_neg ab]; rfl
     | 5,_=>rw [if_neg ab]; rfl
     | 6,_=>rw [if_pos rfl,if_pos ab]; rfl
   · rw [if_neg ab,mT (by show 7≤_; omega),show (fk (r,v)).length=7 from rfl,List.getElem?_drop]
     congr 1; omega
theorem nY {l:List (c8×Value)} {i:Nat} {q:c8×Value} (h:l[i]? =some q):iQ l≠[]:=fun h2=>by
 have h3:(iQ l).length=l.length*7:=oH (f:=fk) (m:=7) (fun _=>rfl) _
 have h4:=(fJ.1 h).1
 rw [h2] at h3
 have h5:0=l.length*7:=h3
 omega
theorem Av {F:aR} {V:eX} (A:V.v9.oneCell'=true) (i:V.v10.oneCell'=true) (j:V.v11.oneCell'=true) (q:V.v12.oneCell'=true):(lF F V).all gz=true :=by
 rw [me]
 intro v a
 simp only [lF,gl,ur,or_false] at a
 rcases a with rfl | rfl | rfl | rfl | rfl | rfl | rfl | rfl | rfl | rfl | rfl | rfl | rfl <;> first | rfl | assumption
theorem OJ {w:World} {B fb mc:Nat} {F:aR} {V:eX} (h:dP w B fb mc F V):(lF F V).all gz=true :=Av (eH h.o9) (eH h.eO) (eH h.ej)<|eH h.dB
theorem Bw {α:Type} {l m:List α} {i:Nat} (h:l.drop i=m.drop i):l[i]? =m[i]? :=by
 have h1:=congrArg (·[0]?) h
 simpa using h1
theorem Dv {α:Type} {l:List α} {i:Nat} {x:α} (h:i < l.length):(l.set i x).take (i+1)=l.take i++ [x]:=by
 rw [List.take_add_one,List.take_set_of_le (cj i)]; simp [h]
theorem set_drop {α:Type} {l m:List α} {i:Nat} {x:α} (h:l.drop i=m.drop i):(l.set i x).drop (i+1)=m.drop (i+1):=by
 rw [List.drop_set_of_lt (Nat.lt_succ_self i),show i.succ=i+1 from rfl]
 simpa [List.drop_drop] using congrArg (List.drop 1) h
theorem Fo {w:World} {B e i:Nat} {vs:List Value} {a:List (List Nat)} {v:Value} (h:ek w B e (vs.take i) (a.take i)) (hi:i < a.length) (q:i < vs.length) (j:Tg w B e (a.getD i []).length v ((a.getD i []).map bc)):ek w B e ((vs.set i v).take<|i+1) (a.take<|i+1):=by
 rw [Dv q,fD a i [] hi]; exact h.snoc j
theorem Ra (a:Option Addr) (n c:Nat) (xs:List Value) (w:World) (J:aI w.heap a xs) (ac:xs.length=n*2) (U:a=none→n=0) (h1:xs.all gz=true) (hn:n≤1048576):
 bh ay 48 (ba [.slice a n c]) w (fun ag w'=>bo w' w.heap.size 128 2 ag n xs∧Wk w w'):=by
 refine enter func48 aa ntmps48 aa<|aj fun _ C=>aw<|C _ _<|sq fun _ E=>aj fun _ G=>ak (.slice a n c)<|p (ta Y5 aa aa)<|aE<|G _ _<|cb aa (fun q=> ?_) fun q=> ?_
 have V:a=none:=by simpa using q
 refine aj fun _ i=>aw<|i _ _<|rt<|tr<|f1 aa aa ?_
 have Y:=U V
 subst Y
 obtain rfl :=fO (show xs.length=0 by omega)
 exact ⟨du _ _ _ _,Md.refl _ _⟩
 refine aM<|tn<|E _ _<|aj fun _ i=>e<|m5 y9 fun al aq am j I=> ?_
 have A:=I w.heap.size ab
 refine ak (.slice a n c)<|e<|ap y9 (A) aa (by have :=j.size; omega) aa (J.wk j.md) (ac) (h1) ab ab fun ah ai Z O ao an=> ?_
 have M:=Wk.own j.md A O<|cj _
 refine aw<|i _ _<|rt<|f1 aa aa ?_
 have ae:bo ai w.heap.size 128 2 ah n xs:=by simpa using Z
 exact ⟨ae,M⟩
theorem Q9 (v:Value) (n:Nat) (xs:List Value) (w:World) (q:Rd w.heap v n 2 xs) (h1:xs.all gz=true) (hn:n≤1048576):bh ay 48 [v].toArray w (fun v w'=>bo w' w.heap.size 128 2 v n xs∧Wk w w'):=by
 obtain ⟨a,c,rfl,i,A,j⟩:=q
 exact Ra a n c xs w i A j h1 hn
theorem Q6 (a:Option Addr) (n c:Nat) (xs:List Value) (w:World) (J:aI w.heap a xs) (ac:xs.length=n*5) (U:a=none→n=0) (h1:xs.all gz=true) (hn:n≤1048576):
 bh ay 49 (ba [.slice a n c]) w (fun ag w'=>bo w' w.heap.size 131 5 ag n xs∧Wk w w'):=by
 refine enter func49 aa ntmps49 aa<|aj fun _ C=>aw<|C _ _<|sq fun _ E=>aj fun _ G=>ak (.slice a n c)<|p (ta L7 aa aa)<|aE<|G _ _<|cb aa (fun q=> ?_) fun q=> ?_
 have V:a=none:=by simpa using q
 refine aj fun _ i=>aw<|i _ _<|rt<|tr<|f1 aa aa ?_
 have Y:=U V
 subst Y
 obtain rfl :=fO (show xs.length=0 by omega)
 exact ⟨du _ _ _ _,Md.refl _ _⟩
 refine aM<|tn<|E _ _<|aj fun _ i=>e<|m5 zd fun al aq am j I=> ?_
 have A:=I w.heap.size ab
 refine ak (.slice a n c)<|e<|ap zd (A) aa (by have :=j.size; omega) aa (J.wk j.md) (ac) (h1) ab ab fun ah ai Z O ao an=> ?_
 have M:=Wk.own j.md A O<|cj _
 refine aw<|i _ _<|rt<|f1 aa aa ?_
 have ae:bo ai w.heap.size 131 5 ah n xs:=by simpa using Z
 exact ⟨ae,M⟩
theorem Q5 (v:Value) (n:Nat) (xs:List Value) (w:World) (q:Rd w.heap v n 5 xs) (h1:xs.all gz=true) (hn:n≤1048576):bh ay 49 [v].toArray w (fun v w'=>bo w' w.heap.size 131 5 v n xs∧Wk w w'):=by
 obtain ⟨a,c,rfl,i,A,j⟩:=q
 exact Q6 a n c xs w i A j h1 hn
theorem Rf (a:Option Addr) (n c:Nat) (xs:List Value) (w:World) (J:aI w.heap a xs) (ac:xs.length=n*1) (U:a=none→n=0) (h1:xs.all gz=true) (hn:n≤1048576):
 bh ay 50 (ba [.slice a n c]) w (fun ag w'=>bo w' w.heap.size 70 1 ag n xs∧Wk w w'):=by
 refine enter func50 aa ntmps50 aa<|aj fun _ C=>aw<|C _ _<|sq fun _ E=>aj fun _ G=>ak (.slice a n c)<|p (ta zt aa aa)<|aE<|G _ _<|cb aa (fun q=> ?_) fun q=> ?_
 have V:a=none:=by simpa using q
 refine aj fun _ i=>aw<|i _ _<|rt<|tr<|f1 aa aa ?_
 have Y:=U V
 subst Y
 obtain rfl :=fO (show xs.length=0 by omega)
 exact ⟨du _ _ _ _,Md.refl _ _⟩
 refine aM<|tn<|E _ _<|aj fun _ i=>e<|m5 zb fun al aq am j I=> ?_
 have A:=I w.heap.size ab
 refine ak (.slice a n c)<|e<|ap zb (A) aa (by have :=j.size; omega) aa (J.wk j.md) (ac) (h1) ab ab fun ah ai Z O ao an=> ?_
 have M:=Wk.own j.md A O<|cj _
 refine aw<|i _ _<|rt<|f1 aa aa ?_
 have ae:bo ai w.heap.size 70 1 ah n xs:=by simpa using Z
 exact ⟨ae,M⟩
theorem Re (v:Value) (n:Nat) (xs:List Value) (w:World) (q:Rd w.heap v n 1 xs) (h1:xs.all gz=true) (hn:n≤1048576):bh ay 50 [v].toArray w (fun v w'=>bo w' w.heap.size 70 1 v n xs∧Wk w w'):=by
 obtain ⟨a,c,rfl,i,A,j⟩:=q
 exact Rf a n c xs w i A j h1 hn
theorem Rc (a:Option Addr) (n c:Nat) (xs:List Value) (w:World) (J:aI w.heap a xs) (ac:xs.length=n*7) (U:a=none→n=0) (h1:xs.all gz=true) (hn:n≤1048576):
 bh ay 52 (ba [.slice a n c]) w (fun ag w'=>bo w' w.heap.size 77 7 ag n xs∧Wk w w'):=by
 refine enter func52 aa ntmps52 aa<|aj fun _ C=>aw<|C _ _<|sq fun _ E=>aj fun _ G=>ak (.slice a n c)<|p (ta vX aa aa)<|aE<|G _ _<|cb aa (fun q=> ?_) fun q=> ?_
 have V:a=none:=by simpa using q
 refine aj fun _ i=>aw<|i _ _<|rt<|tr<|f1 aa aa ?_
 have Y:=U V
 subst Y
 obtain rfl :=fO (show xs.length=0 by omega)
 exact ⟨du _ _ _ _,Md.refl _ _⟩
 refine aM<|tn<|E _ _<|aj fun _ i=>e<|m5 ze fun al aq am j I=> ?_
 have A:=I w.heap.size ab
 refine ak (.slice a n c)<|e<|ap ze (A) aa (by have :=j.size; omega) aa (J.wk j.md) (ac) (h1) ab ab fun ah ai Z O ao an=> ?_
 have M:=Wk.own j.md A O<|cj _
 refine aw<|i _ _<|rt<|f1 aa aa ?_
 have ae:bo ai w.heap.size 77 7 ah n xs:=by simpa using Z
 exact ⟨ae,M⟩
theorem Rb (v:Value) (n:Nat) (xs:List Value) (w:World) (q:Rd w.heap v n 7 xs) (h1:xs.all gz=true) (hn:n≤1048576):bh ay 52 [v].toArray w (fun v w'=>bo w' w.heap.size 77 7 v n xs∧Wk w w'):=by
 obtain ⟨a,c,rfl,i,A,j⟩:=q
 exact Rc a n c xs w i A j h1 hn
theorem Q8 (a:Option Addr) (n c:Nat) (xs:List Value) (w:World) (J:aI w.heap a xs) (ac:xs.length=n*2) (U:a=none→n=0) (h1:xs.all gz=true) (hn:n≤1048576):
 bh ay 90 (ba [.slice a n c]) w (fun ag w'=>bo w' w.heap.size 72 2 ag n xs∧Wk w w'):=by
 refine enter func90 aa ntmps90 aa<|aj fun _ C=>aw<|C _ _<|sq fun _ E=>aj fun _ G=>ak (.slice a n c)<|p (ta zu aa aa)<|aE<|G _ _<|cb aa (fun q=> ?_) fun q=> ?_
 have V:a=none:=by simpa using q
 refine aj fun _ i=>aw<|i _ _<|rt<|tr<|f1 aa aa ?_
 have Y:=U V
 subst Y
 obtain rfl :=fO (show xs.length=0 by omega)
 exact ⟨du _ _ _ _,Md.refl _ _⟩
 refine aM<|tn<|E _ _<|aj fun _ i=>e<|m5 zf fun al aq am j I=> ?_
 have A:=I w.heap.size ab
 refine ak (.slice a n c)<|e<|ap zf (A) aa (by have :=j.size; omega) aa (J.wk j.md) (ac) (h1) ab ab fun ah ai Z O ao an=> ?_
 have M:=Wk.own j.md A O<|cj _
 refine aw<|i _ _<|rt<|f1 aa aa ?_
 have ae:bo ai w.heap.size 72 2 ah n xs:=by simpa using Z
 exact ⟨ae,M⟩
theorem Q7 (v:Value) (n:Nat) (xs:List Value) (w:World) (q:Rd w.heap v n 2 xs) (h1:xs.all gz=true) (hn:n≤1048576):bh ay 90 [v].toArray w (fun v w'=>bo w' w.heap.size 72 2 v n xs∧Wk w w'):=by
 obtain ⟨a,c,rfl,i,A,j⟩:=q
 exact Q8 a n c xs w i A j h1 hn
theorem Ai (B fb mc:Nat) (F:aR) (V:eX) (w:World) (aK:dP w B fb mc F V) (dT:F.dd.length+F.aliases.length+F.bp.length+F.rules.length≤70000) (bV:Nx F):
 bh ay 20 (ba [aQ fb]) w (fun v w'=>(∃ bw,v= .agg (lF F bw).toArray∧ph w' w.heap.size F bw)∧Wk w w'):=by
 refine enter func20 aa ntmps20 aa<|aj fun _ cm=>e<|ga MF fun bd ac dU bi bC=> ?_
 have dY:=bi.size
 have am:=aK.wk bi.md
 refine aE<|cm _ _<|sq fun _ cu=>aj fun _ cv=>ak (aQ fb)<|p (lY vY aa aa)<|nl<|tn<|cv _ _<|cf (aa)<|aM<|tn<|cu _ _<|aj fun _ cx=>ak (aQ fb)<|p (nc aa)<|p (fa gC aa)<|p (cT Am aa (aa) (show ∀ j,j < 13→Hb.aO ac.heap fb (0 +j)=(lF F V)[j]? from fun j aV=>(a6 am.cells).trans<|by match j,aV with | 0,_=>rfl | 1,_=>rfl | 2,_=>rfl | 3,_=>rfl | 4,_=>rfl | 5,_=>rfl | 6,_=>rfl | 7,_=>rfl | 8,_=>rfl | 9,_=>rfl | 10,_=>rfl | 11,_=>rfl | 12,_=>rfl))<|e<|ga MF fun Z E dV bM cJ=> ?_
 have d1:=bM.size
 refine e<|gi Bn aa aa aa (OJ am) cJ az fun a3 bK cK=> ?_
 have bD:Wk ac a3:=bM.md.trans' bK fun q a h=>by omega
 have d2:=bK.size
 have cU:=am.wk bD
 have aP:a3.heap[Z]? =some (.cells (lF F ⟨V.v9,V.v10,V.v11,V.v12,V.sa,V.rn⟩).toArray 58 (0,0)):=cK
 refine aE<|cx _ _<|aj fun _ cy=>p (fa yu aa)<|p (ld Fg aa<|(a6 aP).trans aa)<|e<|cl Qr (Q9 V.v9 F.dd.length (kU F.dd) a3 (Rd.jN cU.o9) (H9 (fun _=>rfl) _) ab) aa fun U cg cX=> ?_
 obtain ⟨bY,bf⟩:=cX
 have dX:=bf.size
 have b0:=ep bY (show E.heap.size≤a3.heap.size by omega)
 refine p (fa yu aa)<|e<|cV G8 aa aa (v:=U) (eH bY) (bf.aJ aP) (by show _ < 13; omega) fun a4 bg cL=> ?_
 have bG:Wk ac a4:=(bD.trans bf).trans' bg fun q a h=>by omega
 have d3:=bg.size
 have cW:=am.wk bG
 have b1:=db b0 bg fun q a h=>by have :=(dI b0 a).1; omega
 have bQ:a4.heap[Z]? =some (.cells (lF F ⟨U,V.v10,V.v11,V.v12,V.sa,V.rn⟩).toArray 58 (0,0)):=cL
 refine aE<|cy _ _<|aj fun _ cA=>p (fa tv aa)<|p (ld xv aa<|(a6 bQ).trans aa)<|e<|cl Qs (Q5 V.v11 F.bp.length (m7 F.bp) a4 (Rd.jN cW.ej) (H9 (fun _=>rfl) _) ab) aa fun v20 ea cY=> ?_
 obtain ⟨b3,aA⟩:=cY
 have dZ:=aA.size
 have b4:=ep b3 (show E.heap.size≤a4.heap.size by omega)
 refine p (fa tv aa)<|e<|cV Ha aa aa (v:=v20) (eH b3) (aA.aJ bQ) (by show _ < 13; omega) fun a5 aN cM=> ?_
 have bH:Wk ac a5:=(bG.trans aA).trans' aN fun q a h=>by omega
 have d5:=aN.size
 have bJ:=am.wk bH
 have b2:=db (aU b1 aA) aN fun q a h=>by have :=(dI (aU b1 aA) a).1; omega
 have b5:=db b4 aN fun q a h=>by have :=(dI b4 a).1; omega
 have bR:a5.heap[Z]? =some (.cells (lF F ⟨U,V.v10,v20,V.v12,V.sa,V.rn⟩).toArray 58 (0,0)):=cM
 refine aE<|cA _ _<|aj fun _ cB=>p (fa pM aa)<|p (ld rA aa<|(a6 bR).trans aa)<|e<|cl Qt (Re V.v10 F.aliases.length V.sa a5 (Rd.jN bJ.eO) (Ao bJ.al) ab) aa fun v24 eb cZ=> ?_
 obtain ⟨b6,ao⟩:=cZ
 have d0:=ao.size
 have b7:=ep b6 (show E.heap.size≤a5.heap.size by omega)
 refine p (fa pM aa)<|e<|cV G9 aa aa (v:=v24) (eH b6) (ao.aJ bR) (by show _ < 13; omega) fun cj aC cN=> ?_
 have cS:Wk ac cj:=(bH.trans ao).trans' aC fun q a h=>by omega
 have d6:=aC.size
 have dq:=db (aU b2 ao) aC fun q a h=>by have :=(dI (aU b2 ao) a).1; omega
 have dj:=db (aU b5 ao) aC fun q a h=>by have :=(dI (aU b5 ao) a).1; omega
 have bW:=db b7 aC fun q a h=>by have :=(dI b7 a).1; omega
 have bS:cj.heap[Z]? =some (.cells (lF F ⟨U,v24,v20,V.v12,V.sa,V.rn⟩).toArray 58 (0,0)):=cN
 obtain ⟨ae,ah,rfl⟩:=cw bW
 have dJ:=aK.al.1
 refine aE<|cB _ _<|sq fun _ cC=>aj fun _ cD=>p (fa pM aa)<|p (ld rA aa<|(a6 bS).trans aa)<|p (bF zt aa aa)<|p mv<|aE<|cD _ _<|aJ<|lp (fun ax av G=> ∃ (i:Nat) (sa:List Value),(i≤F.aliases.length)∧(sa.length=F.aliases.length)∧(sa.drop i=V.sa.drop i)∧(ek G E.heap.size 51 (sa.take i)<|F.aliases.take i)∧(bo G E.heap.size 70 1 (.slice ae F.aliases.length ah) F.aliases.length<|sa)∧(bo G E.heap.size 128 2 (U) F.dd.length<|kU F.dd)∧(bo G E.heap.size 131 5 (v20) F.bp.length<|m7 F.bp)∧(G.heap[Z]? =some (.cells (lF F ⟨U,.slice ae F.aliases.length ah,v20,V.v12,V.sa,V.rn⟩).toArray 58 (0,0)))∧(Wk ac G)∧(E.heap.size≤G.heap.size)∧(av 2=aQ bd)∧(av 3=aQ Z)∧(av 27= .slice ae F.aliases.length ah)∧(av 28=au (F.aliases.length))∧(av 29=au i)∧(F.aliases.length - i=ax)) _ ⟨0,V.sa,ab,dJ,aa,(ek.nil _ _ _),bW,dq,dj,bS,cS,(ab),aa,aa,aa,aa,aa,aa⟩ ?_
 rintro ax av G ⟨i,sa,hi,aF,cb,bm,O,a1,aZ,aD,aH,d7,dw,dA,dx,dy,dz,rfl⟩
 refine fx 2 dw<|fx 3 dA<|fx 27 dx<|fx 28 dy<|fx 29 dz<|aj fun _ cn=>p (lt aa aa)<|aE<|cn _ _<|sq fun _ co=>cd aa (fun aP=> ?_) fun aP=> ?_
 refine aM<|tn<|co _ _<|sq fun _ a8=>aJ<|sq fun _ a9=> ?_
 obtain ⟨d9,dL,bk⟩:=ek.get (am.wk aH).al (show i < F.aliases.length by omega)
 obtain ⟨cE,ci,rfl⟩:=bk.slice
 refine rg aa<|ak (au i)<|p (a7 BA aa aa ab<|aI.ok ((aX O).2) fun h=>by rw [h] at aF; simp at aF; omega)<|p (ld mZ aa<|aI.gG (aX O).2<|(Bw cb).trans dL)<|p (cH (au i) aa)<|aw<|a9 _ _ ?_
 have an:(fun w'=>Wk G w') G.drew:=(Md.refl _ _).drew
 refine eM (fun w'=>Wk G w') 6 aa wide an<|lq 0 aa ag (fun _ _=>fa pM aa) an<|lq 1 aa ag (fun w' ar=>ld rA aa<|Wk.aO ar<|(a6 aD).trans aa) an<|lq 2 aa ag (fun _ _=>aT (au i) aa) an<|lq 3 aa ag (fun _ _=>mv) an<|gL 4 aa ag<|cl rD (sY cE (F.aliases.getD i []).length ci ((F.aliases.getD i []).map bc) G.drew (aI.wk bk.cI.2 an) (by simp) (fun h=>Tg.tB bk (by simp) h) (sQ _)<|by have :=bV.1 _ (dQ (d:= []) (show i < F.aliases.length by omega)); omega) aa fun dN ch c0=> ?_
 obtain ⟨bs,bE⟩:=c0
 have I:Wk G ch:=an.trans bE
 have c3:=I
 have bN:(fun w'=>Wk G w') ch:=an.trans bE
 refine ⟨bN,?_⟩
 refine lq 5 aa ag (fun _ _=>a7 BA aa aa ab<|aI.ok ((aX O).2) fun h=>by rw [h] at aF; simp at aF; omega) bN<|dG 6 aa ag ag<|tI (j:=i) (aU O I) s6 aa aa (eH bs) (by simp) ab fun dR ap de=> ?_
 have cO:Wk ac dR:=Wk.own (aH.trans I) (aU O I) ap ab
 have dl:=db (ep bs (show E.heap.size≤G.heap.size by omega)) ap fun q a=>mG bs (aU O I) az a
 have c5:=(bm.wk I).md ap<|hU (aU O I) az
 have dn:=db (aU a1 I) ap fun q a=>mG (aU a1 I) (aU O I) az a
 have dh:=db (aU aZ I) ap fun q a=>mG (aU aZ I) (aU O I) az a
 have c9:=ap.aJ (Wk.aJ I aD) fun h=>by have :=(dI (aU O I) h).1; omega
 exact eL ag<|bn<|tn<|a8 _ _<|rg aa<|p (ad aa aa<|bT ab)<|p mv<|aE<|⟨_,ab,i+1,sa.set i dN,ab,(by rw [wX]; exact aF),(set_drop cb),(Fo c5 ab ab<|Tg.jN dl),de,dn,dh,c9,cO,(by have :=c3.size; have :=ap.size; omega),aa,aa,aa,aa,aa,aa⟩
 refine ext<|te _<|te _<|be<|tn<|cC _ _<|aj fun _ a8=>p (fa nP aa)<|p (ld lU aa<|(a6 aD).trans aa)<|e<|cl Qu (Rb V.v12 F.rules.length (iQ<|F.rules.zip V.rn) G (Rd.jN (am.wk aH).dB) (XJ aK.nx) ab) aa fun cc ec c1=> ?_
 obtain ⟨b8,Y⟩:=c1
 have d4:=Y.size
 have b9:=ep b8 (show E.heap.size≤G.heap.size by omega)
 rw [eI ab,eI ab] at bm
 refine p (fa nP aa)<|e<|cV Hc aa aa (v:=cc) (eH b8) (Wk.aJ Y aD) (by show _ < 13; omega) fun ce aq cF=> ?_
 have cP:Wk ac ce:=(aH.trans Y).trans' aq fun q a h=>by omega
 have dW:=aq.size
 have dr:=db (aU a1 Y) aq fun q a h=>by have :=(dI (aU a1 Y) a).1; omega
 have dg:=db (aU O Y) aq fun q a h=>by have :=(dI (aU O Y) a).1; omega
 have dk:=db (aU aZ Y) aq fun q a h=>by have :=(dI (aU aZ Y) a).1; omega
 have bX:=db b9 aq fun q a h=>by have :=(dI b9 a).1; omega
 have c7:=(bm.wk Y).md aq<|fg (Wk.aJ Y aD) az
 have bP:ce.heap[Z]? =some (.cells (lF F ⟨U,.slice ae F.aliases.length ah,v20,cc,V.sa,V.rn⟩).toArray 58 (0,0)):=cF
 obtain ⟨a12,ks,rfl⟩:=cw bX
 have du:V.rn.length=F.rules.length:=by have :=aK.nx.1; rwa [fE] at this
 refine aE<|a8 _ _<|sq fun _ a9=>aj fun _ cp=>p (fa nP aa)<|p (ld lU aa<|(a6 bP).trans aa)<|p (bF vX aa aa)<|p mv<|aE<|cp _ _<|aJ<|lp (fun ax aG C=> ∃ (i:Nat) (rn:List Value),(i≤F.rules.length)∧(rn.length=F.rules.length)∧(rn.drop i=V.rn.drop i)∧(ek C E.heap.size 51 (rn.take i)<|(F.rules.map (·.next)).take i)∧(bo C E.heap.size 77 7 (.slice a12 F.rules.length ks) F.rules.length<|iQ<|F.rules.zip rn)∧(bo C E.heap.size 128 2 (U) F.dd.length<|kU F.dd)∧(bo C E.heap.size 70 1 (.slice ae F.aliases.length ah) F.aliases.length<|sa)∧(ek C E.heap.size 51 sa F.aliases)∧(bo C E.heap.size 131 5 (v20) F.bp.length<|m7 F.bp)∧(C.heap[Z]? =some (.cells (lF F ⟨U,.slice ae F.aliases.length ah,v20,.slice a12 F.rules.length ks,V.sa,V.rn⟩).toArray 58 (0,0)))∧(Wk ac C)∧(E.heap.size≤C.heap.size)∧(aG 2=aQ bd)∧(aG 3=aQ Z)∧(aG 47=au (F.rules.length))∧(aG 48=au i)∧(F.rules.length - i=ax)) _ ⟨0,V.rn,ab,du,aa,(ek.nil _ _ _),bX,dr,dg,c7,dk,bP,cP,(ab),aa,aa,aa,aa,aa⟩ ?_
 rintro ax aG C ⟨i,rn,hi,dv,ca,br,J,a2,aY,bO,a0,aS,aB,d8,dC,dD,dE,dF,rfl⟩
 refine fx 2 dC<|fx 3 dD<|fx 47 dE<|fx 48 dF<|aj fun _ cq=>p (lt aa aa)<|aE<|cq _ _<|sq fun _ cr=>cd aa (fun c8=> ?_) fun c8=> ?_
 refine aM<|tn<|cr _ _<|sq fun _ bb=>aJ<|sq fun _ ct=> ?_
 obtain ⟨vn,dM,bl⟩:=ek.get (am.wk aB).nx (show i < (F.rules.map (·.next)).length by rw [fE]; omega)
 obtain ⟨bx,bA,rfl⟩:=bl.slice
 obtain ⟨q,bu⟩:∃ q,F.rules[i]? =some q:=⟨_,cz ab⟩
 have dt:(F.rules.map (·.next)).getD i []=q.next:=by rw [cQ,ic,bu]; rfl
 have ds:=bV.2 q<|iJ bu
 rw [← dt] at ds
 have bv:(F.rules.zip rn)[i]? =some (q,.slice bx ((F.rules.map (·.next)).getD i []).length bA):=jx.2 ⟨bu,(Bw ca).trans dM⟩
 refine rg aa<|ak (au i)<|p (cH (au i) aa)<|aE<|ct _ _ ?_
 have M:(fun w'=>Wk C w') C.drew:=(Md.refl _ _).drew
 refine eM (fun w'=>Wk C w') 12 aa wide M<|bq 0 aa (fun _=>fa nP aa) (fun _=>M)<|dH 1 aa (fun w' ar=>ld lU aa<|Wk.aO ar<|(a6 aS).trans aa) M<|bz 2 aa (au i) M<|bq 3 aa (fun _=>fa nP aa) (fun _=>M)<|dH 4 aa (fun w' ar=>ld lU aa<|Wk.aO ar<|(a6 aS).trans aa) M<|bz 5 aa (au i) M<|bq 6 aa (fun _=>a7 na aa aa ab<|aI.ok ((aX J).2)<|nY bv) (fun _=>M)<|bq 7 aa (fun _=>fa qC aa) (fun _=>M)<|dH 8 aa (fun w' ar=>ld mZ aa<|Wk.aO ar<|e9 (f:=fk) (m:=7) (fun _=>rfl) (aX J).2 bv 6 az) M<|gL 9 aa ag<|cl rD (sY bx ((F.rules.map (·.next)).getD i []).length bA (((F.rules.map (·.next)).getD i []).map bc) C.drew (aI.wk bl.cI.2 M) (by simp) (fun h=>Tg.tB bl (by simp) h) (sQ _) ab) aa fun dO ck c2=> ?_
 obtain ⟨bt,bI⟩:=c2
 have A:Wk C ck:=M.trans bI
 have c4:=A
 have bj:(fun w'=>Wk C w') ck:=M.trans bI
 refine ⟨bj,?_⟩
 refine bq 10 aa (fun _=>a7 na aa aa ab<|aI.ok ((aX J).2)<|nY bv) (fun _=>bj)<|bq 11 aa (fun _=>fa qC aa) (fun _=>bj)<|dG 12 aa ag ag<|tI (j:=i*7 +6) (aU J A) s6 aa aa (eH bt) (by rw [Int.toNat_natCast]; omega) ab fun cg ai bZ=> ?_
 rw [XK ab ab] at bZ
 have cR:Wk ac cg:=Wk.own (aB.trans A) (aU J A) ai ab
 have dm:=db (ep bt (show E.heap.size≤C.heap.size by omega)) ai fun q a=>mG bt (aU J A) az a
 have dc:=(br.wk A).md ai<|hU (aU J A) az
 have c6:=(bO.wk A).md ai<|hU (aU J A) az
 have dp:=db (aU a2 A) ai fun q a=>mG (aU a2 A) (aU J A) az a
 have df:=db (aU aY A) ai fun q a=>mG (aU aY A) (aU J A) az a
 have di:=db (aU a0 A) ai fun q a=>mG (aU a0 A) (aU J A) az a
 have da:=ai.aJ (Wk.aJ A aS) fun h=>by have :=(dI (aU J A) h).1; omega
 exact eL ag<|bn<|tn<|bb _ _<|rg aa<|p (ad aa aa<|bT ab)<|p mv<|aE<|⟨_,ab,i+1,rn.set i dO,ab,(by rw [wX]; exact dv),(set_drop ca),(Fo dc (by rw [fE]; omega) ab<|Tg.jN dm),bZ,dp,df,c6,di,da,cR,(by have :=c4.size; have :=ai.size; omega),aa,aa,aa,aa,aa⟩
 refine ext<|te _<|te _<|be<|tn<|a9 _ _<|aj fun _ bb=>p (cT Am aa (aa) (show ∀ j,j < 13→Hb.aO C.heap Z (0 +j)=(lF F ⟨U,.slice ae F.aliases.length ah,v20,.slice a12 F.rules.length ks,V.sa,V.rn⟩)[j]? from fun j aV=>(a6 aS).trans<|by match j,aV with | 0,_=>rfl | 1,_=>rfl | 2,_=>rfl | 3,_=>rfl | 4,_=>rfl | 5,_=>rfl | 6,_=>rfl | 7,_=>rfl | 8,_=>rfl | 9,_=>rfl | 10,_=>rfl | 11,_=>rfl | 12,_=>rfl))<|e<|gi Bn aa aa aa (Av (eH a2) (eH aY) (eH a0)<|eH J) (Wk.aJ aB bC) az fun dS aL cG=>aE<|bb _ _<|rt<|uV aa (dK (cs:=lF F ⟨U,.slice ae F.aliases.length ah,v20,.slice a12 F.rules.length ks,V.sa,V.rn⟩) aa Am aa fun j aV=>(bL.bB ⟨_,cG⟩ j).trans aa) ?_
 have aW:∀ {t s n:Nat} {v:Value} {xs:List Value},bo C E.heap.size t s v n xs→bo dS w.heap.size t s v n xs:=fun h=>ep (db h aL fun q a h2=>by have :=(dI h a).1; omega) ab
 rw [eI ab,eI (by rw [fE]; omega)] at br
 have bU:∀ k,k=bd→∀ cur z,C.heap[k]?≠some (.cells cur 51 z):=fg (Wk.aJ aB bC) az
 exact ⟨⟨⟨U,.slice ae F.aliases.length ah,v20,.slice a12 F.rules.length ks,sa,rn⟩,aa,⟨aW a2,aW aY,(bO.md aL bU).mono ab,aW a0,aW J,(br.md aL bU).mono ab⟩⟩,(bi.md.trans aB).trans' aL fun q a h=>by omega⟩
end Go.Hb.j4
end
section
set_option maxRecDepth 20000
set_option maxHeartbeats 1000000
namespace Go.Hb.kK
open Go.Hb.dT
open Go.Proofs
open Go.Hb.fq Go.Hb.fQ Go.Hb.gn Go.Hb.lQ Go.Hb.nA Go.Hb.jF Go.Hb.iK Go.Hb.kH Go.Hb.iM Go.Hb.j4 Go.Hb.oy Go.Hb.kn Go.Hb.xk Go.Hb.j5
noncomputable def k9 (r:List Tx):Nat×Int:=if r.length≠1 then (0,111) else dY (r.getD 0 []) 8192
def N8 (i w':World) (X:Except Nat bD) (v:Value):Prop :=(∃ x a,X= .ok x∧v= .tuple #[.agg [str x.1,a].toArray,.int .i64 (0:Nat)]∧bo w' i.heap.size 51 1 a x.2.length (x.2.map bc))∨(∃ e,X= .error e∧e≠0∧v= .tuple #[.agg [str [],.slice none 0 0].toArray,.int .i64 (e:Nat)])
theorem Kp {s:Tx} {i:Nat} (hi:i < s.length):(s.take<|i+1).drop i= [s.getD i 0]:=by
 rw [vO 0 (cj i) hi,gP (by rw [dO]; omega),List.nil_append]
theorem Mg (b:UInt8):pX [b]=iN b:=by unfold pX; rw [O2]; cases iN b <;> rfl
theorem Hj {F:aR} {x:Nat} (h:(dU F.bp x).isSome=true∨x∈F.sp):eB F x=true :=by
 unfold eB; rcases h with h | h
 · rw [h,Bool.or_true]
 · rw [decide_eq_true h]; rfl
theorem Sh {F:aR} {x:Nat} (h:(dU F.bp x).isSome=false) (h1:x∉F.sp):eB F x=false :=by
 unfold eB; rw [h,decide_eq_false h1]; rfl
theorem Yk {F:aR} (h:F.sp.length=5):[F.sp.getD 0 0,F.sp.getD 1 0,F.sp.getD 2 0,F.sp.getD 3 0,F.sp.getD 4 0]=F.sp:=by
 match F.sp,h with
 | [a,b,c,d,e],_=>rfl
theorem UU (a:Option Addr) (c:Nat) (l:List Nat) (x:Nat) (w:World) (E:aI w.heap a (l.map bc)) (ap:l.length≤1048576):
 bh ay 206 (ba [.slice a l.length c,bc x]) w (fun v w'=>(∃ k:Int,v= .int .i64 k∧(0≤k↔x∈l)∧ -1≤k∧k≤1048576)∧Wk w w'):=by
 refine enter func206 aa ntmps206 aa<|aj fun _ O=>aw<|O _ _<|sq fun _ U=>aj fun _ V=>ak (.slice a l.length c)<|p (bF oQ aa aa)<|p mv<|aE<|V _ _<|aJ<|lp (fun C q M=> ∃ (i:Nat),(i≤l.length)∧(∀ j,j < i→l.getD j 0≠x)∧(M=w)∧(q 0= .slice a l.length c)∧(q 1=bc x)∧(q 7=au (l.length))∧(q 8=au i)∧(l.length - i=C)) _ ⟨0,ab,(fun j I=>by omega),aa,aa,aa,aa,aa,aa⟩ ?_
 rintro C q M ⟨i,hi,J,ah,al,am,an,ao,rfl⟩
 refine fx 0 al<|fx 1 am<|fx 7 an<|fx 8 ao ?_
 subst ah
 refine aj fun _ Y=>p (lt aa aa)<|aE<|Y _ _<|sq fun _ Z=>cd aa (fun ai=> ?_) fun ai=> ?_
 refine aM<|tn<|Z _ _<|sq fun _ A=>aJ<|aj fun _ ac=>ak (au i)<|p (cH (au i) aa)<|aE<|ac _ _<|aj fun _ ae=>ak (bc x)<|ak (.slice a l.length c)<|ak (au i)<|p (a7 bV aa aa ab<|aI.ok (E)<|bP ab)<|p (ld cU aa<|aI.gG E (show (l.map bc)[i]? =some (bc<|l.getD i 0) by rw [ic,cQ,cz (by omega :i < l.length)]; rfl)) ?_
 refine p (bH aa aa)<|aE<|ae _ _<|cd aa (fun G=> ?_) fun G=> ?_
 exact aj fun _ ag=>ak (au i)<|p (cH (au i) aa)<|aE<|ag _ _<|rt<|br<|tr<|tr<|br<|tr<|f1 aa aa<|⟨⟨(i:Nat),aa,⟨fun _=>by obtain rfl :x=l.getD i 0:=ab; exact dQ ab,fun _=>by omega⟩,ab,ab⟩,Md.refl _ _⟩
 exact aM<|bn<|tn<|A _ _<|rg aa<|p (ad aa aa<|bT ab)<|p mv<|nl<|tn<|⟨_,ab,i+1,ab,(fun j I=>by rcases e8 j i with h | h <;> first | exact J j h | (rw [show j=i by omega]; exact fun h2=>G<|by rw [h2])),aa,aa,aa,aa,aa,aa⟩
 exact ext<|te _<|te _<|be<|tn<|U _ _<|aj fun _ A=>p aB<|aE<|A _ _<|rt<|f1 aa aa<|⟨⟨-1,aa,⟨fun h=>absurd h ab,fun h=>by obtain ⟨j,I,e⟩:=nU 0 h; exact absurd e<|J j ab⟩,ab,ab⟩,Md.refl _ _⟩
theorem RG (a:Option Addr) (c:Nat) (l:List Nat) (x:Nat) (w:World) (q:aI w.heap a (l.map bc)) (E:l.length≤1048576):
 bh ay 142 (ba [.slice a l.length c,bc x]) w (fun v w'=>v= .bool (decide (x∈l))∧Wk w w'):=by
 refine enter func142 aa ntmps142 aa<|aj fun _ i=>aw<|i _ _<|aj fun _ j=>ak (.slice a l.length c)<|ak (bc x)<|e<|cl PE (UU a c l x w q E) aa fun J M A=> ?_
 obtain ⟨⟨G,rfl,C,I⟩,hE7⟩:=A
 exact p (ge aa aa)<|aw<|j _ _<|rt<|f1 aa aa<|⟨by show bQ (decide (G≥0))=_; exact congrArg bQ (decide_eq_decide.2 C),hE7⟩
theorem s7 (ln er:Int) (w:World):
 bh ay 87 (ba [.int .i64 ln,.int .i64 er]) w (fun v w'=>v= .agg [.int .i64 2,.int .i64 ln,.int .i64 er].toArray∧Wk w w'):=by
 exact enter func87 aa ntmps87 aa<|aj fun _ a=>e<|al p5 fun I U J G C=>aE<|a _ _<|aj fun _ i=>ak (.int .i64 ln)<|ak (.int .i64 er)<|p (cO (ps:= [(0,.int .i64 2),(1,.int .i64 ln),(2,.int .i64 er)]) (L:= [.int .i64 2,.int .i64 ln,.int .i64 er]) tH aa<|aa)<|e<|cW jT aa aa aa aa (C) (by simp) fun V E A=>aE<|i _ _<|rt<|uV aa (dK (cs:= [.int .i64 2,.int .i64 ln,.int .i64 er]) aa k5 aa fun j M=>A.bB j)<|⟨aa,G.md.trans' E fun q O h=>by omega⟩
theorem Sv (n:Nat) (r:List Tx) (B:Nat) (a:Option Addr) (c:Nat) (w:World) (O:Tg w B 9 r.length (.slice a r.length c) (r.map str)) (V:∀ x∈r,x.length≤70000) (ae:r.length≤70000):
 bh ay 88 (ba [.agg [au n,.slice a r.length c].toArray]) w (fun v w'=>v= .tuple #[au ((k9 r).1),.int .i64 (k9 r).2]∧Wk w w'):=by
 refine enter func88 aa ntmps88 aa<|aj fun _ E=>e<|iV aa fun Z Y ac q A=> ?_
 have C:=O.wk q.md
 refine p aB<|aw<|E _ _<|sq fun _ G=>aj fun _ I=>p (fa vf aa)<|p (ld jR aa<|(A.aO 1).trans aa)<|p (bF eQ aa aa)<|p (cX aa aa)<|aE<|I _ _<|cd aa (fun U=> ?_) fun U=> ?_
 refine aj fun _ j=>p aB<|aw<|j _ _<|rt<|tr<|f2 aa aa aa ?_
 have h1:r.length≠1:=ab
 exact ⟨by unfold k9; rw [if_pos h1]; rfl,q.md⟩
 refine aM<|tn<|G _ _<|aj fun _ j=>p (fa vf aa)<|p (ld jR aa<|(A.aO 1).trans aa)<|p (a7 cE aa aa ab<|aI.ok (C.cI.2)<|bP ab)<|p (ld bR aa<|bX.get (i:=0) C.cI.2 ab)<|e<|cl xB (yQ (r.getD 0 []) 8192 Y (by have :=V _ (dQ (d:= []) (show 0 < r.length by omega)); omega) ab) aa fun v12 ag M=> ?_
 obtain ⟨rfl,J⟩:=M
 refine p (xt aa aa)<|p (xt aa aa)<|p aB<|aw<|j _ _<|rt<|f2 aa aa aa ?_
 have h1:¬r.length≠1:=ab
 exact ⟨by unfold k9; rw [if_neg h1]; rfl,q.md.trans J⟩
theorem Sp (B fb mc:Nat) (F:aR) (V:eX) (n:Nat) (r:List Tx) (bz:Nat) (ar:Option Addr) (cr:Nat) (w:World) (aZ:dP w B fb mc F V) (b8:∃ seen,kI F [] seen) (cx:Tg w bz 9 r.length (.slice ar r.length cr) (r.map str)) (cM:∀ x∈r,x.length≤70000) (dl:r.length≤70000):
 bh ay 89 (ba [aQ fb,.agg [bc (F.sp.getD 0 0),bc (F.sp.getD 1 0),bc (F.sp.getD 2 0),bc (F.sp.getD 3 0),bc (F.sp.getD 4 0)].toArray,.agg [au n,.slice ar r.length cr].toArray]) w (fun v w'=>N8 w w' (fS F r) v∧Wk w w'):=by
 obtain ⟨seen,aC⟩:=b8
 have dk:=aC.len
 have dp:=r9<|r.getD 0 []
 refine enter func89 aa ntmps89 aa<|aj fun _ bA=>e<|iV aa fun aT dC dh bk b5=>e<|iV aa fun dd dE di a0 b6=>e<|al qX fun bd bv dj aG bf=> ?_
 have aD:Wk w bv:=bk.md.trans<|a0.md.trans aG.md
 have cL:=aG.md.B<|a0.md.B b5
 have bt:=aG.md.B b6
 have bl:=cx.wk aD
 have ca:=aZ.wk aD
 have ds:=bk.size
 have dt:=a0.size
 have dv:=aG.size
 refine aw<|bA _ _<|sq fun _ bH=>aj fun _ bN=>p (fa vf aa)<|p (ld jR aa<|(bt.aO 1).trans aa)<|p (bF eQ aa aa)<|p (cX aa aa)<|aE<|bN _ _<|cd aa (fun cy=> ?_) fun cy=> ?_
 exact aj fun _ aP=>p (cO (ps:= []) (L:= [.string ⟨⟨[]⟩⟩,.slice none 0 0]) nZ aa<|aa)<|e<|cW ku aa aa aa aa (bf) (by simp) fun dU cn b4=>aw<|aP _ _<|rt<|tr<|eo aa (dK (cs:= [str [],.slice none 0 0]) aa lE aa fun j E=>b4.bB j) ea<|⟨.inr ⟨111,Hv ab,az,aa⟩,aD.trans' cn fun q A h=>by omega⟩
 have M:r.length=1:=ab
 have dm:(r.getD 0 []).length≤70000:=cM _<|dQ ab
 refine aM<|tn<|bH _ _<|aj fun _ aP=>p (fa vf aa)<|p (ld jR aa<|(bt.aO 1).trans aa)<|p (a7 cE aa aa ab<|aI.ok (bl.cI.2)<|bP ab)<|p (ld bR aa<|bX.get (i:=0) bl.cI.2 ab)<|e<|cl AH (D1 (r.getD 0 []) bv ab) aa fun v28 c9 cp=> ?_
 obtain ⟨rfl,an⟩:=cp
 have ac:=aD.trans an
 have ae:=an.B bf
 have dr:=an.size
 refine p mv<|p (xt aa aa)<|p (xt aa aa)<|p (xt aa aa)<|p (xt aa aa)<|p aB<|p aB<|p aB<|aw<|aP _ _<|sq fun _ bO=>aj fun _ bQ=>p mv<|p (cX aa aa)<|aE<|bQ _ _<|cd aa (fun cA=> ?_) fun cA=> ?_
 exact aj fun _ aS=>p (cO (ps:= []) (L:= [.string ⟨⟨[]⟩⟩,.slice none 0 0]) nZ aa<|aa)<|p mv<|e<|cW ku aa aa aa aa (ae) (by simp) fun dV co b7=>aw<|aS _ _<|rt<|tr<|eo aa (dK (cs:= [str [],.slice none 0 0]) aa lE aa fun j E=>b7.bB j) ea<|⟨.inr ⟨_,xT M ab,ab,aa⟩,ac.trans' co fun q A h=>by omega⟩
 have Z:(bu<|r.getD 0 []).2.2.2=0:=ab
 refine aM<|tn<|bO _ _<|sq fun _ aS=>aj fun _ bS=>p mv<|p (cg u9 aa aa)<|p mv<|aE<|bS _ _<|aJ<|lp (fun ai G ax=> ∃ (i:Nat),(i≤(bu<|r.getD 0 []).1.length)∧(∀ j,j < i→iN ((bu<|r.getD 0 []).1.getD j 0)=true)∧(Wk c9 ax)∧(G 0=aQ fb)∧(G 4=aQ aT)∧(G 6=aQ bd)∧(G 8=str (bu<|r.getD 0 []).1)∧(G 9=str (bu<|r.getD 0 []).2.1)∧(G 10= .bool (bu<|r.getD 0 []).2.2.1)∧(G 38=au ((bu<|r.getD 0 []).1.length))∧(G 39=au i)∧((bu<|r.getD 0 []).1.length - i=ai)) _ ⟨0,ab,(fun j E=>by omega),(Md.refl _ _),aa,aa,aa,aa,aa,aa,aa,aa,aa⟩ ?_
 rintro ai G ax ⟨i,hi,bq,C,cN,cT,cV,cY,cZ,cP,cR,cS,rfl⟩
 refine fx 0 cN<|fx 4 cT<|fx 6 cV<|fx 8 cY<|fx 9 cZ<|fx 10 cP<|fx 38 cR<|fx 39 cS<|aj fun _ bU=>p (lt aa aa)<|aE<|bU _ _<|sq fun _ bC=>cd aa (fun cB=> ?_) fun cB=> ?_
 refine aM<|tn<|bC _ _<|sq fun _ aH=>aJ<|aj fun _ aK=>ak (au i)<|p (cH (au i) aa)<|aE<|aK _ _<|aj fun _ ag=>ak (str (bu<|r.getD 0 []).1)<|ak (au i)<|ak (au i)<|p (ad aa aa<|bT ab)<|p (l7 u9 aa aa aa ab)<|e<|cl FR (Mh (((bu<|r.getD 0 []).1.take<|i+1).drop i) ax<|by rw [Kp ab]; simp) aa fun dy dD cq=> ?_
 obtain ⟨rfl,b9⟩:=cq
 have bs:=Kp (s:=(bu<|r.getD 0 []).1) (i:=i) ab
 have aV:=C.trans b9
 refine p (no aa)<|aE<|ag _ _<|cb aa (fun a3=> ?_) fun a3=> ?_
 have a6:iN ((bu<|r.getD 0 []).1.getD i 0)=false :=by rw [← Mg,← bs]; simpa using a3
 exact aj fun _ ah=>p (cO (ps:= []) (L:= [.string ⟨⟨[]⟩⟩,.slice none 0 0]) nZ aa<|aa)<|e<|cW ku aa aa aa aa (Wk.B aV ae) (by simp) fun dH cc bV=>aw<|ah _ _<|rt<|br<|tr<|tr<|br<|tr<|eo aa (dK (cs:= [str [],.slice none 0 0]) aa lE aa fun j E=>bV.bB j) ea<|⟨.inr ⟨21,xU M Z (.inl<|sW ab a6),az,aa⟩,(ac.trans aV).trans' cc fun q A h=>by omega⟩
 have a6:iN ((bu<|r.getD 0 []).1.getD i 0)=true :=by rw [← Mg,← bs]; simpa using a3
 exact aM<|bn<|tn<|aH _ _<|rg aa<|p (ad aa aa<|bT ab)<|p mv<|nl<|tn<|⟨_,ab,i+1,ab,(fun j E=>by rcases e8 j i with h | h <;> first | exact bq j h | (rw [show j=i by omega]; exact a6)),aV,aa,aa,aa,aa,aa,aa,aa,aa,aa⟩
 refine ext<|te _<|te _<|be<|tn<|aS _ _<|sq fun _ aH=>aJ<|sq fun _ aK=>rg aa<|ak (str (bu<|r.getD 0 []).1)<|p (dR aa aa)<|aw<|aK _ _<|cd aa (fun Y=> ?_) fun Y=> ?_
 exact aj fun _ ag=>p (cO (ps:= []) (L:= [.string ⟨⟨[]⟩⟩,.slice none 0 0]) nZ aa<|aa)<|e<|cW ku aa aa aa aa (Wk.B C ae) (by simp) fun dJ ce bW=>aw<|ag _ _<|rt<|br<|tr<|eo aa (dK (cs:= [str [],.slice none 0 0]) aa lE aa fun j E=>bW.bB j) ea<|⟨.inr ⟨21,xU M Z (.inr Y),az,aa⟩,(ac.trans C).trans' ce fun q A h=>by omega⟩
 have ao:=uJ (w:=(bu<|r.getD 0 []).1) fun j E=>bq j ab
 refine aj fun _ ag=>ak (str (bu<|r.getD 0 []).1)<|p (cg u9 aa aa)<|p (gt aa aa)<|aw<|ag _ _<|cd aa (fun cC=> ?_) fun cC=> ?_
 exact aj fun _ ah=>p (cO (ps:= []) (L:= [.string ⟨⟨[]⟩⟩,.slice none 0 0]) nZ aa<|aa)<|e<|cW ku aa aa aa aa (Wk.B C ae) (by simp) fun dL ch bY=>aw<|ah _ _<|rt<|br<|tr<|eo aa (dK (cs:= [str [],.slice none 0 0]) aa lE aa fun j E=>bY.bB j) ea<|⟨.inr ⟨22,Hw M Z ao Y ab,az,aa⟩,(ac.trans C).trans' ch fun q A h=>by omega⟩
 refine aj fun _ ah=>ak (.bool (bu<|r.getD 0 []).2.2.1)<|p (no aa)<|aw<|ah _ _<|cb aa (fun ap=> ?_) fun ap=> ?_
 exact aj fun _ aL=>ak (str (bu<|r.getD 0 []).1)<|p (cO (ps:= [(0,str (bu<|r.getD 0 []).1)]) (L:= [str (bu<|r.getD 0 []).1,.slice none 0 0]) nZ aa<|aa)<|e<|cW ku aa aa aa aa (Wk.B C ae) (by simp) fun dM ci b0=>aw<|aL _ _<|rt<|br<|tr<|eo aa (dK (cs:= [str (bu<|r.getD 0 []).1,.slice none 0 0]) aa lE aa fun j E=>b0.bB j) ea<|⟨.inl ⟨_,.slice none 0 0,Hx M Z ao Y ab (by simpa using ap),aa,du _ _ _ _⟩,(ac.trans C).trans' ci fun q A h=>by omega⟩
 refine aM<|bn<|tn<|aH _ _<|aj fun _ aL=>ak (aQ fb)<|ak (str (bu<|r.getD 0 []).2.1)<|e<|cl FT (HL B fb mc F V (bu<|r.getD 0 []).2.1 ax (ca.wk<|an.trans C) aC.kd aC.al ab ab) aa fun c8 a8 ct=> ?_
 obtain ⟨cG,aW⟩:=ct
 have aF:=ac.trans<|C.trans aW
 have a2:=Wk.B (C.trans aW) ae
 obtain ⟨da,de,rfl,bp⟩:∃ a,∃ e:Nat,c8= .tuple #[a,au e]∧((e=0∧∃ l,fN F.kind F.aliases (bu<|r.getD 0 []).2.1= .ok l∧bo a8 ax.heap.size 51 1 a l.length (l.map bc))∨(e≠0∧fN F.kind F.aliases (bu<|r.getD 0 []).2.1= .error e)):=by
  rcases cG with ⟨a,l,h1,h2,h3⟩ | ⟨a,e,h1,h2,h3⟩
  exact ⟨a,0,h1,.inl ⟨aa,l,h2,h3⟩⟩
  exact ⟨a,e,h1,.inr ⟨h2,h3⟩⟩
 refine p mv<|p (xt aa aa)<|p (xt aa aa)<|p aB<|aw<|aL _ _<|sq fun _ bD=>aj fun _ bE=>p mv<|p (cX aa aa)<|aE<|bE _ _<|cd aa (fun cD=> ?_) fun cD=> ?_
 obtain ⟨cK,aq⟩:=bp.resolve_left fun h=>by omega
 exact aj fun _ aN=>p (cO (ps:= []) (L:= [.string ⟨⟨[]⟩⟩,.slice none 0 0]) nZ aa<|aa)<|p mv<|e<|cW ku aa aa aa aa (a2) (by simp) fun dN cj b1=>aw<|aN _ _<|rt<|tr<|eo aa (dK (cs:= [str [],.slice none 0 0]) aa lE aa fun j E=>b1.bB j) ea<|⟨.inr ⟨_,Hy M Z ao Y ab (by simpa using ap) aq,cK,aa⟩,aF.trans' cj fun q A h=>by omega⟩
 obtain ⟨_,set,aq,av⟩:=bp.resolve_right fun h=>by omega
 obtain ⟨O,U,rfl⟩:=cw av
 have dn:=x9 (fun l cJ=>(aC.al l cJ).1) aq
 refine aM<|tn<|bD _ _<|sq fun _ aN=>aj fun _ bG=>p mv<|p (bF L4 aa aa)<|p mv<|aE<|bG _ _<|aJ<|lp (fun ai I a9=> ∃ (j:Nat),(j≤set.length)∧(∀ q,q < j→eB F (set.getD q 0)=true)∧(Wk a8 a9)∧(I 0=aQ fb)∧(I 4=aQ aT)∧(I 6=aQ bd)∧(I 8=str (bu<|r.getD 0 []).1)∧(I 13= .slice O set.length U)∧(I 75= .slice O set.length U)∧(I 76=au (set.length))∧(I 77=au j)∧(set.length - j=ai)) _ ⟨0,ab,(fun q A=>by omega),(Md.refl _ _),aa,aa,aa,aa,aa,aa,aa,aa,aa⟩ ?_
 rintro ai I a9 ⟨j,E,a1,J,c0,c2,c3,c7,c1,c4,c5,c6,rfl⟩
 refine fx 0 c0<|fx 4 c2<|fx 6 c3<|fx 8 c7<|fx 13 c1<|fx 75 c4<|fx 76 c5<|fx 77 c6<|aj fun _ bI=>p (lt aa aa)<|aE<|bI _ _<|sq fun _ bJ=>cd aa (fun cF=> ?_) fun cF=> ?_
 refine aM<|tn<|bJ _ _<|sq fun _ aA=>aJ<|aj fun _ bK=>p (a7 HC aa aa ab<|aI.ok ((aX<|aU av J).2)<|bP ab)<|p (ld cU aa<|aI.gG (aX<|aU av J).2 (show (set.map bc)[j]? =some (bc<|set.getD j 0) by rw [ic,cQ,cz (by omega :j < set.length)]; rfl)) ?_
 refine aw<|bK _ _<|aj fun _ bL=>ak (aQ fb)<|p mv<|e<|cl AG (BE B fb mc F V (set.getD j 0) a9 (aZ.wk<|aF.trans J) ab) aa fun dz dF cu=> ?_
 obtain ⟨rfl,bg⟩:=cu
 have dw:=bg.size
 have dx:=J.size
 refine p mv<|p (xt aa aa)<|p (xt aa aa)<|e<|al tV fun dc dB dg bj bZ=>e<|cW rF aa aa aa aa (bZ) (by simp) fun bx ck df=> ?_
 have dq:=bj.size
 have am:Wk a8 bx:=(J.trans<|bg.trans bj.md).trans' ck fun q A h=>by omega
 refine aw<|bL _ _<|aj fun _ bb=>p mv<|p (no aa)<|p mv<|gb (t:=89) aa (fun a5=> ?_) fun a5=> ?_
 refine pg aa aa aa (OI uG aa)<|pg aa aa aa mv<|eg aa aa aa<|cl Ph (RG (some ⟨aT,0,none⟩) 5 [F.sp.getD 0 0,F.sp.getD 1 0,F.sp.getD 2 0,F.sp.getD 3 0,F.sp.getD 4 0] (set.getD j 0) bx (aI.dS<|Wk.B ((an.trans<|C.trans aW).trans am) cL)<|by simp) aa fun dA dG cv=> ?_
 obtain ⟨rfl,aY⟩:=cv
 rw [Yk aZ.fI] at*
 refine pg aa aa aa (no aa)<|p (bw aa)<|aE<|bb _ _<|cb aa (fun a4=> ?_) fun a4=> ?_
 exact aj fun _ bM=>p (cO (ps:= []) (L:= [.string ⟨⟨[]⟩⟩,.slice none 0 0]) nZ aa<|aa)<|e<|cW ku aa aa aa aa (Wk.B (am.trans aY) a2) (by simp) fun dO cm b2=>aw<|bM _ _<|rt<|br<|tr<|tr<|br<|tr<|eo aa (dK (cs:= [str [],.slice none 0 0]) aa lE aa fun j E=>b2.bB j) ea<|⟨.inr ⟨120,Hz M Z ao Y ab (by simpa using ap) aq (i:=j) ab (Sh (by simpa using a5)<|by simpa using a4),az,aa⟩,(aF.trans<|am.trans aY).trans' cm fun q A h=>by omega⟩
 exact aM<|bn<|tn<|aA _ _<|rg aa<|p (ad aa aa<|bT ab)<|p mv<|nl<|tn<|⟨_,ab,j+1,ab,(fun q A=>by rcases e8 q j with h | h <;> first | exact a1 q h | (rw [show q=j by omega]; exact Hj<|.inr<|by simpa using a4)),(am.trans aY),aa,aa,aa,aa,aa,aa,aa,aa,aa⟩
 exact sk aa aa aa aa<|sk aa aa aa aa<|sk aa aa aa aa<|sk aa aa aa aa<|p (bm aa)<|aE<|bb _ _<|cf aa<|aM<|bn<|tn<|aA _ _<|rg aa<|p (ad aa aa<|bT ab)<|p mv<|nl<|tn<|⟨_,ab,j+1,ab,(fun q A=>by rcases e8 q j with h | h <;> first | exact a1 q h | (rw [show q=j by omega]; exact Hj<|.inl<|by simpa using a5)),am,aa,aa,aa,aa,aa,aa,aa,aa,aa⟩
 exact ext<|te _<|te _<|be<|tn<|aN _ _<|aj fun _ aA=>ak (str (bu<|r.getD 0 []).1)<|ak (.slice O set.length U)<|p (cO (ps:= [(0,str (bu<|r.getD 0 []).1),(1,.slice O set.length U)]) (L:= [str (bu<|r.getD 0 []).1,.slice O set.length U]) nZ aa<|aa)<|e<|cW ku aa aa aa aa (Wk.B J a2) (by simp) fun dT bi b3=>aw<|aA _ _<|rt<|eo aa (dK (cs:= [str (bu<|r.getD 0 []).1,.slice O set.length U]) aa lE aa fun j E=>b3.bB j) ea<|⟨.inl ⟨((bu<|r.getD 0 []).1,set),.slice O set.length U,Bz M Z ao Y ab (by simpa using ap) aq (fun j E=>a1 j ab),aa,ep (db (aU av J) bi fun q A h=>by have :=(dI av A).1; have :=C.size; omega)<|by have :=C.size; omega⟩,(aF.trans J).trans' bi fun q A h=>by omega⟩
end Go.Hb.kK
end
