/-
  Walks and plain laws that the law rests on, laid together. No conditions but those that each theorem names.
-/
import Derived.Test.YtffmhpaepdkabaaGreatDoorMnDeriveEach4
set_option linter.unusedVariables false
set_option maxRecDepth 20000
set_option maxHeartbeats 1000000
open Array renaming getElem?_eq_some_iff→cQ
open Bool renaming or_eq_false_iff→nm
open Classical renaming not_not→jq
open Except.ok renaming injEq→rU
open Go.Proofs.Tryz renaming prog→aw
open Go.Value renaming agg→bN,bool→bT,int→jk,oneCell'→gC,tuple→gz
open Go.World renaming ownsRow→bu,ownsRow_nil→dx
open List renaming all_eq_true→ma,append_assoc→dF,append_nil→ek,count_eq_zero→qT,count_le_length→tT,drop_eq_nil_of_le→gV,eq_nil_of_length_eq_zero→fS,ext_getElem?→pW,find?_cons→M1,find?_eq_none→Ef,findIdx?_eq_none_iff→M2,getD_eq_getElem?_getD→cV,getElem?_append_left→me,getElem?_append_right→mN,getElem?_cons_zero→tU,getElem?_eq_getElem→cD,getElem?_eq_some_iff→fJ,getElem?_map→im,getElem?_of_mem→vZ,getElem?_set→kW,getElem?_zip_eq_some→jx,length→jy,length_append→bL,length_cons→cT,length_map→fK,length_nil→ga,length_pos_iff→lx,length_set→wh,length_singleton→e5,length_take→dT,length_zip→zC,map_append→iq,mem_append→jz,mem_cons→gr,mem_of_getElem?→iP,not_mem_nil→tZ,take_of_length_le→eN,toArray→bh
open Nat renaming le_refl→cB,le_trans→gd,lt_or_ge→fg,zero_add→gW
open Option renaming getD_some→zJ,isSome_iff_exists→oX
open Prod renaming snd→np
open Go.Proofs.Tryz
open Go.Hb.dX Go.Proofs Go.Hb.fk Go.Hb.gh Go.Hb.lP Go.Hb.iu Go.Hb.j7

section
namespace Go.Hb.nq
open Go.Hb.od
structure og (w:World) (B fb:Nat) (mc:Nat) (F:aT) (V:e6):Prop where
 cells:w.heap[fb]? =some (.cells (oy F V mc).toArray 125 (0,0))
 o9:bu w B 128 2 V.v9 F.dm.length (kT F.dm)
 eT:bu w B 70 1 V.v10 F.aliases.length V.sa
 al:ez w B 51 V.sa F.aliases
 eu:bu w B 131 5 V.v11 F.bw.length (mY F.bw)
 dD:bu w B 77 7 V.v12 F.rules.length (iT<|F.rules.zip V.rn)
 nx:ez w B 51 V.rn (F.rules.map (·.next))
 lo:B≤fb∧B≤mc
 fO:F.sp.length=5
theorem og.md {G:Nat→Prop} {w w':World} {B fb mc:Nat} {F:aT} {V:e6} (h:og w B fb mc F V) (hm:Md G w w') {L:List Nat} (a:TF w L G) (i:(L.contains 127 || L.contains 130 || L.contains 72 || L.contains 53 || L.contains 133 || L.contains 79)=false):og w' B fb mc F V:=by
 simp only [nm] at i
 obtain ⟨⟨⟨⟨⟨h1,h2⟩,h3⟩,h4⟩,h5⟩,h6⟩:=i
 have q:∀ k,G k→∀ cur z,w.heap[k]?≠some (.cells cur 51 z):=fun k hk cur z A=>a.no (dw A) h4 hk
 exact ⟨hm.gA a h.cells h1,cj h.o9 hm a h2,cj h.eT hm a h3,h.al.md hm q,cj h.eu hm a h5,cj h.dD hm a h6,h.nx.md hm q,h.lo,h.fO⟩
theorem og.wk {w w':World} {B fb mc:Nat} {F:aT} {V:e6} (h:og w B fb mc F V) (hm:Wk w w'):og w' B fb mc F V:=h.md (L:= []) hm (fun _ hk=>hk.elim) rfl
theorem SI {w:World} {B fb mc:Nat} {F:aT} {V:e6} (h:dU w B fb mc F V):og w B fb mc F V:=⟨h.cells,h.o9,h.eT,h.al,h.eu,h.dD,h.nx,h.lo,h.fO⟩
theorem og.zY {w C I:World} {B fb mc:Nat} {F:aT} {V:e6} {v:Value} {x:db} {f:Value→Option Value} (h:og w B fb mc F V) (A:du w.heap mc (pE .u16) f) (Y:∀ y:Nat,f (bg y)=((F.bw++ [x]).findIdx? fun c=>decide (c.flag=y)).map fun i:Nat=>jk .i64 i) (hm:Md (fun k=>V.v11.ownBlock=some k) w C) (O:bu C B 131 5 v (F.bw++ [x]).length (mY<|F.bw++ [x])) (a:Md (fun k=>k=fb) C I) (U:I.heap[fb]? =some (.cells (oy {F with bw:=F.bw++ [x]} {V with v11:=v} mc).toArray 125 (0,0))):dU I B fb mc {F with bw:=F.bw++ [x]} {V with v11:=v} :=by
 have q:TF w [133] (fun k=>V.v11.ownBlock=some k):=TF.own h.eu az
 have G:=hm.gA q h.cells az
 have E:TF C [127] (fun k=>k=fb):=TF.eq (dw G) az
 have J:∀ k,V.v11.ownBlock=some k→∀ cur z,w.heap[k]?≠some (.cells cur 51 z):=ij h.eu az
 have M:∀ k,k=fb→∀ cur z,C.heap[k]?≠some (.cells cur 51 z):=fu G az
 have Z:=eE<|A.md hm<|q.no (eE A) az
 exact ⟨U,cj (cj h.o9 hm q az) a E az,cj (cj h.eT hm q az) a E az,(h.al.md hm J).md a M,cX O a (fun k hk A=>dE O G az<|A ▸ hk),cj (cj h.dD hm q az) a E az,(h.nx.md hm J).md a M,⟨f,(A.md hm<|q.no (eE A) az).md a (E.no Z az),Y⟩,h.lo,h.fO⟩
theorem dy.VK {w C G:World} {B:Nat} {H:dt} {F F':aT} {R:gX} {rows:List Rw} {ln:Nat} {seen:List Tx} {v:Value} {q:dd} (h:dy w B H F R rows ln seen) (hm:Md (fun k=>R.vn.ownBlock=some k) w C) (U:bu C B 3 1 v (F.rules++ [q]).length ((F.rules++ [q]).map fun r=>jk .i64 (r.line:Nat))) (a:Md (fun k=>k=H.rb) C G) (V:G.heap[H.rb]? =some (.cells (vk H {R with vn:=v} ln).toArray 195 (0,0))) (aa:F'.rules=F.rules++ [q]) (hd:∀ x,eG F' x=eG F x):dy G B H F' {R with vn:=v} rows ln seen:=by
 have E:TF w [5] (fun k=>R.vn.ownBlock=some k):=TF.own h.on az
 have i:=hm.gA E h.cells az
 have I:TF C [197] (fun k=>k=H.rb):=TF.eq (dw i) az
 obtain ⟨f,A,Y⟩:=h.sm
 obtain ⟨g,M,Z⟩:=h.tm
 have J:=A.md hm<|E.no (eE A) az
 have O:=M.md hm<|E.no (eE M) az
 exact ⟨V,(h.rws.md hm<|ij h.on az).md a (fu i az),(h.rt.md hm<|ij h.on az).md a (fu i az),⟨f,J.md a (I.no (eE J) az),Y⟩,⟨g,O.md a (I.no (eE O) az),fun x ab=>by rw [hd]; exact Z x ab⟩,by rw [aa]; exact cX U a (fun k hk A=>dE U i az<|A ▸ hk),h.lo,h.ne⟩
theorem Bo {cs:List db} {x:Nat} (h:(dY cs x).isSome=false):cs.findIdx? (fun c=>decide (c.flag=x))=none:=by
 rw [M2]
 unfold dY at h
 rw [Option.isSome_eq_false_iff,Option.isNone_iff_eq_none,Ef] at h
 intro c a
 simpa using h c a
theorem RL {F:aT} {c:db} (y:Nat):eG {F with bw:=F.bw++ [c]} y=(decide (y=c.flag) || eG F y):=by
 have h1:(dY (F.bw++ [c]) y).isSome=((dY F.bw y).isSome || decide (y=c.flag)):=by
  unfold dY
  rw [List.find?_append,Option.isSome_or]
  congr 1
  by_cases h:c.flag=y
  · simp [h]
  · simp [h,Ne.symm h]
 unfold eG
 show (decide (y∈F.sp) || (dY (F.bw++ [c]) y).isSome)=_
 rw [h1]
 cases decide (y∈F.sp) <;> cases (dY F.bw y).isSome <;> cases decide (y=c.flag) <;> rfl
theorem Q5 {F:aT} {c:db} {f:Value→Option Value} (hd:eG F c.flag=false) (a:∀ x:Nat,f (bg x)=(F.bw.findIdx? fun c=>decide (c.flag=x)).map fun i:Nat=>jk .i64 i) (y:Nat):bV f (bg c.flag) (.int .i64 (F.bw.length:Nat)) (bg y)=((F.bw++ [c]).findIdx? fun c=>decide (c.flag=y)).map fun i:Nat=>jk .i64 i:=by
 unfold eG at hd
 rw [nm] at hd
 rw [List.findIdx?_append]
 by_cases h:y=c.flag
 · subst h
   rw [vd,Bo hd.2]
   simp
 · rw [tj (fun h2=>h<|Lt h2),a y]
   cases F.bw.findIdx? fun c=>decide (c.flag=y) <;> simp [Ne.symm h]
theorem AS {eof ln e:Nat} {F:aT} {rows:List Rw} {r:List Tx} (h:gH F (r.getD 1 [])= .error e):gM eof F rows ln r= .error (ln,e):=by unfold gM; rw [h]
theorem AT {eof ln x:Nat} {F:aT} {rows:List Rw} {r:List Tx} (h:gH F (r.getD 1 [])= .ok x) (h1:r.getD 2 []≠[89]) (h2:r.getD 2 []≠[78]):gM eof F rows ln r= .error (ln,114):=by unfold gM; rw [h]; exact if_pos ⟨h1,h2⟩
theorem F7 {eof ln x e:Nat} {F:aT} {rows:List Rw} {r:List Tx} (h:gH F (r.getD 1 [])= .ok x) (h1:r.getD 2 []= [89]∨r.getD 2 []= [78]) (h2:eX (r.getD 3 []) 1024= .error e):gM eof F rows ln r= .error (ln,e):=by
 unfold gM; rw [h]; simp only; rw [if_neg (fun h3=>h1.elim h3.1 h3.2),h2]
theorem F8 {eof ln x n:Nat} {F:aT} {rows:List Rw} {r:List Tx} (h:gH F (r.getD 1 [])= .ok x) (h1:r.getD 2 []= [89]∨r.getD 2 []= [78]) (h2:eX (r.getD 3 []) 1024= .ok n) (h3:1024 < F.rules.length+n):gM eof F rows ln r= .error (ln,117):=by
 unfold gM; rw [h]; simp only; rw [if_neg (fun h3=>h1.elim h3.1 h3.2),h2]; simp only; rw [if_pos h3]
theorem AU {eof ln x n:Nat} {F:aT} {rows:List Rw} {r:List Tx} {e:Nat×Nat} (h:gH F (r.getD 1 [])= .ok x) (h1:r.getD 2 []= [89]∨r.getD 2 []= [78]) (h2:eX (r.getD 3 []) 1024= .ok n) (h3:¬1024 < F.rules.length+n) (h4:group [r.getD 0 [],r.getD 1 []] (fF F.kind F.aliases (⟨x,(if r.getD 0 []=dp then 2 else 1:Nat),(decide (r.getD 2 []= [89])),F.rules.length,n⟩:db)) eof n rows= .error e):gM eof F rows ln r= .error e:=by
 unfold gM; rw [h]; simp only; rw [if_neg (fun h3=>h1.elim h3.1 h3.2),h2]; simp only; rw [if_neg h3,h4]
theorem QA {eof ln x n:Nat} {F:aT} {rows:List Rw} {r:List Tx} {q:List dd×List Rw} (h:gH F (r.getD 1 [])= .ok x) (h1:r.getD 2 []= [89]∨r.getD 2 []= [78]) (h2:eX (r.getD 3 []) 1024= .ok n) (h3:¬1024 < F.rules.length+n) (h4:group [r.getD 0 [],r.getD 1 []] (fF F.kind F.aliases (⟨x,(if r.getD 0 []=dp then 2 else 1:Nat),(decide (r.getD 2 []= [89])),F.rules.length,n⟩:db)) eof n rows= .ok q):gM eof F rows ln r= .ok ({F with bw:=F.bw++ [(⟨x,(if r.getD 0 []=dp then 2 else 1:Nat),(decide (r.getD 2 []= [89])),F.rules.length,n⟩:db)],rules:=F.rules++q.1},q.2):=by
 unfold gM; rw [h]; simp only; rw [if_neg (fun h3=>h1.elim h3.1 h3.2),h2]; simp only; rw [if_neg h3,h4]
theorem F9 (B:Nat) (H:dt) (F:aT) (rows:List Rw) (ln:Nat) (seen:List Tx) (r:List Tx) (cy:Nat) (ar:Option Addr) (cr:Nat) (w:World) (a:St w B H F rows ln seen) (cZ:Tg w cy 9 r.length (.slice ar r.length cr) (r.map str)) (gf:r.length=4) (cs:∀ x∈r,x.length≤70000) (f2:F.dm.length+F.aliases.length+F.bw.length+F.rules.length+rows.length < 70000):
 fC aw 135 (bh [.pointer (some ⟨H.rb,0,none⟩),.slice ar r.length cr]) w (jt B H seen (gM H.eof F rows ln r) w) (js B H (gM H.eof F rows ln r) w):=by
 obtain ⟨V,R,J,ak,aC⟩:=a
 have Z:=cZ.cM
 have gg:(r.getD 1 []).length≤70000:=cs _<|dV ab
 have gh:(r.getD 2 []).length≤70000:=cs _<|dV ab
 have gi:(r.getD 3 []).length≤70000:=cs _<|dV ab
 have gd:=ak.lo
 have f7:=aC.len
 have gj:=(cQ.1 ak.cells).1
 obtain ⟨a12,ks,fs⟩:=cC J.dD
 obtain ⟨cz,kr,dk⟩:=cC J.eu
 have eT:Hb.aQ w.heap H.fb 12=some (.slice a12 F.rules.length ks):=by rw [← fs]; exact (a7 J.cells).trans rfl
 have f8:Hb.aQ w.heap H.fb 11=some (.slice cz F.bw.length kr):=by rw [← dk]; exact (a7 J.cells).trans rfl
 have eY:∀ b,w.heap.size≤b→¬(V.v11.ownBlock=some b):=fun b f1 h=>by have :=dG J.eu h; omega
 obtain ⟨tf,fr,di⟩:=ak.tm
 refine ka func135 aa ntmps135 aa ?_
 refine ej (fun b0 cx=> ∃ (x I:Nat),(gH F (r.getD 1 [])= .ok x)∧(x≠0)∧(eG F x=false)∧(w.heap.size≤I)∧(cx.heap[I]? =some (.cells [bg x,.int .i64 (1:Nat),.bool false,.int .i64 (F.rules.length:Nat),.int .i64 (0:Nat)].toArray 131 (0,0)))∧(Wk w cx)∧(b0 0= .pointer (some ⟨H.rb,0,none⟩))∧(b0 1= .slice ar r.length cr)∧(b0 4= .pointer (some ⟨I,0,none⟩))) ?_ ?_
 have C:(fun w'=>Wk w w') w.drew:=(Md.refl _ _).drew
 refine bM (fun w'=>Wk w w') aa wide C<|hp 0 aa aj (fun _ _=>aU (.pointer<|some ⟨H.rb,0,none⟩) aa) C<|hp 1 aa aj (fun _ _=>aU (.slice ar r.length cr) aa) C<|hp 2 aa aj (fun _ _=>ba cI aa aa ab<|aJ.ok (Z.2)<|bS ab) C<|hp 3 aa aj (fun w' a=>ld bU aa<|Wk.aQ a<|cg.get (i:=1) Z.2 ab) C<|hp 5 aa aj (fun _ _=>aU (.pointer<|some ⟨H.rb,0,none⟩) aa) C<|hp 6 aa aj (fun _ _=>nc aa) C<|hp 7 aa aj (fun _ _=>fa ic aa) C<|hp 8 aa aj (fun w' a=>ld gl aa<|Wk.aQ a<|(a7 ak.cells).trans aa) C<|hp 9 aa aj (fun _ _=>nc aa) C<|hp 10 aa aj (fun _ _=>fa gG aa) C<|hp 11 aa aj (fun _ _=>fa nH aa) C<|hp 12 aa aj (fun w' a=>ld lT aa<|Wk.aQ a<|eT) C<|hp 13 aa aj (fun _ _=>bK vE aa aa) C<|Ug (Pn:=fun c w'=> ∃ e,gH F (r.getD 1 [])= .error e∧c=jm 47 ln (e:Nat)∧Wk w.drew w') 4 15 aa aa aj aa aa ?_ (fun c w' A aN J=>by obtain ⟨e,he,h,h2⟩:=A; exact ⟨ln,e,AS he,h,Wk.mw<|Md.trans C h2⟩) ?_
 refine dS Aq (BS B H F V R rows ln seen (r.getD 1 []) w.drew (J.wk C) (ak.wk C) aC.kd ab) aa fun v10 bW bf=> ?_
 obtain ⟨x,ac,bx,rfl,aL,bD⟩:=bf
 have am:(fun w'=>Wk w w') bW:=Md.trans C bD
 refine ⟨am,?_⟩
 refine hp 14 aa aj (fun _ _=>cU (ps:= [(0,bg x),(1,.int .i64 (1:Nat)),(3,.int .i64 (F.rules.length:Nat))]) (L:= [bg x,.int .i64 (1:Nat),.bool false,.int .i64 (F.rules.length:Nat),.int .i64 0]) Dj aa<|aa) am<|he 15 aa aj<|fi tG fun I bZ eM b9 b3=> ?_
 have ax:(fun w'=>Wk w w') bZ:=Md.trans am b9.md
 refine ⟨ax,?_⟩
 refine he 16 aa aj<|fZ ri aa aa aa aa b3 az fun cv b7 b4=> ?_
 have bk:(fun w'=>Wk w w') cv:=Md.trans' ax b7 fun k hk h=>by have h1:=Md.size am; have h2:=Md.size C; omega
 refine ⟨bk,?_⟩
 exact hn aj<|tn<|⟨x,I,ac,bx,aL,(by have h1:=Md.size am; have h2:=Md.size C; omega),b4,bk,aa,aa,aa⟩
 refine fi tG fun I bZ eM b9 b3=> ?_
 have ax:(fun w'=>Wk w w') bZ:=Md.trans C b9.md
 refine ⟨ax,?_⟩
 refine ta 4 aa aj aa (dS Aq (BS B H F V R rows ln seen (r.getD 1 []) bZ (J.wk ax) (ak.wk ax) aC.kd ab) aa fun v10 bW bf=> ?_) fun c w' A aN J=>by obtain ⟨e,he,h,h2⟩:=A; exact ⟨ln,e,AS he,h,Wk.mw<|Md.trans ax h2⟩
 obtain ⟨x,ac,bx,rfl,aL,bD⟩:=bf
 have am:(fun w'=>Wk w w') bW:=Md.trans ax bD
 refine ⟨am,?_⟩
 refine hp 14 aa aj (fun _ _=>cU (ps:= [(0,bg x),(1,.int .i64 (1:Nat)),(3,.int .i64 (F.rules.length:Nat))]) (L:= [bg x,.int .i64 (1:Nat),.bool false,.int .i64 (F.rules.length:Nat),.int .i64 0]) Dj aa<|aa) am<|he 16 aa aj<|fZ ri aa aa aa aa (Wk.aM bD b3) az fun cv b7 b4=> ?_
 have bk:(fun w'=>Wk w w') cv:=Md.trans' am b7 fun k hk h=>by have h1:=Md.size am; have h2:=Md.size C; omega
 refine ⟨bk,?_⟩
 exact hn aj<|tn<|⟨x,I,ac,bx,aL,(by have h1:=Md.size am; have h2:=Md.size C; omega),b4,bk,aa,aa,aa⟩
 rintro b0 cx ⟨x,I,ac,bx,aL,e3,dg,bA,e8,e9,fc⟩
 refine fx 0 e8<|fx 1 e9<|fx 4 fc ?_
 refine ej (fun b1 aY=>(aY.heap[I]? =some (.cells [bg x,.int .i64 ((if r.getD 0 []=dp then 2 else 1:Nat):Nat),.bool false,.int .i64 (F.rules.length:Nat),.int .i64 (0:Nat)].toArray 131 (0,0)))∧(Wk w aY)∧(b1 0= .pointer (some ⟨H.rb,0,none⟩))∧(b1 1= .slice ar r.length cr)∧(b1 4= .pointer (some ⟨I,0,none⟩))) ?_ ?_
 refine sq fun dz b6=>rg aa<|p (aU (.slice ar r.length cr) aa)<|p (ba cI aa aa ab<|aJ.ok (aJ.wk Z.2 bA)<|bS ab)<|p (ld bU aa<|cg.get (i:=0) (aJ.wk Z.2 bA) ab)<|p (dW aa aa)<|nl<|tn<|b6 _ _<|cd aa (fun ck=> ?_) fun ck=> ?_
 exact rg aa<|p (fa uF aa)<|e<|cJ gB aa aa (v:= .int .i64 (2:Nat)) aa dg (by show _ < 5; decide) fun gy ea dM=>nl<|tn<|⟨(by rw [if_pos (show r.getD 0 []=dp from ck)]; exact dM),(bA.trans' ea fun k hk h=>by omega),aa,aa,aa⟩
 exact aO<|tn<|⟨(by rw [if_neg (show ¬r.getD 0 []=dp from ck)]; exact dg),bA,aa,aa,aa⟩
 rintro b1 aY ⟨e2,ah,fd,fe,ff⟩
 refine fx 0 fd<|fx 1 fe<|fx 4 ff ?_
 refine ej (fun b2 dx=>(r.getD 2 []= [89]∨r.getD 2 []= [78])∧(dx=aY)∧(b2 0= .pointer (some ⟨H.rb,0,none⟩))∧(b2 1= .slice ar r.length cr)∧(b2 4= .pointer (some ⟨I,0,none⟩))) ?_ ?_
 refine rg aa<|p (aU (.pointer<|some ⟨H.rb,0,none⟩) aa)<|p (aU (.slice ar r.length cr) aa)<|p (ba cI aa aa ab<|aJ.ok (aJ.wk Z.2 ah)<|bS ab)<|p (ld bU aa<|cg.get (i:=2) (aJ.wk Z.2 ah) ab)<|p (dW aa aa)<|p mv<|gs (t:=31) aa (fun bP=> ?_) fun bP=> ?_
 refine sk aa aa aa aa<|sk aa aa aa aa<|sk aa aa aa aa<|sk aa aa aa aa<|p (bB aa)<|eP aa (dS iy (iK H.rb ln _ 114 aY (Wk.aQ ah ak.dq) az) aa fun v37 fE ca=> ?_) fun c w' A aN J=>by first | exact absurd A.2.1 az | exact ⟨ln,114,AT ac bP (of_decide_eq_false A.2.1),A.1,by rw [A.2.2]; exact Wk.mw ah⟩
 obtain ⟨rfl,dl,rfl⟩:=ca
 exact nl<|tn<|⟨(.inl bP),aa,aa,aa,aa⟩
 refine pg aa aa aa (aU (.slice ar r.length cr) aa)<|pg aa aa aa (ba cI aa aa ab<|aJ.ok (aJ.wk Z.2 ah)<|bS ab)<|pg aa aa aa (ld bU aa<|cg.get (i:=2) (aJ.wk Z.2 ah) ab)<|pg aa aa aa (dW aa aa)<|p (bq aa)<|eP aa (dS iy (iK H.rb ln _ 114 aY (Wk.aQ ah ak.dq) az) aa fun v37 fE ca=> ?_) fun c w' A aN J=>by first | exact absurd A.2.1 az | exact ⟨ln,114,AT ac bP (of_decide_eq_false A.2.1),A.1,by rw [A.2.2]; exact Wk.mw ah⟩
 obtain ⟨rfl,dl,rfl⟩:=ca
 exact nl<|tn<|⟨(.inr<|of_decide_eq_true dl),aa,aa,aa,aa⟩
 rintro b2 dx ⟨aV,ft,fg,fh,fj⟩
 refine fx 0 fg<|fx 1 fh<|fx 4 fj ?_
 subst ft
 refine sq fun dz b6=>rg aa<|p (aU (.slice ar r.length cr) aa)<|p (ba cI aa aa ab<|aJ.ok (aJ.wk Z.2 ah)<|bS ab)<|p (ld bU aa<|cg.get (i:=2) (aJ.wk Z.2 ah) ab)<|p (dW aa aa)<|p (fa HG aa)<|e<|cJ sL aa aa (v:= .bool<|decide (r.getD 2 []= [89])) aa e2 (by show _ < 5; decide) fun fG eb dN=> ?_
 have a8:=ah.trans' eb fun k hk h=>by omega
 refine nl<|tn<|b6 _ _<|sq fun fM d2=>rg aa<|p (aU (.pointer<|some ⟨H.rb,0,none⟩) aa)<|p (aU (.slice ar r.length cr) aa)<|p (ba cI aa aa ab<|aJ.ok (aJ.wk Z.2 a8)<|bS ab)<|p (ld bU aa<|cg.get (i:=3) (aJ.wk Z.2 a8) ab)<|eP aa (dS xg (yF H.rb ln (r.getD 3 []) 1024 fG (Wk.aQ a8 ak.dq) ab ab) aa fun gv gx ex=> ?_) fun c w' A aN J=>by obtain ⟨e,he,h,h2⟩:=A; exact ⟨ln,e,F7 ac aV he,h,Wk.mw<|a8.trans h2⟩
 obtain ⟨n,aS,rfl,cB⟩:=ex
 have ge:=CB aS
 refine p (fa xR aa)<|e<|cJ gB aa aa (v:= .int .i64 (n:Nat)) aa (Wk.aM cB dN) (by show _ < 5; decide) fun ds ed dO=> ?_
 have aE:=(a8.trans cB).trans' ed fun k hk h=>by omega
 have bp:ds.heap[I]? =some (.cells [bg x,.int .i64 ((if r.getD 0 []=dp then 2 else 1:Nat):Nat),.bool (decide (r.getD 2 []= [89])),.int .i64 (F.rules.length:Nat),.int .i64 (n:Nat)].toArray 131 (0,0)):=dO
 refine nl<|tn<|d2 _ _<|sq fun fO d3=>rg aa<|p (aU (.pointer<|some ⟨H.rb,0,none⟩) aa)<|p (fa HH aa)<|p (ld bC aa<|(a7 bp).trans aa)<|p (fa xR aa)<|p (ld bC aa<|(a7 bp).trans aa)<|p (bG ((F.rules.length+n:Nat):Int) aa aa<|bl ab ab)<|p (le aa aa)<|eP aa (dS iy (iK H.rb ln _ 117 ds (Wk.aQ aE ak.dq) az) aa fun gw cw ey=> ?_) fun c w' A aN J=>⟨ln,117,F8 ac aV aS (by have :=of_decide_eq_false A.2.1; omega),A.1,by rw [A.2.2]; exact Wk.mw aE⟩
 obtain ⟨rfl,fv,rfl⟩:=ey
 have bz:¬1024 < F.rules.length+n:=by have :=of_decide_eq_true fv; omega
 have bH:=ak.wk aE
 have dR:=J.wk aE
 have bQ:=fr.wk aE
 refine nl<|tn<|d3 _ _<|sq fun fP d4=> ?_
 have ao:(fun w'=>Wk cw w') cw.drew:=(Md.refl _ _).drew
 refine eS (fun w'=>Wk cw w') 8 aa wide ao<|lq 0 aa aj (fun _ _=>aU (.pointer<|some ⟨H.rb,0,none⟩) aa) ao<|lq 1 aa aj (fun _ _=>nc aa) ao<|lq 2 aa aj (fun _ _=>fa BH aa) ao<|lq 3 aa aj (fun w' a=>ld ue aa<|Wk.aQ a<|(a7 bH.cells).trans aa) ao<|lq 4 aa aj (fun _ _=>fa BA aa) ao<|lq 5 aa aj (fun w' a=>ld c7 aa<|Wk.aQ a<|(a7 bp).trans aa) ao<|lq 6 aa aj (fun w' a=>oD rO oO rv (du.md (bQ) a id) aa aa (⟨_,aa⟩) (show _=jk .i64 0 from (di x bx).trans<|by rw [aL]; rfl)) ao<|lq 7 aa aj (fun _ _=>bG ((1:Nat):Int) aa aa<|bl ab ab) ao<|dK 8 aa aj aj<|tA rO rv (bQ.wk ao) aa aa aa (⟨_,aa⟩) fun aZ ec ep=> ?_
 have bc:=il ec
 have bj:dy aZ B H {F with bw:=F.bw++ [(⟨x,(if r.getD 0 []=dp then 2 else 1:Nat),(decide (r.getD 2 []= [89])),F.rules.length,n⟩:db)]} R rows ln seen:=bH.uZ bc ep rfl (Lk aL di fun y _=>RL y)
 have a9:=dR.uZ bH bc
 have c9:=bc.aM bp fun h=>bQ.pF<|h ▸ bp
 have eI:=(cZ.wk aE).md bc fun k hk cur z co=>by subst hk; exact bQ.pF co
 have ei:=(Wk.mw aE).trans<|fA.mt bH bc
 obtain ⟨cf,cl,eV⟩:=a9.cm
 have eQ:Hb.aQ aZ.heap H.fb 11=some (.slice cz F.bw.length kr):=by rw [← dk]; exact (a7 a9.cells).trans rfl
 refine eR aj<|tn<|d4 _ _<|sq fun fQ d5=> ?_
 have E:(fun w'=>Wk aZ w') aZ.drew:=(Md.refl _ _).drew
 refine eS (fun w'=>Wk aZ w') 18 aa wide E<|lq 0 aa aj (fun _ _=>aU (.pointer<|some ⟨H.rb,0,none⟩) aa) E<|lq 1 aa aj (fun _ _=>nc aa) E<|lq 2 aa aj (fun _ _=>fa ic aa) E<|lq 3 aa aj (fun w' a=>ld gl aa<|Wk.aQ a<|(a7 bj.cells).trans aa) E<|lq 4 aa aj (fun _ _=>nc aa) E<|lq 5 aa aj (fun _ _=>fa HF aa) E<|lq 6 aa aj (fun w' a=>ld ue aa<|Wk.aQ a<|(a7 a9.cells).trans aa) E<|lq 7 aa aj (fun _ _=>fa BA aa) E<|lq 8 aa aj (fun w' a=>ld c7 aa<|Wk.aQ a<|(a7 c9).trans aa) E<|lq 9 aa aj (fun _ _=>aU (.pointer<|some ⟨H.rb,0,none⟩) aa) E<|lq 10 aa aj (fun _ _=>nc aa) E<|lq 11 aa aj (fun _ _=>fa ic aa) E<|lq 12 aa aj (fun w' a=>ld gl aa<|Wk.aQ a<|(a7 bj.cells).trans aa) E<|lq 13 aa aj (fun _ _=>nc aa) E<|lq 14 aa aj (fun _ _=>fa gG aa) E ?_
 refine lq 15 aa aj (fun _ _=>fa s8 aa) E<|lq 16 aa aj (fun w' a=>ld wV aa<|Wk.aQ a<|eQ) E<|lq 17 aa aj (fun _ _=>bK Lz aa aa) E<|dK 18 aa aj aj<|tA rO rv (cl.wk E) aa aa aa (⟨_,aa⟩) fun a0 ee er=> ?_
 have es:du a0.heap H.mc (pE .u16) (bV cf (bg x)<|.int .i64 (F.bw.length:Nat)):=er
 have bd:=il ee
 have cc:TF aZ [1] (fun k=>k=H.mc):=TF.eq (eE cl) az
 have bo:=(SI a9).md (L:= [1]) bd cc az
 have bI:=bj.md (L:= [1]) bd cc az bj.ne.2.1 bj.ne.2.2
 have c3:=bd.gA cc c9 az
 have eJ:=eI.md bd fun k hk cur z co=>by subst hk; exact cl.pF co
 have em:=ei.trans<|bd.mono fun k _ hk=>⟨hk ▸ a9.lo.2,.inr<|.inr<|.inl hk⟩
 have da:=eY I e3
 have bv:¬(V.v11.ownBlock=some H.rb):=dE bo.eu bI.cells az
 have cp:¬(V.v11.ownBlock=some H.fb):=dE bo.eu bo.cells az
 refine eR aj<|tn<|d5 _ _<|sq fun fR d6=> ?_
 have O:(fun w'=>Md (fun k=>V.v11.ownBlock=some k) a0 w') a0.drew:=(Md.refl _ _).drew
 refine eS (fun w'=>Md (fun k=>V.v11.ownBlock=some k) a0 w') 18 aa wide O<|dA 0 aa aj (fun _=>aU (.pointer<|some ⟨H.rb,0,none⟩) aa) (fun _=>O)<|dA 1 aa aj (fun _=>nc aa) (fun _=>O)<|dA 2 aa aj (fun _=>fa ic aa) (fun _=>O)<|kD 3 aa aj (fun w' a=>ld gl aa<|Md.aQ a ((a7 bI.cells).trans aa) bv) O<|dA 4 aa aj (fun _=>aU (.pointer<|some ⟨H.rb,0,none⟩) aa) (fun _=>O)<|dA 5 aa aj (fun _=>nc aa) (fun _=>O)<|dA 6 aa aj (fun _=>fa ic aa) (fun _=>O)<|kD 7 aa aj (fun w' a=>ld gl aa<|Md.aQ a ((a7 bI.cells).trans aa) bv) O<|dA 8 aa aj (fun _=>nc aa) (fun _=>O)<|dA 9 aa aj (fun _=>fa gG aa) (fun _=>O)<|dA 10 aa aj (fun _=>fa s8 aa) (fun _=>O)<|kD 11 aa aj (fun w' a=>ld wV aa<|Md.aQ a ((a7 bo.cells).trans aa) cp) O<|kD 12 aa aj (fun w' a=>c8 uf aa (aa) fun j eW=>bO.bE ⟨_,Md.aM a c3 da⟩ j) O<|gQ 13 aa aj<|kK yT aa aa aa fun fY fH f6 cN dP=> ?_
 have aP:=il cN.md
 have aq:=bo.wk aP
 have cP:=bI.wk aP
 have gn:=(cQ.1 cP.cells).1
 have cY:(fun w'=>Md (fun k=>V.v11.ownBlock=some k) a0 w') fH:=O.trans' cN.md fun _ _ h=>h.elim
 refine ⟨cY,?_⟩
 refine gQ 14 aa aj<|ap yT (aq.eu) aa ab aa (aJ.dZ dP) (aa) (aa) ab ab fun ct dv df aI gr gc=> ?_
 have en:=(em.trans<|Wk.mw aP).trans<|Mw.of aI (TF.own aq.eu az) fun k hk=>(dG aq.eu hk).1
 have bf:=dy.own cP aq.eu aI az
 have br:=aI.aM aq.cells<|dE aq.eu aq.cells az
 have ce:=aI.aM (Wk.aM aP c3) da
 have eA:=(eJ.wk aP).md aI<|ij aq.eu az
 have e1:bu dv B 131 5 ct (F.bw++ [(⟨x,(if r.getD 0 []=dp then 2 else 1:Nat),(decide (r.getD 2 []= [89])),F.rules.length,n⟩:db)]).length (mY<|F.bw++ [(⟨x,(if r.getD 0 []=dp then 2 else 1:Nat),(decide (r.getD 2 []= [89])),F.rules.length,n⟩:db)]):=by rw [show mY (F.bw++ [(⟨x,(if r.getD 0 []=dp then 2 else 1:Nat),(decide (r.getD 2 []= [89])),F.rules.length,n⟩:db)])=mY F.bw++nB (⟨x,(if r.getD 0 []=dp then 2 else 1:Nat),(decide (r.getD 2 []= [89])),F.rules.length,n⟩:db) from by simp [mY],bL]; exact df
 have bN:(fun w'=>Md (fun k=>V.v11.ownBlock=some k) a0 w') dv:=cY.trans' aI fun _ _ h=>h
 refine ⟨bN,?_⟩
 refine dA 15 aa aj (fun _=>nc aa) (fun _=>bN)<|dA 16 aa aj (fun _=>fa gG aa) (fun _=>bN)<|dA 17 aa aj (fun _=>fa s8 aa) (fun _=>bN)<|dK 18 aa aj aj<|cJ GA aa aa (v:=ct) (eU df) br (by show _ < 14; omega) fun aX ai b5=> ?_
 have dQ:=og.zY (x:=(⟨x,(if r.getD 0 []=dp then 2 else 1:Nat),(decide (r.getD 2 []= [89])),F.rules.length,n⟩:db)) aq (es.wk aP) (Q5 (c:=(⟨x,(if r.getD 0 []=dp then 2 else 1:Nat),(decide (r.getD 2 []= [89])),F.rules.length,n⟩:db)) aL eV) aI e1 ai b5
 have et:=dy.ox bf br ai
 have c4:=ai.aM ce fun h=>by rw [h,br] at ce; cases ce
 have eB:=eA.md ai<|fu br az
 have ef:=en.trans<|Mw.of ai (TF.eq (dw br) az) fun k hk=>hk ▸ aq.lo.1
 refine eR aj<|tn<|d6 _ _<|sq fun fS d7=>rg aa<|p (fa xR aa)<|p (ld bC aa<|(a7 c4).trans aa)<|p mv<|nl<|tn<|d7 _ _<|aM<|lp (fun cA a1 ae=> ∃ (i:Nat) (xs:List dd) (rows':List Rw) (bR:Nat) (G:e6) (R':gX),(i≤n)∧(iW [r.getD 0 [],r.getD 1 []] (fF F.kind F.aliases (⟨x,(if r.getD 0 []=dp then 2 else 1:Nat),(decide (r.getD 2 []= [89])),F.rules.length,n⟩:db)) H.eof (group [r.getD 0 [],r.getD 1 []] (fF F.kind F.aliases (⟨x,(if r.getD 0 []=dp then 2 else 1:Nat),(decide (r.getD 2 []= [89])),F.rules.length,n⟩:db)) H.eof n rows) xs (n - i) rows')∧(xs.length=i)∧(dU ae B H.fb H.mc {F with bw:=F.bw++ [(⟨x,(if r.getD 0 []=dp then 2 else 1:Nat),(decide (r.getD 2 []= [89])),F.rules.length,n⟩:db)],rules:=F.rules++xs} G)∧(dy ae B H {F with bw:=F.bw++ [(⟨x,(if r.getD 0 []=dp then 2 else 1:Nat),(decide (r.getD 2 []= [89])),F.rules.length,n⟩:db)],rules:=F.rules++xs} R' rows' bR seen)∧(kH {F with bw:=F.bw++ [(⟨x,(if r.getD 0 []=dp then 2 else 1:Nat),(decide (r.getD 2 []= [89])),F.rules.length,n⟩:db)],rules:=F.rules++xs} rows' seen)∧(fA B H w ae)∧(ae.heap[I]? =some (.cells [bg x,.int .i64 ((if r.getD 0 []=dp then 2 else 1:Nat):Nat),.bool (decide (r.getD 2 []= [89])),.int .i64 (F.rules.length:Nat),.int .i64 (n:Nat)].toArray 131 (0,0)))∧(Tg ae cy 9 r.length (.slice ar r.length cr)<|r.map str)∧(a1 0= .pointer (some ⟨H.rb,0,none⟩))∧(a1 1= .slice ar r.length cr)∧(a1 4= .pointer (some ⟨I,0,none⟩))∧(a1 102= .int .i64 (n:Nat))∧(a1 103= .int .i64 (i:Nat))∧(n - i=cA)) _ ⟨0,[],rows,ln,{V with v11:=ct},R,ab,iW.start,aa,(by rw [ek]; exact dQ),(by rw [ek]; exact et),(⟨by simp only [bL,e5,ga]; omega,aC.sl,aC.row,aC.kd,aC.al⟩),ef,c4,eB,aa,aa,aa,aa,aa,aa⟩ ?_
 rintro cA a1 ae ⟨i,xs,rows',bR,G,R',hi,aR,fw,cD,au,a5,cG,dh,bm,fk,fl,fq,fm,fo,rfl⟩
 refine fx 0 fk<|fx 1 fl<|fx 4 fq<|fx 102 fm<|fx 103 fo<|sq fun fT d8=>rg aa<|p (lt aa aa)<|nl<|tn<|d8 _ _<|sq fun fV d9=>cd aa (fun eO=> ?_) fun eO=> ?_
 refine aO<|tn<|d9 _ _<|sq fun fI dY=>aM<|sq fun fJ d0=> ?_
 have av:(fun w'=>Md (fun k=>k=H.rb) ae w') ae.drew:=(Md.refl _ _).drew
 refine bM (fun w'=>Md (fun k=>k=H.rb) ae w') aa wide av<|hp 0 aa aj (fun _ _=>aU (.pointer<|some ⟨H.rb,0,none⟩) aa) av<|hp 1 aa aj (fun _ _=>aU (.slice ar r.length cr) aa) av<|hp 2 aa aj (fun _ _=>ba cI aa aa ab<|aJ.ok (bm.cM.2)<|bS ab) av<|hp 3 aa aj (fun w' a=>ld bU aa<|cg.get (i:=0) (bm.md a<|fu au.cells az).cM.2 ab) av<|hp 4 aa aj (fun _ _=>aU (.slice ar r.length cr) aa) av<|hp 5 aa aj (fun _ _=>ba cI aa aa ab<|aJ.ok (bm.cM.2)<|bS ab) av<|hp 6 aa aj (fun w' a=>ld bU aa<|cg.get (i:=1) (bm.md a<|fu au.cells az).cM.2 ab) av<|he 7 aa aj<|sE (L:= [str (r.getD 0 []),str (r.getD 1 [])]) fN aa aa aa aa fun dC cu f4 cL dJ=> ?_
 have ag:Wk ae cu:=il cL.md
 have cH:=cG.trans<|Wk.mw ag
 have cR:(fun w'=>Md (fun k=>k=H.rb) ae w') cu:=av.trans' cL.md fun _ _ h=>h.elim
 refine ⟨cR,?_⟩
 refine ta 8 aa aj aa (dS Ar (Cf B H {F with bw:=F.bw++ [(⟨x,(if r.getD 0 []=dp then 2 else 1:Nat),(decide (r.getD 2 []= [89])),F.rules.length,n⟩:db)],rules:=F.rules++xs} R' rows' bR seen [r.getD 0 [],r.getD 1 []] dC 2 _ _ cu (au.wk ag) (Tg.CH dJ aa) aa az fun q cq=>(a5.row q cq).2.1) aa fun gu ay ew=> ?_) (fun c w' A aN J=>by
  obtain ⟨h1,h2⟩:=A
  have hm:=cH.trans<|fA.rb (au.wk ag) h2
  rcases h1 with ⟨rfl,h3⟩ | ⟨bT,aW,rest,rfl,h4,h3⟩
  exact ⟨_,_,AU ac aV aS bz (aR.ends ab),h3,hm⟩
  exact ⟨_,_,AU ac aV aS bz (aR.other ab h4),h3,hm⟩)
 obtain ⟨bT,aW,rest,rfl,dj,⟨aA,bi⟩,hT15,hM15⟩:=ew
 obtain ⟨dB,uo,rfl⟩:=hT15.slice
 have aF:=(cD.wk ag).rb (au.wk ag) hM15
 have cK:=cH.trans<|fA.rb (au.wk ag) hM15
 have e7:aW≠[]∧aW.length≤70000∧∀ x∈aW,x.length≤70000:=a5.row (bT,aW)<|by simp
 have a4:=kH.po a5
 have eN:=a5.len
 simp only [cT,bL] at eN
 have eC:=(bm.wk ag).md hM15<|fu (au.wk ag).cells az
 have ch:=hM15.aM (Wk.aM ag dh) fun h=>by have h1:=(au.wk ag).cells; rw [← h,Wk.aM ag dh] at h1; cases h1
 have cS:(fun w'=>Md (fun k=>k=H.rb) ae w') ay:=cR.trans' hM15 fun _ _ h=>h
 refine ⟨cS,?_⟩
 refine hp 9 aa aj (fun _ _=>aB) cS<|hn aj<|tn<|d0 _ _<|sq fun fL d1=> ?_
 have bv:¬(G.v12.ownBlock=some H.rb):=dE aF.dD bi.cells az
 have cp:¬(G.v12.ownBlock=some H.fb):=dE aF.dD aF.cells az
 have eX:¬(G.v12.ownBlock=some I):=dE aF.dD ch az
 have M:(fun w'=>Md (fun k=>G.v12.ownBlock=some k) ay w') ay.drew:=(Md.refl _ _).drew
 refine eS (fun w'=>Md (fun k=>G.v12.ownBlock=some k) ay w') 21 aa wide M<|dA 0 aa aj (fun _=>aU (.pointer<|some ⟨H.rb,0,none⟩) aa) (fun _=>M)<|dA 1 aa aj (fun _=>nc aa) (fun _=>M)<|dA 2 aa aj (fun _=>fa ic aa) (fun _=>M)<|kD 3 aa aj (fun w' a=>ld gl aa<|Md.aQ a ((a7 bi.cells).trans aa) bv) M<|dA 4 aa aj (fun _=>aU (.pointer<|some ⟨H.rb,0,none⟩) aa) (fun _=>M)<|dA 5 aa aj (fun _=>nc aa) (fun _=>M)<|dA 6 aa aj (fun _=>fa ic aa) (fun _=>M)<|kD 7 aa aj (fun w' a=>ld gl aa<|Md.aQ a ((a7 bi.cells).trans aa) bv) M<|dA 8 aa aj (fun _=>nc aa) (fun _=>M)<|dA 9 aa aj (fun _=>fa gG aa) (fun _=>M)<|dA 10 aa aj (fun _=>fa nH aa) (fun _=>M)<|kD 11 aa aj (fun w' a=>ld lT aa<|Md.aQ a ((a7 aF.cells).trans aa) cp) M<|dA 12 aa aj (fun _=>aU (.pointer<|some ⟨H.rb,0,none⟩) aa) (fun _=>M)<|kD 13 aa aj (fun w' a=>c8 uf aa (aa) fun j eW=>bO.bE ⟨_,Md.aM a ch eX⟩ j) M<|dA 14 aa aj (fun _=>mv) (fun _=>M) ?_
 refine I0 15 aa aj aa (dS O8 (yJ B H {F with bw:=F.bw++ [(⟨x,(if r.getD 0 []=dp then 2 else 1:Nat),(decide (r.getD 2 []= [89])),F.rules.length,n⟩:db)],rules:=F.rules++xs} G aA rest bT seen (⟨x,(if r.getD 0 []=dp then 2 else 1:Nat),(decide (r.getD 2 []= [89])),F.rules.length,n⟩:db) aW B dB uo ay.drew (aF.wk (Md.refl _ _).drew) (bi.wk (Md.refl _ _).drew) a4 (by show (if r.getD 0 []=dp then 2 else 1)=1∨(if r.getD 0 []=dp then 2 else 1)=2; split <;> simp) (hT15.wk (Md.refl _ _).drew) e7.2) aa fun gt fB ev=> ?_) fun c w' A aN J=>by obtain ⟨e,he,h,h2⟩:=A; exact ⟨_,_,AU ac aV aS bz (aR.bad ab dj he),h,cK.trans<|Wk.mw<|il h2⟩
 obtain ⟨q,cq,e4,⟨vn,rfl,c2⟩,bF⟩:=ev
 obtain ⟨a2,a3,rfl⟩:=c2.slice
 have bF:=il bF
 have cV:(fun w'=>Md (fun k=>G.v12.ownBlock=some k) ay w') fB:=Md.mono bF fun _ _ h=>h.elim
 refine ⟨cV,?_⟩
 refine gQ 16 aa aj<|kK yU aa aa aa fun fW fD f3 b8 dI=> ?_
 have a6:=bF.trans b8.md
 have U:=aF.wk a6
 have cO:=bi.wk a6
 have eD:=eC.wk a6
 have c5:=Wk.aM a6 ch
 have eL:=c2.wk b8.md
 have gk:=(cQ.1 cO.cells).1
 have cW:(fun w'=>Md (fun k=>G.v12.ownBlock=some k) ay w') fD:=cV.trans' b8.md fun _ _ h=>h.elim
 refine ⟨cW,?_⟩
 refine gQ 17 aa aj<|ap yU (U.dD) aa ab aa (aJ.dZ dI) (aa) (aa) (by simp only [bL]; omega) (by simp only [bL]; omega) fun v131 dn dc aG gp f9=> ?_
 have eg:=(cK.trans<|Wk.mw a6).trans<|Mw.of aG (TF.own U.dD az) fun k hk=>(dG U.dD hk).1
 have ez:=dy.own cO U.dD aG az
 have bs:=aG.aM U.cells<|dE U.dD U.cells az
 have ci:=aG.aM c5<|dE U.dD c5 az
 have eF:=eD.md aG<|ij U.dD az
 have eZ:bu dn B 77 7 v131 ((F.rules++xs)++ [q]).length (iT<|((F.rules++xs)++ [q]).zip<|G.rn++ [.slice a2 q.next.length a3]):=by
  have fy:(F.rules++xs).length=G.rn.length:=by have :=U.nx.1; rw [fK] at this; exact this.symm
  rw [List.zip_append fy,show iT ((F.rules++xs).zip G.rn++ [q].zip [.slice a2 q.next.length a3])=iT ((F.rules++xs).zip G.rn)++fz (q,.slice a2 q.next.length a3) from by simp [iT],bL]
  exact dc
 have bJ:(fun w'=>Md (fun k=>G.v12.ownBlock=some k) ay w') dn:=cW.trans' aG fun _ _ h=>h
 refine ⟨bJ,?_⟩
 refine dA 18 aa aj (fun _=>nc aa) (fun _=>bJ)<|dA 19 aa aj (fun _=>fa gG aa) (fun _=>bJ)<|dA 20 aa aj (fun _=>fa nH aa) (fun _=>bJ)<|dK 21 aa aj aj<|cJ GB aa aa (v:=v131) (eU dc) bs (by show _ < 14; omega) fun aX ai b5=> ?_
 have dT:=dU.wY (x:=q) (vx:= .slice a2 q.next.length a3) U eL aG eZ ai b5
 have aK:=dy.ox ez bs ai
 have c6:=ai.aM ci fun h=>by rw [h,bs] at ci; cases ci
 have eH:=eF.md ai<|fu bs az
 have eh:=eg.trans<|Mw.of ai (TF.eq (dw bs) az) fun k hk=>hk ▸ U.lo.1
 refine eR aj<|tn<|d1 _ _ ?_
 have an:(fun w'=>Md (fun k=>aA.vn.ownBlock=some k) aX w') aX.drew:=(Md.refl _ _).drew
 refine eS (fun w'=>Md (fun k=>aA.vn.ownBlock=some k) aX w') 13 aa wide an<|dA 0 aa aj (fun _=>aU (.pointer<|some ⟨H.rb,0,none⟩) aa) (fun _=>an)<|dA 1 aa aj (fun _=>aU (.pointer<|some ⟨H.rb,0,none⟩) aa) (fun _=>an)<|dA 2 aa aj (fun _=>nc aa) (fun _=>an)<|dA 3 aa aj (fun _=>fa BI aa) (fun _=>an)<|kD 4 aa aj (fun w' a=>ld pc aa<|Md.aQ a ((a7 aK.cells).trans aa)<|dE aK.on aK.cells az) an<|dA 5 aa aj (fun _=>aU (.pointer<|some ⟨H.rb,0,none⟩) aa) (fun _=>an)<|dA 6 aa aj (fun _=>nc aa) (fun _=>an)<|dA 7 aa aj (fun _=>fa uL aa) (fun _=>an)<|kD 8 aa aj (fun w' a=>ld bC aa<|Md.aQ a ((a7 aK.cells).trans aa)<|dE aK.on aK.cells az) an<|gQ 9 aa aj<|fU nd aa aa fun fX dr f5 eo dL=> ?_
 have aD:=il eo.md
 have Y:=aK.wk aD
 have cE:=dT.wk aD
 have gm:=(cQ.1 Y.cells).1
 have cX:(fun w'=>Md (fun k=>aA.vn.ownBlock=some k) aX w') dr:=Md.mono aD fun _ _ h=>h.elim
 refine ⟨cX,?_⟩
 refine gQ 10 aa aj<|ap nd (Y.on) aa ab aa (aJ.dZ dL) (aa) (aa) (by simp only [bL]; omega) (by simp only [bL]; omega) fun v145 bY de aH gq gb=> ?_
 have el:=(eh.trans<|Wk.mw aD).trans<|Mw.of aH (TF.own Y.on az) fun k hk=>(dG Y.on hk).1
 have c1:TF dr [5] (fun k=>aA.vn.ownBlock=some k):=TF.own Y.on az
 have cF:=cE.md aH c1 az fun h=>by obtain ⟨f,cn,_⟩:=cE.cm; exact c1.no (eE cn) az h
 have bt:=aH.aM Y.cells<|dE Y.on Y.cells az
 have cj:=aH.aM (Wk.aM aD c6)<|dE Y.on (Wk.aM aD c6) az
 have eK:=(eH.wk aD).md aH<|ij Y.on az
 have e0:bu bY B 3 1 v145 ((F.rules++xs)++ [q]).length (((F.rules++xs)++ [q]).map fun r=>jk .i64 (r.line:Nat)):=by
  rw [iq,bL]
  show bu bY B 3 1 v145 _ (_++ [jk .i64 (q.line:Nat)])
  rw [e4]
  exact de
 have cb:(fun w'=>Md (fun k=>aA.vn.ownBlock=some k) aX w') bY:=cX.trans' aH fun _ _ h=>h
 refine ⟨cb,?_⟩
 refine dA 11 aa aj (fun _=>nc aa) (fun _=>cb)<|dA 12 aa aj (fun _=>fa BI aa) (fun _=>cb)<|dK 13 aa aj aj<|cJ A1 aa aa (v:=v145) (eU de) bt (by show _ < 7; omega) fun bW bb dH=> ?_
 have c0:TF bY [197] (fun k=>k=H.rb):=TF.eq (dw bt) az
 have dX:=cF.md bb c0 az fun h=>by obtain ⟨f,cn,_⟩:=cF.cm; exact c0.no (eE cn) az h
 exact eR aj<|bn<|tn<|dY _ _<|rg aa<|p (ad aa aa<|bX ab)<|p mv<|nl<|tn<|⟨_,ab,i+1,xs++ [q],rest,bT,{G with v12:=v131,rn:=G.rn++ [.slice a2 q.next.length a3]},{aA with vn:=v145},ab,(by rw [show n - (i+1)=n - i - 1 by omega]; exact aR.step ab dj cq),(by rw [bL,fw]; rfl),(by rw [← dF]; exact dX),(by rw [← dF]; exact dy.VK (q:=q) Y aH e0 bb dH aa fun _=>rfl),(⟨by simp only [bL,e5]; omega,a4.sl,a4.row,a4.kd,a4.al⟩),(el.trans<|Mw.of bb (TF.eq (dw bt) az) fun k hk=>hk ▸ Y.lo.1),(bb.aM cj fun h=>by rw [h,bt] at cj; cases cj),(eK.md bb<|fu bt az),aa,aa,aa,aa,aa,aa⟩
 refine ext<|te _<|te _<|be<|jM<|f0 aa ?_
 rw [show n - i=0 by omega] at aR
 exact ⟨aa,_,rows',bR,QA ac aV aS bz aR.done,⟨G,R',cD,au,a5⟩,cG⟩
end Go.Hb.nq
end
section
namespace Go.Hb
open Go.Hb.nq Go.Hb.od
def sJ:db:=⟨0,0,false,0,0⟩
theorem SQ {x:Nat} :∀ {cs:List db} {i:Nat},cs.findIdx? (fun c=>decide (c.flag=x))=some i→∃ c,cs[i]? =some c∧dY cs x=some c:=by
 intro cs
 induction cs with
 | nil=>intro i h; simp at h
 | cons a l C=>
   intro i h
   rw [List.findIdx?_cons] at h
   unfold dY
   rw [M1]
   by_cases q:a.flag=x
   · simp only [q,decide_true,if_true] at h ⊢
     cases h
     exact ⟨a,aa,aa⟩
   · simp only [q,decide_false] at h ⊢
     simp only [Bool.false_eq_true,if_false,Option.map_eq_some_iff] at h
     obtain ⟨j,A,rfl⟩:=h
     obtain ⟨c,h1,h2⟩:=C A
     exact ⟨c,by simpa using h1,h2⟩
theorem JD {F:aT} {x:Nat} (h:x=F.sp.getD 0 0):mz F x=true :=by unfold mz; rw [decide_eq_true h]; rfl
theorem JE {F:aT} {x:Nat} (h:(dY F.bw x).isSome=true) (hk:((dY F.bw x).getD sJ).kind=2):mz F x=true :=by
 unfold mz
 obtain ⟨c,a⟩:=oX.1 h
 rw [a] at hk ⊢
 simp only [zJ] at hk
 simp [hk]
theorem yB {F:aT} {x:Nat} (a:x≠F.sp.getD 0 0) (h:(dY F.bw x).isSome=true) (hk:((dY F.bw x).getD sJ).kind≠2):mz F x=false :=by
 unfold mz
 obtain ⟨c,i⟩:=oX.1 h
 rw [i] at hk ⊢
 simp only [zJ] at hk
 rw [decide_eq_false a]
 simp [hk]
theorem yC {F:aT} {x:Nat} (a:x≠F.sp.getD 0 0) (h:(dY F.bw x).isSome=false):mz F x=false :=by
 unfold mz
 rw [decide_eq_false a]
 cases hc:dY F.bw x with
 | none=>rfl
 | some c=>rw [hc] at h; cases h
theorem qd {F:aT} {q:dd} {j:Nat} (a:j < q.next.length) (h:mz F (q.next.getD j 0)=false):ny F q=true :=by
 unfold ny
 rw [List.any_eq_true]
 exact ⟨_,dV a,by rw [h]; rfl⟩
theorem EZ {F:aT} {q:dd} (h:∀ j,j < q.next.length→mz F (q.next.getD j 0)=true):ny F q=false :=by
 unfold ny
 rw [List.any_eq_false]
 intro x i
 obtain ⟨j,a,rfl⟩:=nM 0 i
 rw [h j a]; simp
theorem qm {p:dd→Bool} {q:dd} :∀ {l:List dd} {i:Nat},(∀ j A,j < i→l[j]? =some A→p A=false)→l[i]? =some q→p q=true→l.find? p=some q:=by
 intro l
 induction l with
 | nil=>intro i _ h; simp at h
 | cons a l G=>
   intro i C hi hp
   rw [M1]
   cases i with
   | zero=>simp only [tU,Option.some.injEq] at hi; subst hi; rw [hp]
   | succ i=>
     rw [C 0 a ab rfl]
     exact G (i:=i) (fun j A I E=>C (j+1) A ab<|by simpa using E) (by simpa using hi) hp
theorem Hj {p:dd→Bool} {l:List dd} (h:∀ j i,j < l.length→l[j]? =some i→p i=false):l.find? p=none:=by
 rw [Ef]
 intro q A
 obtain ⟨j,a⟩:=vZ A
 rw [h j q (fJ.1 a).1 a]; simp
theorem SS {x:Nat} {cs:List db} (h:cs.findIdx? (fun c=>decide (c.flag=x))=none):dY cs x=none:=by
 rw [M2] at h
 unfold dY
 rw [Ef]
 intro c a
 simpa using h c a
theorem Bi (B fb mc:Nat) (F:aT) (V:e6) (x:Nat) (w:World) (q:dU w B fb mc F V) (aK:F.bw.length≤70000):
 bo aw 137 (bh [aR fb,bg x]) w (fun v w'=>v= .tuple #[.agg (nB<|(dY F.bw x).getD sJ).toArray,.bool (dY F.bw x).isSome]∧Wk w w'):=by
 obtain ⟨ai,kr,O⟩:=cC q.eu
 have J:=q.eu
 rw [O] at J
 have ap:Hb.aQ w.heap fb 11=some (.slice ai F.bw.length kr):=by rw [← O]; exact (a7 q.cells).trans rfl
 obtain ⟨f,av,ax⟩:=q.cm
 obtain ⟨iv,ob,az,aD,G⟩:∃ (iv:Nat) (ob:Bool),(f<|bg x).getD (.int .i64 0)=ak iv∧(f<|bg x).isSome=ob∧((ob=false∧dY F.bw x=none)∨(ob=true∧∃ c,F.bw[iv]? =some c∧dY F.bw x=some c)):=by
  rw [ax x]
  cases hfi:F.bw.findIdx? (fun c=>decide (c.flag=x)) with
  | none=>exact ⟨0,false,rfl,rfl,.inl ⟨rfl,SS hfi⟩⟩
  | some i=>exact ⟨i,true,rfl,rfl,.inr ⟨rfl,SQ hfi⟩⟩
 refine enter func137 aa ntmps137 aa<|ag fun U=>e<|al tG fun aG aL aH a E=>ay<|U<|aC fun Y=>aC fun Z=>rg aa<|au (aR fb)<|p (m4 vF aa aa)<|nl<|Z<|cf (aa)<|aO<|Y<|ag fun ac=>au (aR fb)<|p (nc aa)<|p (fa HF aa)<|p (ld ue aa<|Wk.aQ a.md<|(a7 q.cells).trans aa)<|au (bg x)<|p (I5 rO oO rv (av.wk a.md) aa aa (⟨_,aa⟩) (az)<|aD)<|p mv<|p (xt aa aa)<|p (xt aa aa)<|p aB<|ay<|ac<|aC fun ae=>ag fun ah=>p mv<|p (no aa)<|nl<|ah<|cb aa (fun C=> ?_) fun C=> ?_
 have aE:ob=false :=by simpa using C
 have ar:dY F.bw x=none:=by rcases G with ⟨_,h⟩ | ⟨h,_⟩; exact h; rw [aE] at h; cases h
 exact ag fun A=>p (cU (ps:= []) (L:= [.int .u16 0,.int .i64 0,.bool false,.int .i64 0,.int .i64 0]) Dj aa<|aa)<|e<|da ri aa aa aa aa (E) (by simp) fun aM an aj=>ay<|A<|rt<|tr<|eA aa (dP (cs:=nB sJ) aa uf aa fun j aA=>aj.bE j) ee<|⟨by rw [ar]; rfl,a.md.trans' an fun k hk h=>by omega⟩
 have aF:ob=true :=by simpa using C
 obtain ⟨c,I,aq⟩:∃ c,F.bw[iv]? =some c∧dY F.bw x=some c:=by rcases G with ⟨h,_⟩ | ⟨_,h⟩; rw [aF] at h; cases h; exact h
 have aI:=(fJ.1 I).1
 have M:=aW J a.md
 exact aO<|ae<|ag fun A=>au (aR fb)<|p (nc aa)<|p (fa gG aa)<|p (fa s8 aa)<|p (ld wV aa<|Wk.aQ a.md ap)<|p mv<|p (ba SG aa aa ab<|aJ.ok ((a8 M).2) fun h=>by have :=congrArg jy h; rw [show (mY F.bw).length=F.bw.length*5 from oz (f:=nB) (m:=5) (fun _=>rfl) _] at this; simp at this; omega)<|p (c8 uf aa (aa)<|fw (f:=nB) (m:=5) (fun _=>rfl) (a8 M).2 I)<|e<|da ri aa aa aa aa (E) (by simp) fun aN ao am=>ay<|A<|rt<|eA aa (dP (cs:=nB c) aa uf aa fun j aA=>am.bE j) ee<|⟨by rw [aq]; rfl,a.md.trans' ao fun k hk h=>by omega⟩
theorem Qt (B:Nat) (H:dt) (F:aT) (rows:List Rw) (ln:Nat) (seen:List Tx) (w:World) (bz:St w B H F rows ln seen) (bL:∀ q∈F.rules,q.next.length≤64):
 fC aw 86 (bh [.pointer (some ⟨H.rb,0,none⟩)]) w (fun v w'=>v= .tuple #[]∧F.rules.find? (ny F)=none∧(∃ V R' ar,dU w' B H.fb H.mc F V∧dy w' B H F R' rows ar seen)∧fA B H w w') (fun c w'=> ∃ q,F.rules.find? (ny F)=some q∧c=jm 47 q.line 118∧fA B H w w'):=by
 obtain ⟨V,R,M,ao,a1⟩:=bz
 obtain ⟨a12,ks,aK⟩:=cC M.dD
 have bM:=M.dD
 rw [aK] at bM
 have bE:Hb.aQ w.heap H.fb 12=some (.slice a12 F.rules.length ks):=by rw [← aK]; exact (a7 M.cells).trans rfl
 obtain ⟨vr,vs,vn⟩:=R
 obtain ⟨ak,cv,b4⟩:=cC ao.on
 obtain rfl :vn= .slice ak F.rules.length cv:=b4
 have cq:=a1.len
 have cr:=ao.lo
 refine ka func86 aa ntmps86 aa<|sq fun b8 bc=>rg aa<|p (aU (.pointer<|some ⟨H.rb,0,none⟩) aa)<|p (nc aa)<|p (fa ic aa)<|p (ld gl aa<|(a7 ao.cells).trans aa)<|p (nc aa)<|p (fa gG aa)<|p (fa nH aa)<|p (ld lT aa<|bE)<|p (bK vE aa aa)<|p mv<|nl<|tn<|bc _ _<|aM<|lp (fun Z aj ai=> ∃ (i ar:Nat),(i≤F.rules.length)∧(∀ j q,j < i→F.rules[j]? =some q→ny F q=false)∧(dU ai B H.fb H.mc F V)∧(dy ai B H F ⟨vr,vs,.slice ak F.rules.length cv⟩ rows ar seen)∧(fA B H w ai)∧(aj 0= .pointer (some ⟨H.rb,0,none⟩))∧(aj 15= .slice a12 F.rules.length ks)∧(aj 16= .int .i64 (F.rules.length:Nat))∧(aj 17= .int .i64 (i:Nat))∧(F.rules.length - i=Z)) _ ⟨0,ln,ab,(fun j q aV=>by omega),M,ao,(Md.refl _ _),aa,aa,aa,aa,aa⟩ ?_
 rintro Z aj ai ⟨i,ar,hi,I,an,aD,aN,bP,bQ,bR,bT,rfl⟩
 refine fx 0 bP<|fx 15 bQ<|fx 16 bR<|fx 17 bT<|sq fun cc bi=>rg aa<|p (lt aa aa)<|nl<|tn<|bi _ _<|sq fun ce bj=>cd aa (fun bF=> ?_) fun bF=> ?_
 refine aO<|tn<|bj _ _<|sq fun cf bk=>aM<|sq fun cg bl=> ?_
 have aG:=an.dD
 rw [aK] at aG
 have aS:i < F.rules.length:=ab
 obtain ⟨vn,b3,aF⟩:=ez.get an.nx (i:=i)<|by rw [fK]; exact aS
 obtain ⟨q,A⟩:∃ q,F.rules[i]? =some q:=⟨_,cD aS⟩
 have bO:(F.rules.map (·.next)).getD i []=q.next:=by rw [cV,im,A]; rfl
 rw [bO] at aF
 have ct:=bL q<|iP A
 obtain ⟨av,ax,rfl⟩:=aF.slice
 have aW:(F.rules.zip V.rn)[i]? =some (q,.slice av q.next.length ax):=by rw [jx]; exact ⟨A,b3⟩
 have aX:(iT<|F.rules.zip V.rn).length=(F.rules.zip V.rn).length*7:=oz (f:=fz) (m:=7) (fun _=>rfl) _
 have bJ:(F.rules.map fun r=>jk .i64 (r.line:Nat))[i]? =some (.int .i64 (q.line:Nat)):=by rw [im,A]; rfl
 refine rg aa<|p (aU (.int .i64 (i:Nat)) aa)<|p (ba m5 aa aa ab<|aJ.ok ((a8 aG).2) (fun h=>by rw [h] at aX; have h2:0=(F.rules.zip V.rn).length*7:=aX; have h3:=(fJ.1 aW).1; omega)) ?_
 refine p (c8 mU aa (aa)<|fw (f:=fz) (m:=7) (fun _=>rfl) (a8 aG).2 aW)<|e<|al rT fun cm cy co aR a3=> ?_
 skip
 refine p (cO (.int .i64 (i:Nat)) aa)<|e<|da pk aa aa aa aa (a3) (by simp) fun b7 bs a2=> ?_
 have am:Wk ai b7:=aR.md.trans' bs fun k hk h=>by omega
 have a9:=an.wk am
 have C:=aD.wk am
 have cu:=aR.size
 have cs:=(cQ.1 aD.cells).1
 refine nl<|tn<|bl _ _<|sq fun ch bm=>rg aa<|p (aU (.pointer<|some ⟨H.rb,0,none⟩) aa)<|p (aU (.pointer<|some ⟨H.rb,0,none⟩) aa)<|p (nc aa)<|p (fa BI aa)<|p (ld pc aa<|(a7 C.cells).trans aa)<|p (aU (.int .i64 (i:Nat)) aa)<|p (ba kb aa aa ab<|aJ.ok ((a8 C.on).2)<|by simp; intro h; rw [h] at A; simp at A)<|p (ld bC aa<|aJ.gL (a8 C.on).2 bJ)<|p (nc aa)<|p (fa uL aa)<|e<|cJ gB aa aa (v:= .int .i64 (q.line:Nat)) aa C.cells (by show _ < 7; decide) fun cB ae a6=> ?_
 have bx:=C.dB (R':=⟨vr,vs,.slice ak F.rules.length cv⟩) (ln':=q.line) ae a6 rfl C.rws C.rt
 have bb:=a9.rb C ae
 have bD:=ae.B a2 fun h=>by omega
 have bA:=(aF.wk am).md ae<|fu C.cells az
 have bu:=(aN.trans<|Wk.mw am).trans<|fA.rb C ae
 refine nl<|tn<|bm _ _<|sq fun ci bo=>rg aa<|p (fa qo aa)<|p (ld mT aa<|(bD.aQ 6).trans aa)<|p (bK oJ aa aa)<|p mv<|nl<|tn<|bo _ _<|aM<|lp (fun Z J Y=> ∃ (j:Nat),(j≤q.next.length)∧(∀ ah,ah < j→mz F (q.next.getD ah 0)=true)∧(dU Y B H.fb H.mc F V)∧(dy Y B H F ⟨vr,vs,.slice ak F.rules.length cv⟩ rows q.line seen)∧(fA B H w Y)∧(Tg Y B 51 q.next.length (.slice av q.next.length ax)<|q.next.map bg)∧(J 0= .pointer (some ⟨H.rb,0,none⟩))∧(J 15= .slice a12 F.rules.length ks)∧(J 16= .int .i64 (F.rules.length:Nat))∧(J 17= .int .i64 (i:Nat))∧(J 33= .slice av q.next.length ax)∧(J 34= .int .i64 (q.next.length:Nat))∧(J 35= .int .i64 (j:Nat))∧(q.next.length - j=Z)) _ ⟨0,ab,(fun ah bH=>by omega),bb,bx,bu,bA,aa,aa,aa,aa,aa,aa,aa,aa⟩ ?_
 rintro Z J Y ⟨j,aV,aH,aA,aE,aP,ap,bU,bV,bW,bZ,b0,b1,b2,rfl⟩
 refine fx 0 bU<|fx 15 bV<|fx 16 bW<|fx 17 bZ<|fx 33 b0<|fx 34 b1<|fx 35 b2<|sq fun cj bp=>rg aa<|p (lt aa aa)<|nl<|tn<|bp _ _<|sq fun ck br=>cd aa (fun bG=> ?_) fun bG=> ?_
 refine aO<|tn<|br _ _<|sq fun b9 aC=>aM<|sq fun ca bd=> ?_
 have b5:(q.next.map bg)[j]? =some (bg<|q.next.getD j 0):=by rw [im,cV,cD (by omega :j < q.next.length)]; rfl
 refine rg aa<|p (ba bY aa aa ab<|aJ.ok (ap.cM.2)<|bS ab)<|p (ld c7 aa<|aJ.gL ap.cM.2 b5)<|p aB<|nl<|tn<|bd _ _<|sq fun cb bf=>rg aa<|p (aU (.pointer<|some ⟨H.rb,0,none⟩) aa)<|p (nc aa)<|p (fa ic aa)<|p (ld gl aa<|(a7 aE.cells).trans aa)<|p mv<|e<|cl Ai (Bi B H.fb H.mc F V (q.next.getD j 0) _ aA ab) aa fun cx cz bw=> ?_
 obtain ⟨rfl,aL⟩:=bw
 have cw:=aL.size
 refine p mv<|p (xt aa aa)<|p (xt aa aa)<|e<|al tG fun cn cA cp bv a4=>e<|da ri aa aa aa aa (a4) (by simp) fun au bt a5=> ?_
 have ac:Wk Y au:=(aL.trans bv.md).trans' bt fun k hk h=>by omega
 have ay:=aA.wk ac
 have U:=aE.wk ac
 have E:=aP.trans<|Wk.mw ac
 refine p aB<|nl<|tn<|bf _ _<|rg aa<|p (aU (.pointer<|some ⟨H.rb,0,none⟩) aa)<|p mv<|p (aU (.pointer<|some ⟨H.rb,0,none⟩) aa)<|p (nc aa)<|p (fa ic aa)<|p (ld gl aa<|(a7 U.cells).trans aa)<|p (nc aa)<|p (fa gG aa)<|p (fa x4 aa)<|p (ke ui aa aa ab)<|p (ld c7 aa<|(a7 ay.cells).trans aa)<|p (bI aa aa)<|p mv<|gs (t:=60) aa (fun O=> ?_) fun O=> ?_
 refine sk aa aa aa aa<|sk aa aa aa aa<|yN aa aa aa<|yN aa aa aa<|yN aa aa aa<|sk aa aa aa aa<|p (bB aa) ?_
 refine eP aa (dS iy (iK H.rb q.line _ 118 au U.dq az) aa fun aY aZ ag=> ?_) (fun c w' a a0 M=>by
  first
   | exact absurd a.2.1 az
   | exact ⟨q,qm I A (qd (j:=j) ab<|yB (fun h=>O<|by rw [h]) G<|by have :=of_decide_eq_false a.2.1; omega),a.1,by rw [a.2.2]; exact E⟩
   | exact ⟨q,qm I A (qd (j:=j) ab<|yC (fun h=>O<|by rw [h])<|by simpa using G),a.1,by rw [a.2.2]; exact E⟩)
 obtain ⟨rfl,aq,rfl⟩:=ag
 exact nl<|bn<|tn<|aC _ _<|rg aa<|p (ad aa aa<|bX ab)<|p mv<|nl<|tn<|⟨_,ab,j+1,ab,(fun k hk=>by rcases fg k j with h | h <;> first | exact aH k h | (rw [show k=j by omega]; exact JD ab)),ay,U,E,(ap.wk ac),aa,aa,aa,aa,aa,aa,aa,aa⟩
 refine pg aa aa aa mv<|pg aa aa aa mv<|gb (t:=62) aa (fun G=> ?_) fun G=> ?_
 refine pg aa aa aa (fa uF aa)<|pg aa aa aa (ld bC aa<|(a5.aQ 1).trans aa)<|pg aa aa aa (bI aa aa)<|pg aa aa aa (bB aa)<|p (bq aa) ?_
 refine eP aa (dS iy (iK H.rb q.line _ 118 au U.dq az) aa fun aY aZ ag=> ?_) (fun c w' a a0 M=>by
  first
   | exact absurd a.2.1 az
   | exact ⟨q,qm I A (qd (j:=j) ab<|yB (fun h=>O<|by rw [h]) G<|by have :=of_decide_eq_false a.2.1; omega),a.1,by rw [a.2.2]; exact E⟩
   | exact ⟨q,qm I A (qd (j:=j) ab<|yC (fun h=>O<|by rw [h])<|by simpa using G),a.1,by rw [a.2.2]; exact E⟩)
 obtain ⟨rfl,aq,rfl⟩:=ag
 exact nl<|bn<|tn<|aC _ _<|rg aa<|p (ad aa aa<|bX ab)<|p mv<|nl<|tn<|⟨_,ab,j+1,ab,(fun k hk=>by rcases fg k j with h | h <;> first | exact aH k h | (rw [show k=j by omega]; exact JE G<|by have :=of_decide_eq_true aq; omega)),ay,U,E,(ap.wk ac),aa,aa,aa,aa,aa,aa,aa,aa⟩
 refine sk aa aa aa aa<|sk aa aa aa aa<|sk aa aa aa aa<|pg aa aa aa (bq aa)<|p (bq aa) ?_
 refine eP aa (dS iy (iK H.rb q.line _ 118 au U.dq az) aa fun aY aZ ag=> ?_) (fun c w' a a0 M=>by
  first
   | exact absurd a.2.1 az
   | exact ⟨q,qm I A (qd (j:=j) ab<|yB (fun h=>O<|by rw [h]) G<|by have :=of_decide_eq_false a.2.1; omega),a.1,by rw [a.2.2]; exact E⟩
   | exact ⟨q,qm I A (qd (j:=j) ab<|yC (fun h=>O<|by rw [h])<|by simpa using G),a.1,by rw [a.2.2]; exact E⟩)
 obtain ⟨rfl,aq,rfl⟩:=ag
 exact nl<|bn<|tn<|aC _ _<|rg aa<|p (ad aa aa<|bX ab)<|p mv<|nl<|tn<|absurd aq az
 exact ext<|te _<|te _<|be<|bn<|tn<|bk _ _<|rg aa<|p (ad aa aa<|bX ab)<|p mv<|nl<|tn<|⟨_,ab,i+1,q.line,ab,(fun k b6 hk aI=>by rcases fg k i with h | h <;> first | exact I k b6 h aI | (rw [show k=i by omega,A] at aI; cases aI; exact EZ fun ah bH=>aH ah ab)),aA,aE,aP,aa,aa,aa,aa,aa⟩
 refine ext<|te _<|te _<|be<|jM<|f0 aa ?_
 exact ⟨aa,Hj (fun j q aV bN=>I j q ab bN),⟨V,_,_,an,aD⟩,aN⟩
end Go.Hb
end
namespace Go.Hb
def Nx (F:aT):Prop :=(∀ l∈F.aliases,l.length≤64)∧∀ q∈F.rules,q.next.length≤64
theorem B6 {α:Type} {hd:List Tx} {rd:Nat→List Tx→Except Nat α} {eof:Nat} :∀ (n:Nat) (rows:List Rw) (r:List α×List Rw),group hd rd eof n rows= .ok r→∀ x∈r.1,∃ ln row,rd ln row= .ok x:=by
 intro n
 induction n with
 | zero=>intro rows r h; simp only [group,rU] at h; subst h; intro x a; cases a
 | succ n i=>
   intro rows r h
   cases rows with
   | nil=>simp [group] at h
   | cons q rows=>
     obtain ⟨ln,row⟩:=q
     simp only [group] at h
     split at h
     · cases h
     · cases hr:rd ln row with
       | error e=>rw [hr] at h; cases h
       | ok y=>
         rw [hr] at h
         simp only at h
         cases hg:group hd rd eof n rows with
         | error e=>rw [hg] at h; cases h
         | ok A=>
           rw [hg] at h
           simp only [rU] at h
           subst h
           intro x a
           rcases gr.1 a with a | a
           · exact ⟨ln,row,by rw [a]; exact hr⟩
           · exact i rows A hg x a
theorem HX {kind:Nat} {s:Tx} {l:List Nat} (h:kN kind s= .ok l):l.length≤64:=by
 unfold kN at h
 split at h
 · cases h
 · rename_i a
   cases h
   exact (HV<|jq.1 a).1
theorem NW {kind ln:Nat} {row:List Tx} {l:List Nat} (h:kq kind ln row= .ok l):l.length≤64:=by
 unfold kq at h
 split at h
 · cases h
 · exact HX h
theorem xM {kind:Nat} {al:List (List Nat)} {s:Tx} {l:List Nat} (a:∀ l∈al,l.length≤64) (h:fR kind al s= .ok l):l.length≤64:=by
 unfold fR at h
 split at h
 · exact HX h
 · split at h
   · cases h
   · split at h
     · cases h
     · cases h
       rename_i n _ _
       rw [cV]
       cases hg:al[n - 1]? with
       | none=>simp
       | some x=>exact a x<|iP hg
theorem Xl {kind ln:Nat} {al:List (List Nat)} {c:db} {row:List Tx} {q:dd} (i:∀ l∈al,l.length≤64) (h:fF kind al c ln row= .ok q):q.next.length≤64:=by
 unfold fF at h
 split at h
 · cases h
 · split at h
   · cases h
   · split at h
     · cases h
     · split at h
       · cases h
       · rename_i nx a
         split at h
         · cases h
         · cases h
           unfold kS at a
           split at a
           · split at a
             · cases a
             · exact xM i a
           · cases a; simp
theorem yd {eof ln:Nat} {F F':aT} {hs:List Tx} {rows rows':List Rw} {row:List Tx} (h:Nx F) (a:cw eof F hs rows ln row= .ok (F',rows')):Nx F':=by
 unfold cw at a
 split at a
 · unfold kj at a
   split at a
   · cases a
   · cases a; exact h
 · split at a
   · unfold kB at a
     split at a
     · cases a
     · split at a
       · cases a
       · cases a; exact h
   · split at a
     · unfold mF at a
       split at a
       · cases a
       · cases a; exact h
     · split at a
       · unfold mJ at a
         split at a
         · cases a
         · cases a; exact h
       · split at a
         · unfold kR at a
           split at a
           · cases a
           · split at a
             · cases a
             · cases a; exact h
         · split at a
           · unfold ki at a
             split at a
             · cases a
             · split at a
               · cases a
               · cases a; exact h
           · split at a
             · unfold jT at a
               split at a
               · cases a
               · split at a
                 · cases a
                 · split at a
                   · cases a
                   · rename_i r C
                     cases a
                     refine ⟨fun l i=> ?_,h.2⟩
                     rcases jz.1 i with i | i
                     · exact h.1 l i
                     · obtain ⟨_,_,h2⟩:=B6 _ _ _ C l i
                       exact NW h2
             · unfold gM at a
               split at a
               · cases a
               · split at a
                 · cases a
                 · split at a
                   · cases a
                   · split at a
                     · cases a
                     · split at a
                       · cases a
                       · rename_i r C
                         cases a
                         refine ⟨h.1,fun q A=> ?_⟩
                         rcases jz.1 A with A | A
                         · exact h.2 q A
                         · obtain ⟨_,_,h2⟩:=B6 _ _ _ C q A
                           exact Xl h.1 h2
theorem Uk {eof ln:Nat} {F F':aT} {hs:List Tx} {rows rows':List Rw} {row:List Tx} (i:row.getD 0 []∉ec) (a:cw eof F hs rows ln row= .ok (F',rows')):F'.sp=F.sp:=by
 unfold cw at a
 rw [if_neg i] at a
 unfold kB mF mJ kR ki jT gM at a
 repeat' split at a
 all_goals first
  | (cases a; done)
  | (cases a; rfl)
theorem IA {eof ln:Nat} {F F':aT} {seen:List Tx} {rows rows':List Rw} {row:List Tx} (h:kp F seen) (i:cw eof F seen rows ln row= .ok (F',rows')):kp F' (seen++ [row.getD 0 []]):=by
 intro k hk A
 rw [jz,List.mem_singleton] at A
 have E:k∉seen:=fun h=>A<|.inl h
 have G:k≠row.getD 0 []:=fun h=>A<|.inr h
 by_cases q:row.getD 0 []∈ec
 · unfold cw at i
   rw [if_pos q] at i
   unfold kj at i
   split at i
   · cases i
   · cases i
     show (F.sp.set (ec.idxOf<|row.getD 0 []) _).getD (ec.idxOf k) 0=0
     rw [cV,kW,if_neg,← cV]
     · exact h k hk E
     · intro he
       have C:∀ a∈ec,ec.getD (ec.idxOf a) []=a:=az
       have h1:=C _ q
       have h2:=C _ hk
       rw [he] at h1
       exact G<|h2.symm.trans h1
 · rw [Uk q i]; exact h k hk E
def iG (s:Tx):Option Value:=if s=dp then some (bN #[.int .i64 (4:Nat),.func (.func 135) #[] #[]]) else if s=fE then some (bN #[.int .i64 (4:Nat),.func (.func 135) #[] #[]]) else if s=eJ then some (bN #[.int .i64 (2:Nat),.func (.func 134) #[] #[]]) else if s=e9 then some (bN #[.int .i64 (2:Nat),.func (.func 133) #[] #[]]) else if s=kf then some (bN #[.int .i64 (2:Nat),.func (.func 132) #[] #[]]) else if s=lJ then some (bN #[.int .i64 (2:Nat),.func (.func 131) #[] #[]]) else if s=lf then some (bN #[.int .i64 (2:Nat),.func (.func 131) #[] #[]]) else if s=kP then some (bN #[.int .i64 (2:Nat),.func (.func 131) #[] #[]]) else if s=kA then some (bN #[.int .i64 (2:Nat),.func (.func 131) #[] #[]]) else if s=kg then some (bN #[.int .i64 (2:Nat),.func (.func 131) #[] #[]]) else if s=iS then some (bN #[.int .i64 (2:Nat),.func (.func 130) #[] #[]]) else if s=iJ then some (bN #[.int .i64 (2:Nat),.func (.func 129) #[] #[]]) else if s=ig then some (bN #[.int .i64 (2:Nat),.func (.func 128) #[] #[]]) else none
def zF:Value→Option Value:=fun _=>none
def zG:Tx→Option Value:=fun _=>none
theorem str_inj {a b:Tx} :str a=str b↔a=b:=⟨fun h=>by unfold str at h; cases h; rfl,fun h=>by rw [h]⟩
theorem mC {f:Value→Option Value} {g:Tx→Option Value} {k:Tx} {v:Value} (h:∀ s,f (str s)=g s) (s:Tx):bV f (str k) v (str s)=if s=k then some v else g s:=by
 by_cases hs:s=k
 · subst hs; rw [vd,if_pos rfl]
 · rw [tj (fun h2=>hs<|str_inj.1 h2),if_neg hs,h s]
theorem Ul (w:World):
 bo aw 83 (bh []) w (fun v w'=> ∃ b,v= .map (some b)∧b=w.heap.size∧(∃ f,du w'.heap b jn f∧∀ s,f (str s)=iG s)∧Wk w w'):=by
 refine enter func83 aa ntmps83 aa<|ag fun ab=>ay<|ab<|ag fun ac=>e<|uY fun a i bi aN ae=> ?_
 have aO:du i.heap a jn zF:=du.nil ae
 have bj:∀ s:Tx,zF (str s)=zG s:=fun _=>rfl
 have ah:Wk w i:=aN.md
 refine p (cU (ps:= [(0,ak 2),(1,.func (.func 128) #[] #[])]) (L:= [ak 2,.func (.func 128) #[] #[]]) mH aa<|aa)<|e<|mx l8 je (aO) aa aa aa (⟨_,aa⟩) fun I aF aU=> ?_
 have a3:du I.heap a jn (bV zF (str ig)<|bN #[ak 2,.func (.func 128) #[] #[]]):=aU
 have bk:=mC (k:=ig) (v:=bN #[ak 2,.func (.func 128) #[] #[]]) bj
 have ai:Wk w I:=ah.trans' aF fun k hk h=>by omega
 refine p (cU (ps:= [(0,ak 2),(1,.func (.func 129) #[] #[])]) (L:= [ak 2,.func (.func 129) #[] #[]]) mH aa<|aa)<|e<|mx l8 je (a3) aa aa aa (⟨_,aa⟩) fun V aK a0=> ?_
 have a4:du V.heap a jn (bV (bV zF (str ig)<|bN #[ak 2,.func (.func 128) #[] #[]]) (str iJ)<|bN #[ak 2,.func (.func 129) #[] #[]]):=a0
 have bq:=mC (k:=iJ) (v:=bN #[ak 2,.func (.func 129) #[] #[]]) bk
 have ao:Wk w V:=ai.trans' aK fun k hk h=>by omega
 refine p (cU (ps:= [(0,ak 2),(1,.func (.func 130) #[] #[])]) (L:= [ak 2,.func (.func 130) #[] #[]]) mH aa<|aa)<|e<|mx l8 je (a4) aa aa aa (⟨_,aa⟩) fun Y aL a1=> ?_
 have a8:du Y.heap a jn (bV (bV (bV zF (str ig)<|bN #[ak 2,.func (.func 128) #[] #[]]) (str iJ)<|bN #[ak 2,.func (.func 129) #[] #[]]) (str iS)<|bN #[ak 2,.func (.func 130) #[] #[]]):=a1
 have br:=mC (k:=iS) (v:=bN #[ak 2,.func (.func 130) #[] #[]]) bq
 have ap:Wk w Y:=ao.trans' aL fun k hk h=>by omega
 refine p (cU (ps:= [(0,ak 2),(1,.func (.func 131) #[] #[])]) (L:= [ak 2,.func (.func 131) #[] #[]]) mH aa<|aa)<|e<|mx l8 je (a8) aa aa aa (⟨_,aa⟩) fun Z aM a2=> ?_
 have a9:du Z.heap a jn (bV (bV (bV (bV zF (str ig)<|bN #[ak 2,.func (.func 128) #[] #[]]) (str iJ)<|bN #[ak 2,.func (.func 129) #[] #[]]) (str iS)<|bN #[ak 2,.func (.func 130) #[] #[]]) (str kg)<|bN #[ak 2,.func (.func 131) #[] #[]]):=a2
 have bs:=mC (k:=kg) (v:=bN #[ak 2,.func (.func 131) #[] #[]]) br
 have aq:Wk w Z:=ap.trans' aM fun k hk h=>by omega
 refine p (cU (ps:= [(0,ak 2),(1,.func (.func 131) #[] #[])]) (L:= [ak 2,.func (.func 131) #[] #[]]) mH aa<|aa)<|e<|mx l8 je (a9) aa aa aa (⟨_,aa⟩) fun q aA aP=> ?_
 have ba:du q.heap a jn (bV (bV (bV (bV (bV zF (str ig)<|bN #[ak 2,.func (.func 128) #[] #[]]) (str iJ)<|bN #[ak 2,.func (.func 129) #[] #[]]) (str iS)<|bN #[ak 2,.func (.func 130) #[] #[]]) (str kg)<|bN #[ak 2,.func (.func 131) #[] #[]]) (str kA)<|bN #[ak 2,.func (.func 131) #[] #[]]):=aP
 have bt:=mC (k:=kA) (v:=bN #[ak 2,.func (.func 131) #[] #[]]) bs
 have ar:Wk w q:=aq.trans' aA fun k hk h=>by omega
 refine p (cU (ps:= [(0,ak 2),(1,.func (.func 131) #[] #[])]) (L:= [ak 2,.func (.func 131) #[] #[]]) mH aa<|aa)<|e<|mx l8 je (ba) aa aa aa (⟨_,aa⟩) fun A aB aQ=> ?_
 have bb:du A.heap a jn (bV (bV (bV (bV (bV (bV zF (str ig)<|bN #[ak 2,.func (.func 128) #[] #[]]) (str iJ)<|bN #[ak 2,.func (.func 129) #[] #[]]) (str iS)<|bN #[ak 2,.func (.func 130) #[] #[]]) (str kg)<|bN #[ak 2,.func (.func 131) #[] #[]]) (str kA)<|bN #[ak 2,.func (.func 131) #[] #[]]) (str kP)<|bN #[ak 2,.func (.func 131) #[] #[]]):=aQ
 have bu:=mC (k:=kP) (v:=bN #[ak 2,.func (.func 131) #[] #[]]) bt
 have au:Wk w A:=ar.trans' aB fun k hk h=>by omega
 refine p (cU (ps:= [(0,ak 2),(1,.func (.func 131) #[] #[])]) (L:= [ak 2,.func (.func 131) #[] #[]]) mH aa<|aa)<|e<|mx l8 je (bb) aa aa aa (⟨_,aa⟩) fun C aC aR=> ?_
 have bc:du C.heap a jn (bV (bV (bV (bV (bV (bV (bV zF (str ig)<|bN #[ak 2,.func (.func 128) #[] #[]]) (str iJ)<|bN #[ak 2,.func (.func 129) #[] #[]]) (str iS)<|bN #[ak 2,.func (.func 130) #[] #[]]) (str kg)<|bN #[ak 2,.func (.func 131) #[] #[]]) (str kA)<|bN #[ak 2,.func (.func 131) #[] #[]]) (str kP)<|bN #[ak 2,.func (.func 131) #[] #[]]) (str lf)<|bN #[ak 2,.func (.func 131) #[] #[]]):=aR
 have bv:=mC (k:=lf) (v:=bN #[ak 2,.func (.func 131) #[] #[]]) bu
 have av:Wk w C:=au.trans' aC fun k hk h=>by omega
 refine p (cU (ps:= [(0,ak 2),(1,.func (.func 131) #[] #[])]) (L:= [ak 2,.func (.func 131) #[] #[]]) mH aa<|aa)<|e<|mx l8 je (bc) aa aa aa (⟨_,aa⟩) fun E aD aS=> ?_
 have bd:du E.heap a jn (bV (bV (bV (bV (bV (bV (bV (bV zF (str ig)<|bN #[ak 2,.func (.func 128) #[] #[]]) (str iJ)<|bN #[ak 2,.func (.func 129) #[] #[]]) (str iS)<|bN #[ak 2,.func (.func 130) #[] #[]]) (str kg)<|bN #[ak 2,.func (.func 131) #[] #[]]) (str kA)<|bN #[ak 2,.func (.func 131) #[] #[]]) (str kP)<|bN #[ak 2,.func (.func 131) #[] #[]]) (str lf)<|bN #[ak 2,.func (.func 131) #[] #[]]) (str lJ)<|bN #[ak 2,.func (.func 131) #[] #[]]):=aS
 have bw:=mC (k:=lJ) (v:=bN #[ak 2,.func (.func 131) #[] #[]]) bv
 have ax:Wk w E:=av.trans' aD fun k hk h=>by omega
 refine p (cU (ps:= [(0,ak 2),(1,.func (.func 132) #[] #[])]) (L:= [ak 2,.func (.func 132) #[] #[]]) mH aa<|aa)<|e<|mx l8 je (bd) aa aa aa (⟨_,aa⟩) fun G aE aT=> ?_
 have bf:du G.heap a jn (bV (bV (bV (bV (bV (bV (bV (bV (bV zF (str ig)<|bN #[ak 2,.func (.func 128) #[] #[]]) (str iJ)<|bN #[ak 2,.func (.func 129) #[] #[]]) (str iS)<|bN #[ak 2,.func (.func 130) #[] #[]]) (str kg)<|bN #[ak 2,.func (.func 131) #[] #[]]) (str kA)<|bN #[ak 2,.func (.func 131) #[] #[]]) (str kP)<|bN #[ak 2,.func (.func 131) #[] #[]]) (str lf)<|bN #[ak 2,.func (.func 131) #[] #[]]) (str lJ)<|bN #[ak 2,.func (.func 131) #[] #[]]) (str kf)<|bN #[ak 2,.func (.func 132) #[] #[]]):=aT
 have bx:=mC (k:=kf) (v:=bN #[ak 2,.func (.func 132) #[] #[]]) bw
 have az:Wk w G:=ax.trans' aE fun k hk h=>by omega
 refine p (cU (ps:= [(0,ak 2),(1,.func (.func 133) #[] #[])]) (L:= [ak 2,.func (.func 133) #[] #[]]) mH aa<|aa)<|e<|mx l8 je (bf) aa aa aa (⟨_,aa⟩) fun J aG aV=> ?_
 have bg:du J.heap a jn (bV (bV (bV (bV (bV (bV (bV (bV (bV (bV zF (str ig)<|bN #[ak 2,.func (.func 128) #[] #[]]) (str iJ)<|bN #[ak 2,.func (.func 129) #[] #[]]) (str iS)<|bN #[ak 2,.func (.func 130) #[] #[]]) (str kg)<|bN #[ak 2,.func (.func 131) #[] #[]]) (str kA)<|bN #[ak 2,.func (.func 131) #[] #[]]) (str kP)<|bN #[ak 2,.func (.func 131) #[] #[]]) (str lf)<|bN #[ak 2,.func (.func 131) #[] #[]]) (str lJ)<|bN #[ak 2,.func (.func 131) #[] #[]]) (str kf)<|bN #[ak 2,.func (.func 132) #[] #[]]) (str e9)<|bN #[ak 2,.func (.func 133) #[] #[]]):=aV
 have bl:=mC (k:=e9) (v:=bN #[ak 2,.func (.func 133) #[] #[]]) bx
 have aj:Wk w J:=az.trans' aG fun k hk h=>by omega
 refine p (cU (ps:= [(0,ak 2),(1,.func (.func 134) #[] #[])]) (L:= [ak 2,.func (.func 134) #[] #[]]) mH aa<|aa)<|e<|mx l8 je (bg) aa aa aa (⟨_,aa⟩) fun M aH aW=> ?_
 have a5:du M.heap a jn (bV (bV (bV (bV (bV (bV (bV (bV (bV (bV (bV zF (str ig)<|bN #[ak 2,.func (.func 128) #[] #[]]) (str iJ)<|bN #[ak 2,.func (.func 129) #[] #[]]) (str iS)<|bN #[ak 2,.func (.func 130) #[] #[]]) (str kg)<|bN #[ak 2,.func (.func 131) #[] #[]]) (str kA)<|bN #[ak 2,.func (.func 131) #[] #[]]) (str kP)<|bN #[ak 2,.func (.func 131) #[] #[]]) (str lf)<|bN #[ak 2,.func (.func 131) #[] #[]]) (str lJ)<|bN #[ak 2,.func (.func 131) #[] #[]]) (str kf)<|bN #[ak 2,.func (.func 132) #[] #[]]) (str e9)<|bN #[ak 2,.func (.func 133) #[] #[]]) (str eJ)<|bN #[ak 2,.func (.func 134) #[] #[]]):=aW
 have bm:=mC (k:=eJ) (v:=bN #[ak 2,.func (.func 134) #[] #[]]) bl
 have al:Wk w M:=aj.trans' aH fun k hk h=>by omega
 refine p (cU (ps:= [(0,ak 4),(1,.func (.func 135) #[] #[])]) (L:= [ak 4,.func (.func 135) #[] #[]]) mH aa<|aa)<|e<|mx l8 je (a5) aa aa aa (⟨_,aa⟩) fun O aI aY=> ?_
 have a6:du O.heap a jn (bV (bV (bV (bV (bV (bV (bV (bV (bV (bV (bV (bV zF (str ig)<|bN #[ak 2,.func (.func 128) #[] #[]]) (str iJ)<|bN #[ak 2,.func (.func 129) #[] #[]]) (str iS)<|bN #[ak 2,.func (.func 130) #[] #[]]) (str kg)<|bN #[ak 2,.func (.func 131) #[] #[]]) (str kA)<|bN #[ak 2,.func (.func 131) #[] #[]]) (str kP)<|bN #[ak 2,.func (.func 131) #[] #[]]) (str lf)<|bN #[ak 2,.func (.func 131) #[] #[]]) (str lJ)<|bN #[ak 2,.func (.func 131) #[] #[]]) (str kf)<|bN #[ak 2,.func (.func 132) #[] #[]]) (str e9)<|bN #[ak 2,.func (.func 133) #[] #[]]) (str eJ)<|bN #[ak 2,.func (.func 134) #[] #[]]) (str fE)<|bN #[ak 4,.func (.func 135) #[] #[]]):=aY
 have bn:=mC (k:=fE) (v:=bN #[ak 4,.func (.func 135) #[] #[]]) bm
 have am:Wk w O:=al.trans' aI fun k hk h=>by omega
 refine p (cU (ps:= [(0,ak 4),(1,.func (.func 135) #[] #[])]) (L:= [ak 4,.func (.func 135) #[] #[]]) mH aa<|aa)<|e<|mx l8 je (a6) aa aa aa (⟨_,aa⟩) fun U aJ aZ=> ?_
 have a7:du U.heap a jn (bV (bV (bV (bV (bV (bV (bV (bV (bV (bV (bV (bV (bV zF (str ig)<|bN #[ak 2,.func (.func 128) #[] #[]]) (str iJ)<|bN #[ak 2,.func (.func 129) #[] #[]]) (str iS)<|bN #[ak 2,.func (.func 130) #[] #[]]) (str kg)<|bN #[ak 2,.func (.func 131) #[] #[]]) (str kA)<|bN #[ak 2,.func (.func 131) #[] #[]]) (str kP)<|bN #[ak 2,.func (.func 131) #[] #[]]) (str lf)<|bN #[ak 2,.func (.func 131) #[] #[]]) (str lJ)<|bN #[ak 2,.func (.func 131) #[] #[]]) (str kf)<|bN #[ak 2,.func (.func 132) #[] #[]]) (str e9)<|bN #[ak 2,.func (.func 133) #[] #[]]) (str eJ)<|bN #[ak 2,.func (.func 134) #[] #[]]) (str fE)<|bN #[ak 4,.func (.func 135) #[] #[]]) (str dp)<|bN #[ak 4,.func (.func 135) #[] #[]]):=aZ
 have bp:=mC (k:=dp) (v:=bN #[ak 4,.func (.func 135) #[] #[]]) bn
 have an:Wk w U:=am.trans' aJ fun k hk h=>by omega
 exact p mv<|ay<|ac<|rt<|aX aa<|⟨a,aa,bi,⟨_,a7,fun s=>bp s⟩,an⟩
theorem WD (E G:Nat) (w:World):
 CallsD aw 82 (bh [.pointer (some ⟨E,0,none⟩),.pointer (some ⟨G,0,none⟩)]) .returning w (fun en I w'=> ∃ v,en= .returned v∧I= .returning∧(fun w'=>Wk w w') w'):=by
 refine F5 (v:= .nilIface) func82 aa ntmps82 aa (fun O cs C=> .inr ⟨by simp [recoverD,C],aa,aa⟩) ?_
 refine p (Yg Cv Zp aa)<|p mv<|p (xt aa aa)<|p (xt aa aa)<|e<|al pT fun M Y V A a=>e<|da jU aa aa aa aa (a) (by simp) fun Z q U=>p aB<|nl<|tn<|sq fun J i=>rg aa<|p mv<|nl<|tn<|i _ _<|cf (aa)<|aO<|f0 aa ?_
 exact A.md.trans' q fun k hk h=>by omega
theorem WC (a i:Nat) (ln:Nat) (er:Int) (w:World) (h2:∃ v:Value,w.heap[a]? =some (.cells [v].toArray 60 (0,0))) (h3:∃ L:List Value,L.length=3∧w.heap[i]? =some (.cells L.toArray 47 (0,0))) (U:a≠i):
 CallsD aw 82 (bh [.pointer (some ⟨a,0,none⟩),.pointer (some ⟨i,0,none⟩)]) (.panicking<|jm 47 ln er) w (fun en ao w'=> ∃ v,en= .returned v∧ao=(.panicking [{v:= .iface 47 (.agg [.int .i64 1,.int .i64 (ln:Nat),.int .i64 er].toArray),recovered:=true}])∧(fun w'=>w'.heap[a]? =some (.cells [.pointer none].toArray 60 (0,0))∧w'.heap[i]? =some (.cells [.int .i64 1,.int .i64 (ln:Nat),.int .i64 er].toArray 47 (0,0))∧Md (fun k=>k=a∨k=i) w w') w'):=by
 obtain ⟨v2,h2⟩:=h2
 obtain ⟨J,ah,h3⟩:=h3
 have ay:=(cQ.1 h2).1
 have az:=(cQ.1 h3).1
 refine F5 (v:= .iface 47<|.agg [.int .i64 1,.int .i64 (ln:Nat),.int .i64 er].toArray) func82 aa ntmps82 aa (fun au cs am=> .inl<|by simp [recoverD,am,jm]) ?_
 refine p (Yf Cv aa)<|p mv<|p (xt aa aa)<|p (xt aa aa)<|e<|al pT fun V aA av G Z=>e<|da jU aa aa aa aa (Z) (by simp) fun q A Y=> ?_
 have ae:bO q.heap V [.int .i64 1,.int .i64 (ln:Nat),.int .i64 er]:=Y
 refine p aB<|nl<|tn<|sq fun ar ag=>rg aa<|p mv<|nl<|tn<|ag _ _<|ct (aa) ?_
 have I:(fun w'=>Md (fun k=>k=a∨k=i) q w') q.drew:=(Md.refl _ _).drew
 refine bM (fun w'=>Md (fun k=>k=a∨k=i) q w') aa wide I<|hp 0 aa aj (fun w' ai=>c8 k5 aa (aa) fun j ax=>bO.bE (Md.B ai ae fun h=>by omega) j) I<|he 1 aa aj<|cJ A0 aa aa (v:= .pointer none) aa (A.aM (Wk.aM G.md h2) fun h=>by omega) (by show 0 < 1; decide) fun ap C ac=> ?_
 have O:(fun w'=>Md (fun k=>k=a∨k=i) q w') ap:=I.trans' C fun _ _ h=> .inl h
 refine ⟨O,?_⟩
 refine he 2 aa aj<|fZ jU aa aa aa aa (C.aM (A.aM (Wk.aM G.md h3) fun h=>by omega) fun h=>U h.symm) (by rw [ah]; decide) fun aq E M=> ?_
 have ak:(fun w'=>Md (fun k=>k=a∨k=i) q w') aq:=O.trans' E fun _ _ h=> .inr h
 refine ⟨ak,?_⟩
 refine hn aj<|f0 aa ?_
 have an:J.take 0 ++ [jk .i64 1,.int .i64 (ln:Nat),.int .i64 er]++J.drop (0 +3)= [jk .i64 1,.int .i64 (ln:Nat),.int .i64 er]:=by rw [gV ab]; rfl
 rw [an] at M
 exact ⟨E.aM ac U,M,(((G.md.mono fun _ _ h=>h.elim).trans' A fun k hk h=>by omega).trans' (il C) fun _ _ h=> .inl h).trans' E fun _ _ h=> .inr h⟩
theorem JZ (a i:Nat) (w:World):(invoke (.fn (.func 82) #[aR a,aR i]) #[]).run aw w= .ok (.enter 82 #[aR a,aR i]) w:=by
 have h:=Qf #[aR a,aR i] w
 simp [invoke,h]
theorem xF {n:Nat} {D:List Deferred} {G:List Nat} {σ:Nat→Value} {t:Nat} (h:t < n):ev ⟨n,D,G,none⟩ σ (.tmp t)=σ t:=by
 show cond (Nat.blt t n) (σ t) undef=_
 rw [show Nat.blt t n=true from by simpa using h]; rfl
theorem WH {n:Nat} {G:List Nat} {fn:Func} {R:Value→World→Prop} {σ:Nat→Value} {w:World} {a i ln:Nat} {er:Int} (I:fn.results= #[.cell 2 60,.cell 3 47]) (O:3 < n) (J:σ 2= .pointer (some ⟨a,0,none⟩)) (M:σ 3= .pointer (some ⟨i,0,none⟩)) (h2:∃ v:Value,w.heap[a]? =some (.cells [v].toArray 60 (0,0))) (h3:∃ L:List Value,L.length=3∧w.heap[i]? =some (.cells L.toArray 47 (0,0))) (E:a≠i)
 (q:∀ w',Md (fun k=>k=a∨k=i) w w'→R (.tuple #[.pointer none,.agg [.int .i64 1,.int .i64 (ln:Nat),.int .i64 er].toArray]) w'):qb ⟨n,[{target:= .fn (.func 82) #[.pointer (some ⟨a,0,none⟩),.pointer (some ⟨i,0,none⟩)],args:= #[]}],G,none⟩ (p5 aw fn R) (.panic<|jm 47 ln er) σ w:=by
 refine SN (JZ a i w) (WC a i ln er w h2 h3 E) ?_
 rintro w' ⟨A,C,hm⟩
 exact ⟨_,yI I (mD<|rJ ((xF ab).trans J) gl<|(a7 A).trans aa) (mD<|dP (cs:= [.int .i64 1,.int .i64 (ln:Nat),.int .i64 er]) ((xF ab).trans M) k5 aa fun j _=>by rw [gW,a7 C]; simp),q w' hm⟩
theorem WI {n:Nat} {G:List Nat} {fn:Func} {R:Value→World→Prop} {σ:Nat→Value} {w:World} {a i:Nat} {v:Value} {L:List Value} (I:fn.results= #[.cell 2 60,.cell 3 47]) (O:3 < n) (J:σ 2= .pointer (some ⟨a,0,none⟩)) (M:σ 3= .pointer (some ⟨i,0,none⟩)) (h2:w.heap[a]? =some (.cells [v].toArray 60 (0,0))) (h3:w.heap[i]? =some (.cells L.toArray 47 (0,0))) (q:L.length=3)
 (A:∀ w',Wk w w'→R (.tuple #[v,.agg L.toArray]) w'):qb ⟨n,[{target:= .fn (.func 82) #[.pointer (some ⟨a,0,none⟩),.pointer (some ⟨i,0,none⟩)],args:= #[]}],G,none⟩ (p5 aw fn R) .ret σ w:=by
 refine SM (JZ a i w) (WD a i w) ?_
 intro w' hm
 have C:=Wk.aM hm h2
 have E:=Wk.aM hm h3
 exact ⟨_,yI I (mD<|rJ ((xF ab).trans J) gl<|(a7 C).trans aa) (mD<|dP (cs:=L) ((xF ab).trans M) k5 q fun j _=>by rw [gW,a7 E]; simp),A w' hm⟩
end Go.Hb
section
namespace Go.Hb
open Go.Hb.nq
theorem T3 (B:Nat) (H:dt) (F:aT) (rows:List Rw) (ln:Nat) (seen:List Tx) (r:List Tx) (a:Nat) (ar:Option Addr) (cr:Nat) (w:World) (i:St w B H F rows ln seen) (q:Tg w a 9 r.length (.slice ar r.length cr) (r.map str)) (A:∀ x∈r,x.length≤70000) (hw:r.length=width (r.getD 0 [])) (G:kp F seen) (E:width (r.getD 0 [])=2→r.getD 0 []∉seen) (C:F.dm.length+F.aliases.length+F.bw.length+F.rules.length+rows.length < 70000) (hk:r.getD 0 []=ig):fC aw 128 (bh [.pointer (some ⟨H.rb,0,none⟩),.slice ar r.length cr]) w (jt B H seen (cw H.eof F seen rows ln r) w) (js B H (cw H.eof F seen rows ln r) w):=by
 have h:=U3 B H F rows ln seen r a ar cr w i q (by rw [hw,hk]; decide) A
 rw [show cw H.eof F seen rows ln r=kB F seen rows ln r from by unfold cw; rw [hk]; rfl]
 exact h
theorem Ub (B:Nat) (H:dt) (F:aT) (rows:List Rw) (ln:Nat) (seen:List Tx) (r:List Tx) (a:Nat) (ar:Option Addr) (cr:Nat) (w:World) (i:St w B H F rows ln seen) (q:Tg w a 9 r.length (.slice ar r.length cr) (r.map str)) (A:∀ x∈r,x.length≤70000) (hw:r.length=width (r.getD 0 [])) (G:kp F seen) (E:width (r.getD 0 [])=2→r.getD 0 []∉seen) (C:F.dm.length+F.aliases.length+F.bw.length+F.rules.length+rows.length < 70000) (hk:r.getD 0 []=iJ):fC aw 129 (bh [.pointer (some ⟨H.rb,0,none⟩),.slice ar r.length cr]) w (jt B H seen (cw H.eof F seen rows ln r) w) (js B H (cw H.eof F seen rows ln r) w):=by
 have h:=Qq B H F rows ln seen r a ar cr w i q (by rw [hw,hk]; decide) A
 rw [show cw H.eof F seen rows ln r=mF F rows ln r from by unfold cw; rw [hk]; rfl]
 exact h
theorem Ud (B:Nat) (H:dt) (F:aT) (rows:List Rw) (ln:Nat) (seen:List Tx) (r:List Tx) (a:Nat) (ar:Option Addr) (cr:Nat) (w:World) (i:St w B H F rows ln seen) (q:Tg w a 9 r.length (.slice ar r.length cr) (r.map str)) (A:∀ x∈r,x.length≤70000) (hw:r.length=width (r.getD 0 [])) (G:kp F seen) (E:width (r.getD 0 [])=2→r.getD 0 []∉seen) (C:F.dm.length+F.aliases.length+F.bw.length+F.rules.length+rows.length < 70000) (hk:r.getD 0 []=iS):fC aw 130 (bh [.pointer (some ⟨H.rb,0,none⟩),.slice ar r.length cr]) w (jt B H seen (cw H.eof F seen rows ln r) w) (js B H (cw H.eof F seen rows ln r) w):=by
 have h:=Yz B H F rows ln seen r a ar cr w i q (by rw [hw,hk]; decide) A
 rw [show cw H.eof F seen rows ln r=mJ F rows ln r from by unfold cw; rw [hk]; rfl]
 exact h
theorem T7 (B:Nat) (H:dt) (F:aT) (rows:List Rw) (ln:Nat) (seen:List Tx) (r:List Tx) (a:Nat) (ar:Option Addr) (cr:Nat) (w:World) (i:St w B H F rows ln seen) (q:Tg w a 9 r.length (.slice ar r.length cr) (r.map str)) (C:∀ x∈r,x.length≤70000) (hw:r.length=width (r.getD 0 [])) (E:kp F seen) (A:width (r.getD 0 [])=2→r.getD 0 []∉seen) (G:F.dm.length+F.aliases.length+F.bw.length+F.rules.length+rows.length < 70000) (hk:r.getD 0 []=kg):fC aw 131 (bh [.pointer (some ⟨H.rb,0,none⟩),.slice ar r.length cr]) w (jt B H seen (cw H.eof F seen rows ln r) w) (js B H (cw H.eof F seen rows ln r) w):=by
 have h:=vy B H F rows ln seen r a ar cr w i q (by rw [hw,hk]; decide) C (by rw [hk]; decide)<|E _ (by rw [hk]; decide)<|A<|by rw [hk]; decide
 rw [show cw H.eof F seen rows ln r=kj F rows ln r from by unfold cw; rw [hk]; rfl]
 exact h
theorem T4 (B:Nat) (H:dt) (F:aT) (rows:List Rw) (ln:Nat) (seen:List Tx) (r:List Tx) (a:Nat) (ar:Option Addr) (cr:Nat) (w:World) (i:St w B H F rows ln seen) (q:Tg w a 9 r.length (.slice ar r.length cr) (r.map str)) (C:∀ x∈r,x.length≤70000) (hw:r.length=width (r.getD 0 [])) (E:kp F seen) (A:width (r.getD 0 [])=2→r.getD 0 []∉seen) (G:F.dm.length+F.aliases.length+F.bw.length+F.rules.length+rows.length < 70000) (hk:r.getD 0 []=kA):fC aw 131 (bh [.pointer (some ⟨H.rb,0,none⟩),.slice ar r.length cr]) w (jt B H seen (cw H.eof F seen rows ln r) w) (js B H (cw H.eof F seen rows ln r) w):=by
 have h:=vy B H F rows ln seen r a ar cr w i q (by rw [hw,hk]; decide) C (by rw [hk]; decide)<|E _ (by rw [hk]; decide)<|A<|by rw [hk]; decide
 rw [show cw H.eof F seen rows ln r=kj F rows ln r from by unfold cw; rw [hk]; rfl]
 exact h
theorem T5 (B:Nat) (H:dt) (F:aT) (rows:List Rw) (ln:Nat) (seen:List Tx) (r:List Tx) (a:Nat) (ar:Option Addr) (cr:Nat) (w:World) (i:St w B H F rows ln seen) (q:Tg w a 9 r.length (.slice ar r.length cr) (r.map str)) (C:∀ x∈r,x.length≤70000) (hw:r.length=width (r.getD 0 [])) (E:kp F seen) (A:width (r.getD 0 [])=2→r.getD 0 []∉seen) (G:F.dm.length+F.aliases.length+F.bw.length+F.rules.length+rows.length < 70000) (hk:r.getD 0 []=kP):fC aw 131 (bh [.pointer (some ⟨H.rb,0,none⟩),.slice ar r.length cr]) w (jt B H seen (cw H.eof F seen rows ln r) w) (js B H (cw H.eof F seen rows ln r) w):=by
 have h:=vy B H F rows ln seen r a ar cr w i q (by rw [hw,hk]; decide) C (by rw [hk]; decide)<|E _ (by rw [hk]; decide)<|A<|by rw [hk]; decide
 rw [show cw H.eof F seen rows ln r=kj F rows ln r from by unfold cw; rw [hk]; rfl]
 exact h
theorem T2 (B:Nat) (H:dt) (F:aT) (rows:List Rw) (ln:Nat) (seen:List Tx) (r:List Tx) (a:Nat) (ar:Option Addr) (cr:Nat) (w:World) (i:St w B H F rows ln seen) (q:Tg w a 9 r.length (.slice ar r.length cr) (r.map str)) (C:∀ x∈r,x.length≤70000) (hw:r.length=width (r.getD 0 [])) (E:kp F seen) (A:width (r.getD 0 [])=2→r.getD 0 []∉seen) (G:F.dm.length+F.aliases.length+F.bw.length+F.rules.length+rows.length < 70000) (hk:r.getD 0 []=lf):fC aw 131 (bh [.pointer (some ⟨H.rb,0,none⟩),.slice ar r.length cr]) w (jt B H seen (cw H.eof F seen rows ln r) w) (js B H (cw H.eof F seen rows ln r) w):=by
 have h:=vy B H F rows ln seen r a ar cr w i q (by rw [hw,hk]; decide) C (by rw [hk]; decide)<|E _ (by rw [hk]; decide)<|A<|by rw [hk]; decide
 rw [show cw H.eof F seen rows ln r=kj F rows ln r from by unfold cw; rw [hk]; rfl]
 exact h
theorem T8 (B:Nat) (H:dt) (F:aT) (rows:List Rw) (ln:Nat) (seen:List Tx) (r:List Tx) (a:Nat) (ar:Option Addr) (cr:Nat) (w:World) (i:St w B H F rows ln seen) (q:Tg w a 9 r.length (.slice ar r.length cr) (r.map str)) (C:∀ x∈r,x.length≤70000) (hw:r.length=width (r.getD 0 [])) (E:kp F seen) (A:width (r.getD 0 [])=2→r.getD 0 []∉seen) (G:F.dm.length+F.aliases.length+F.bw.length+F.rules.length+rows.length < 70000) (hk:r.getD 0 []=lJ):fC aw 131 (bh [.pointer (some ⟨H.rb,0,none⟩),.slice ar r.length cr]) w (jt B H seen (cw H.eof F seen rows ln r) w) (js B H (cw H.eof F seen rows ln r) w):=by
 have h:=vy B H F rows ln seen r a ar cr w i q (by rw [hw,hk]; decide) C (by rw [hk]; decide)<|E _ (by rw [hk]; decide)<|A<|by rw [hk]; decide
 rw [show cw H.eof F seen rows ln r=kj F rows ln r from by unfold cw; rw [hk]; rfl]
 exact h
theorem T6 (B:Nat) (H:dt) (F:aT) (rows:List Rw) (ln:Nat) (seen:List Tx) (r:List Tx) (a:Nat) (ar:Option Addr) (cr:Nat) (w:World) (i:St w B H F rows ln seen) (q:Tg w a 9 r.length (.slice ar r.length cr) (r.map str)) (A:∀ x∈r,x.length≤70000) (hw:r.length=width (r.getD 0 [])) (G:kp F seen) (E:width (r.getD 0 [])=2→r.getD 0 []∉seen) (C:F.dm.length+F.aliases.length+F.bw.length+F.rules.length+rows.length < 70000) (hk:r.getD 0 []=kf):fC aw 132 (bh [.pointer (some ⟨H.rb,0,none⟩),.slice ar r.length cr]) w (jt B H seen (cw H.eof F seen rows ln r) w) (js B H (cw H.eof F seen rows ln r) w):=by
 have h:=U7 B H F rows ln seen r a ar cr w i q (by rw [hw,hk]; decide) A
 rw [show cw H.eof F seen rows ln r=kR F rows ln r from by unfold cw; rw [hk]; rfl]
 exact h
theorem Ua (B:Nat) (H:dt) (F:aT) (rows:List Rw) (ln:Nat) (seen:List Tx) (r:List Tx) (a:Nat) (ar:Option Addr) (cr:Nat) (w:World) (i:St w B H F rows ln seen) (q:Tg w a 9 r.length (.slice ar r.length cr) (r.map str)) (A:∀ x∈r,x.length≤70000) (hw:r.length=width (r.getD 0 [])) (G:kp F seen) (E:width (r.getD 0 [])=2→r.getD 0 []∉seen) (C:F.dm.length+F.aliases.length+F.bw.length+F.rules.length+rows.length < 70000) (hk:r.getD 0 []=e9):fC aw 133 (bh [.pointer (some ⟨H.rb,0,none⟩),.slice ar r.length cr]) w (jt B H seen (cw H.eof F seen rows ln r) w) (js B H (cw H.eof F seen rows ln r) w):=by
 have h:=WO B H F rows ln seen r a ar cr w i q (by rw [hw,hk]; decide) A
 rw [show cw H.eof F seen rows ln r=ki H.eof F rows ln r from by unfold cw; rw [hk]; rfl]
 exact h
theorem T1 (B:Nat) (H:dt) (F:aT) (rows:List Rw) (ln:Nat) (seen:List Tx) (r:List Tx) (a:Nat) (ar:Option Addr) (cr:Nat) (w:World) (i:St w B H F rows ln seen) (q:Tg w a 9 r.length (.slice ar r.length cr) (r.map str)) (A:∀ x∈r,x.length≤70000) (hw:r.length=width (r.getD 0 [])) (G:kp F seen) (E:width (r.getD 0 [])=2→r.getD 0 []∉seen) (C:F.dm.length+F.aliases.length+F.bw.length+F.rules.length+rows.length < 70000) (hk:r.getD 0 []=eJ):fC aw 134 (bh [.pointer (some ⟨H.rb,0,none⟩),.slice ar r.length cr]) w (jt B H seen (cw H.eof F seen rows ln r) w) (js B H (cw H.eof F seen rows ln r) w):=by
 have h:=NY B H F rows ln seen r a ar cr w i q (by rw [hw,hk]; decide) A
 rw [show cw H.eof F seen rows ln r=jT H.eof F seen rows ln r from by unfold cw; rw [hk]; rfl]
 exact h
theorem T9 (B:Nat) (H:dt) (F:aT) (rows:List Rw) (ln:Nat) (seen:List Tx) (r:List Tx) (a:Nat) (ar:Option Addr) (cr:Nat) (w:World) (i:St w B H F rows ln seen) (q:Tg w a 9 r.length (.slice ar r.length cr) (r.map str)) (C:∀ x∈r,x.length≤70000) (hw:r.length=width (r.getD 0 [])) (G:kp F seen) (E:width (r.getD 0 [])=2→r.getD 0 []∉seen) (A:F.dm.length+F.aliases.length+F.bw.length+F.rules.length+rows.length < 70000) (hk:r.getD 0 []=fE):fC aw 135 (bh [.pointer (some ⟨H.rb,0,none⟩),.slice ar r.length cr]) w (jt B H seen (cw H.eof F seen rows ln r) w) (js B H (cw H.eof F seen rows ln r) w):=by
 have h:=F9 B H F rows ln seen r a ar cr w i q (by rw [hw,hk]; decide) C A
 rw [show cw H.eof F seen rows ln r=gM H.eof F rows ln r from by unfold cw; rw [hk]; rfl]
 exact h
theorem Uc (B:Nat) (H:dt) (F:aT) (rows:List Rw) (ln:Nat) (seen:List Tx) (r:List Tx) (a:Nat) (ar:Option Addr) (cr:Nat) (w:World) (i:St w B H F rows ln seen) (q:Tg w a 9 r.length (.slice ar r.length cr) (r.map str)) (C:∀ x∈r,x.length≤70000) (hw:r.length=width (r.getD 0 [])) (G:kp F seen) (E:width (r.getD 0 [])=2→r.getD 0 []∉seen) (A:F.dm.length+F.aliases.length+F.bw.length+F.rules.length+rows.length < 70000) (hk:r.getD 0 []=dp):fC aw 135 (bh [.pointer (some ⟨H.rb,0,none⟩),.slice ar r.length cr]) w (jt B H seen (cw H.eof F seen rows ln r) w) (js B H (cw H.eof F seen rows ln r) w):=by
 have h:=F9 B H F rows ln seen r a ar cr w i q (by rw [hw,hk]; decide) C A
 rw [show cw H.eof F seen rows ln r=gM H.eof F rows ln r from by unfold cw; rw [hk]; rfl]
 exact h
theorem IB (B:Nat) (H:dt) (F:aT) (rows:List Rw) (ln:Nat) (seen:List Tx) (r:List Tx) (i:Nat) (ar:Option Addr) (cr:Nat) (w:World) (q:St w B H F rows ln seen) (A:Tg w i 9 r.length (.slice ar r.length cr) (r.map str)) (G:∀ x∈r,x.length≤70000) (hw:r.length=width (r.getD 0 [])) (I:kp F seen) (E:width (r.getD 0 [])=2→r.getD 0 []∉seen) (C:F.dm.length+F.aliases.length+F.bw.length+F.rules.length+rows.length < 70000) {v:Value} (a:iG (r.getD 0 [])=some v):∃ f:Nat,v= .agg [.int .i64 (width (r.getD 0 []):Nat),.func (.func f) #[] #[]].toArray∧bm aw f∧fC aw f (bh [.pointer (some ⟨H.rb,0,none⟩),.slice ar r.length cr]) w (jt B H seen (cw H.eof F seen rows ln r) w) (js B H (cw H.eof F seen rows ln r) w):=by
 unfold iG at a
 by_cases hk:r.getD 0 []=dp
 · rw [if_pos hk] at a; cases a; exact ⟨_,by rw [hk]; rfl,Fi,Uc B H F rows ln seen r i ar cr w q A G hw I E C hk⟩
 · rw [if_neg hk] at a; clear hk
   by_cases hk:r.getD 0 []=fE
   · rw [if_pos hk] at a; cases a; exact ⟨_,by rw [hk]; rfl,Fi,T9 B H F rows ln seen r i ar cr w q A G hw I E C hk⟩
   · rw [if_neg hk] at a; clear hk
     by_cases hk:r.getD 0 []=eJ
     · rw [if_pos hk] at a; cases a; exact ⟨_,by rw [hk]; rfl,OO,T1 B H F rows ln seen r i ar cr w q A G hw I E C hk⟩
     · rw [if_neg hk] at a; clear hk
       by_cases hk:r.getD 0 []=e9
       · rw [if_pos hk] at a; cases a; exact ⟨_,by rw [hk]; rfl,ON,Ua B H F rows ln seen r i ar cr w q A G hw I E C hk⟩
       · rw [if_neg hk] at a; clear hk
         by_cases hk:r.getD 0 []=kf
         · rw [if_pos hk] at a; cases a; exact ⟨_,by rw [hk]; rfl,OM,T6 B H F rows ln seen r i ar cr w q A G hw I E C hk⟩
         · rw [if_neg hk] at a; clear hk
           by_cases hk:r.getD 0 []=lJ
           · rw [if_pos hk] at a; cases a; exact ⟨_,by rw [hk]; rfl,um,T8 B H F rows ln seen r i ar cr w q A G hw I E C hk⟩
           · rw [if_neg hk] at a; clear hk
             by_cases hk:r.getD 0 []=lf
             · rw [if_pos hk] at a; cases a; exact ⟨_,by rw [hk]; rfl,um,T2 B H F rows ln seen r i ar cr w q A G hw I E C hk⟩
             · rw [if_neg hk] at a; clear hk
               by_cases hk:r.getD 0 []=kP
               · rw [if_pos hk] at a; cases a; exact ⟨_,by rw [hk]; rfl,um,T5 B H F rows ln seen r i ar cr w q A G hw I E C hk⟩
               · rw [if_neg hk] at a; clear hk
                 by_cases hk:r.getD 0 []=kA
                 · rw [if_pos hk] at a; cases a; exact ⟨_,by rw [hk]; rfl,um,T4 B H F rows ln seen r i ar cr w q A G hw I E C hk⟩
                 · rw [if_neg hk] at a; clear hk
                   by_cases hk:r.getD 0 []=kg
                   · rw [if_pos hk] at a; cases a; exact ⟨_,by rw [hk]; rfl,um,T7 B H F rows ln seen r i ar cr w q A G hw I E C hk⟩
                   · rw [if_neg hk] at a; clear hk
                     by_cases hk:r.getD 0 []=iS
                     · rw [if_pos hk] at a; cases a; exact ⟨_,by rw [hk]; rfl,OL,Ud B H F rows ln seen r i ar cr w q A G hw I E C hk⟩
                     · rw [if_neg hk] at a; clear hk
                       by_cases hk:r.getD 0 []=iJ
                       · rw [if_pos hk] at a; cases a; exact ⟨_,by rw [hk]; rfl,OJ,Ub B H F rows ln seen r i ar cr w q A G hw I E C hk⟩
                       · rw [if_neg hk] at a; clear hk
                         by_cases hk:r.getD 0 []=ig
                         · rw [if_pos hk] at a; cases a; exact ⟨_,by rw [hk]; rfl,OI,T3 B H F rows ln seen r i ar cr w q A G hw I E C hk⟩
                         · rw [if_neg hk] at a; clear hk
                           cases a
theorem Iy {s:Tx} (a:iG s=none):width s=0:=by
 unfold iG at a
 by_cases V:s=dp
 · rw [if_pos V] at a; cases a
 · rw [if_neg V] at a
   by_cases M:s=fE
   · rw [if_pos M] at a; cases a
   · rw [if_neg M] at a
     by_cases i:s=eJ
     · rw [if_pos i] at a; cases a
     · rw [if_neg i] at a
       by_cases O:s=e9
       · rw [if_pos O] at a; cases a
       · rw [if_neg O] at a
         by_cases G:s=kf
         · rw [if_pos G] at a; cases a
         · rw [if_neg G] at a
           by_cases J:s=lJ
           · rw [if_pos J] at a; cases a
           · rw [if_neg J] at a
             by_cases q:s=lf
             · rw [if_pos q] at a; cases a
             · rw [if_neg q] at a
               by_cases E:s=kP
               · rw [if_pos E] at a; cases a
               · rw [if_neg E] at a
                 by_cases C:s=kA
                 · rw [if_pos C] at a; cases a
                 · rw [if_neg C] at a
                   by_cases I:s=kg
                   · rw [if_pos I] at a; cases a
                   · rw [if_neg I] at a
                     by_cases Y:s=iS
                     · rw [if_pos Y] at a; cases a
                     · rw [if_neg Y] at a
                       by_cases U:s=iJ
                       · rw [if_pos U] at a; cases a
                       · rw [if_neg U] at a
                         by_cases A:s=ig
                         · rw [if_pos A] at a; cases a
                         · rw [if_neg A] at a
                           unfold width ec; simp [A,U,Y,I,C,E,q,J,G,O,i,M,V]
theorem Cc (s:Tx):iG s=none∨∃ (wd f:Nat),iG s=some (bN #[.int .i64 (wd:Nat),.func (.func f) #[] #[]])∧width s=wd∧wd≠0:=by
 by_cases a:s=dp
 · exact .inr ⟨4,135,by unfold iG; rw [if_pos a],by rw [a]; decide,az⟩
 by_cases i:s=fE
 · exact .inr ⟨4,135,by unfold iG; rw [if_neg a,if_pos i],by rw [i]; decide,az⟩
 by_cases q:s=eJ
 · exact .inr ⟨2,134,by unfold iG; rw [if_neg a,if_neg i,if_pos q],by rw [q]; decide,az⟩
 by_cases A:s=e9
 · exact .inr ⟨2,133,by unfold iG; rw [if_neg a,if_neg i,if_neg q,if_pos A],by rw [A]; decide,az⟩
 by_cases C:s=kf
 · exact .inr ⟨2,132,by unfold iG; rw [if_neg a,if_neg i,if_neg q,if_neg A,if_pos C],by rw [C]; decide,az⟩
 by_cases E:s=lJ
 · exact .inr ⟨2,131,by unfold iG; rw [if_neg a,if_neg i,if_neg q,if_neg A,if_neg C,if_pos E],by rw [E]; decide,az⟩
 by_cases G:s=lf
 · exact .inr ⟨2,131,by unfold iG; rw [if_neg a,if_neg i,if_neg q,if_neg A,if_neg C,if_neg E,if_pos G],by rw [G]; decide,az⟩
 by_cases I:s=kP
 · exact .inr ⟨2,131,by unfold iG; rw [if_neg a,if_neg i,if_neg q,if_neg A,if_neg C,if_neg E,if_neg G,if_pos I],by rw [I]; decide,az⟩
 by_cases J:s=kA
 · exact .inr ⟨2,131,by unfold iG; rw [if_neg a,if_neg i,if_neg q,if_neg A,if_neg C,if_neg E,if_neg G,if_neg I,if_pos J],by rw [J]; decide,az⟩
 by_cases M:s=kg
 · exact .inr ⟨2,131,by unfold iG; rw [if_neg a,if_neg i,if_neg q,if_neg A,if_neg C,if_neg E,if_neg G,if_neg I,if_neg J,if_pos M],by rw [M]; decide,az⟩
 by_cases O:s=iS
 · exact .inr ⟨2,130,by unfold iG; rw [if_neg a,if_neg i,if_neg q,if_neg A,if_neg C,if_neg E,if_neg G,if_neg I,if_neg J,if_neg M,if_pos O],by rw [O]; decide,az⟩
 by_cases U:s=iJ
 · exact .inr ⟨2,129,by unfold iG; rw [if_neg a,if_neg i,if_neg q,if_neg A,if_neg C,if_neg E,if_neg G,if_neg I,if_neg J,if_neg M,if_neg O,if_pos U],by rw [U]; decide,az⟩
 by_cases V:s=ig
 · exact .inr ⟨2,128,by unfold iG; rw [if_neg a,if_neg i,if_neg q,if_neg A,if_neg C,if_neg E,if_neg G,if_neg I,if_neg J,if_neg M,if_neg O,if_neg U,if_pos V],by rw [V]; decide,az⟩
 refine .inl ?_
 unfold iG
 rw [if_neg a,if_neg i,if_neg q,if_neg A,if_neg C,if_neg E,if_neg G,if_neg I,if_neg J,if_neg M,if_neg O,if_neg U,if_neg V]
end Go.Hb
end
namespace Go.Hb.wv
theorem TA {α:Type} {l:List α} {i:Nat} {d:α} (h:i < l.length):l.getD i d∈l:=by
 rw [cV,cD h]; exact List.getElem_mem h
def jX (n:Nat) (a:List (List UInt8)):List (Nat×List UInt8):=(a.zipIdx n).map fun q=>(q.2,q.1)
theorem VR (n:Nat) (l:List UInt8) (a:List (List UInt8)):jX n (l::a)=(n,l)::jX (n+1) a:=by simp [jX,List.zipIdx_cons]
theorem VS (n:Nat):jX n []= []:=rfl
theorem CA (n:Nat) (a:List (List UInt8)):(jX n a).map np=a:=by
 unfold jX; rw [List.map_map]; exact List.zipIdx_map_fst n a
theorem JB (n:Nat) (a:List (List UInt8)):(jX n a).length=a.length:=by simp [jX]
def xA (x:Nat×List UInt8):Array Value:= #[.int .i64 x.1,str x.2]
theorem Cz {a:List (List UInt8)} {n:Nat} {pre:List (Nat×List UInt8)} {x:Nat×List UInt8} {rest:List (Nat×List UInt8)} (h:jX n a=pre++x::rest):pre.length < a.length∧x.1=n+pre.length∧a=pre.map np++x.2::rest.map np:=by
 have h1:=congrArg jy h
 rw [JB,bL,cT] at h1
 have h2:=congrArg (List.map np) h
 rw [CA,iq,List.map_cons] at h2
 refine ⟨ab,?_,h2⟩
 have h3:=congrArg (fun l=>l[pre.length]?) h
 simp only [jX,im,List.getElem?_zipIdx,mN (cB _),Nat.sub_self,tU] at h3
 cases h4:a[pre.length]? with
 | none=>rw [h4] at h3; cases h3
 | some q=>rw [h4] at h3; cases h3; rfl
theorem sP (s:List UInt8) (w:World):
 bo aw 126 (bh [str s]) w (fun v w'=> ∃ b,v= .func (.func 189) #[] #[aR b]∧w.heap.size≤b∧w'.heap[b]? =some (.cells [str s].toArray 9 (0,0))∧Wk w w'):=by
 exact enter func126 aa ntmps126 aa<|ag fun a=>e<|xc aa aa fun q G E C A=>ay<|a<|ag fun i=>p Jk<|ay<|i<|rt<|aX aa<|⟨q,aa,ab,A,C.md⟩
theorem A8 (s:List UInt8) (b:Nat) (hs:s.length≤65536) (l:Nat) (a:List (Nat×List UInt8)→World→Prop) (w:World) (J:a [] w) (aD:∀ pre W,a pre W→W.heap[b]? =some (.cells [str s].toArray 9 (0,0))) (bM:∀ pre i G,a pre i→Wk i G→a pre G) (aI:∀ pre x rest i,(jX 1<|bJ s)=pre++x::rest→a pre i→YieldAt Fence.wide 0 aw l (xA x) i fun e W'=>e= .returned (.bool true)∧a (pre++ [x]) W'):
 bo aw 189 (bh [.func (.yield l) #[] #[],aR b]) w (fun v w'=>a (jX 1<|bJ s) w'):=by
 have O:=aD _ _ J
 refine enter func189 aa ntmps189 aa<|aC fun V=>ag fun Z=>p (ld bU aa<|(a7 O).trans aa)<|p (cy u9 aa aa)<|p (gt aa aa)<|nl<|Z<|cd aa (fun h=>absurd h ab) fun aK=> ?_
 refine aO<|V<|ag fun ac=>p (ld bU aa<|(a7 O).trans aa)<|e<|cl F3 (Lo s qz _ ab az) aa fun v12 aT ar=> ?_
 obtain ⟨rfl,an⟩:=ar
 refine ay<|ac<|ag fun ae=>ay<|ae<|aM<|lp (fun I A E=> ∃ (r:List UInt8) (pre:List (Nat×List UInt8)),(r.length≤s.length)∧((jX 1<|bJ s)=pre++jX (pre.length+1) (fX [] r))∧(a pre E)∧(pre.length≤s.length)∧(A 0= .func (.yield l) #[] #[])∧(A 3=str r)∧(A 4=ak (pre.length+1))∧(r.length=I)) _ ⟨kU s,[],(y8 s),aa,(bM _ _ _ J an),(Nat.zero_le _),aa,aa,(iv<|by first | rfl | (rw [bL]; rfl)),aa⟩ ?_
 rintro I A E ⟨r,pre,aP,U,M,aL,aF,aG,aH,rfl⟩
 refine fx 0 aF<|fx 3 aG<|fx 4 aH<|aC fun ah=>ag fun ai=>au (str r)<|p (oG aa aa)<|nl<|ai<|cd aa (fun q=> ?_) fun q=> ?_
 have C:(jX 1<|bJ s)=pre++(pre.length+1,jK (mo 10 r))::jX (pre.length+2) (fX []<|nC 10 r):=by rw [U,Vn q,VR]
 have aN:=Rs (c:=10) q
 have aJ:=Ro 10 r
 refine aO<|ah<|aC fun aj=>aM<|ag fun al=>au (str r)<|e<|cl O6 (Rt r 10 _ ab) aa fun aQ aV av=> ?_
 obtain ⟨rfl,ao⟩:=av
 refine p mv<|p (xt aa aa)<|p (xt aa aa)<|p (xt aa aa)<|p aB<|p aB<|p aB<|nl<|al<|ag fun am=>p mv<|ay<|am<|aC fun Y=> ?_
 refine WX ?_
 refine py aa (aU (.func (.yield l) #[] #[]) aa)<|py aa (aU (ak<|pre.length+1) aa)<|py aa mv<|ey aa<|cl F1 (Yy (mo 10 r) _ ab) aa fun aS aW ax=> ?_
 obtain ⟨rfl,ap⟩:=ax
 have aq:=bM _ _ _ M<|Md.trans ao ap
 refine Zc aa aa (aI pre (pre.length+1,jK (mo 10 r)) _ _ C aq) fun aX aA=> ?_
 refine py aa (no aa)<|VL ?_
 refine Y<|cf (aa)<|aO<|bn<|aj<|rg aa<|au (ak<|pre.length+1)<|p (bG ((pre.length+2:Nat):Int) aa aa<|bl ab ab) ?_
 exact p aB<|nl<|tn<|⟨_,ab,nC 10 r,pre++ [(pre.length+1,jK (mo 10 r))],ab,(by rw [C,dF,bL]; rfl),aA,(by have h1:=Cz C; have h2:=nL s; rw [bL,e5]; omega),aa,aa,(iv<|by first | rfl | (rw [bL]; rfl)),aa⟩
 refine ext<|bf<|bf<|be<|f0 aa ?_
 show a (jX 1<|bJ s) E
 have aE:r= []:=Decidable.of_not_not q
 rw [U,aE,Cs,VS,ek]
 exact M
theorem uw (s:List UInt8) (b:Nat) (hs:s.length≤65536):Er aw 189 #[.pointer (some ⟨b,0,none⟩)] xA (jX 1<|bJ s) (fun W=>W.heap[b]? =some (.cells [str s].toArray 9 (0,0))):=
 fun l a W i q bM C=>Calls.mono (A8 s b hs l a W i q bM C) fun e w' ⟨v,he,A⟩=>⟨⟨v,he⟩,A⟩
theorem KQ (s:List UInt8) (w:World) (hs:s.length≤1048576):
 bo aw 81 (bh [str s]) w (fun v w'=>(∃ a,v= .tuple #[a,.int .i64 (if 65536 < s.length then 10 else 0)]∧(if 65536 < s.length then a= .slice none 0 0 else bu w' w.heap.size 9 1 (a) (bJ s).length ((bJ s).map str)))∧Wk w w'):=by
 refine uz [] func81 aa ntmps81 aa ?_
 refine dO<|ed<|rg aa<|p aB<|p aB<|nl<|dJ<|dO<|dO<|ed<|rg aa<|p (aU (str s) aa)<|p (cy u9 aa aa)<|p (gt aa aa)<|nl<|dJ<|ed<|cd aa (fun aF=> ?_) fun aF=> ?_
 refine sq fun aN ay=>rg aa<|p aB<|p aB<|nl<|tn<|ay _ _<|rt<|prt<|G9 aa aa aa ?_
 have G:65536 < s.length:=ab
 exact ⟨⟨.slice none 0 0,by show gz #[.slice none 0 0,.int .i64 10]=_; rw [if_pos G],by rw [if_pos G]⟩,Md.refl _ _⟩
 refine aO<|dJ<|dO<|ed<|rg aa<|e<|fi Zl fun al aK aT aA an=>nl<|dJ<|dO<|dO<|ed<|rg aa<|p (aU (str s) aa)<|e<|cl Fh (sP s _) aa fun v11 ak aC=> ?_
 obtain ⟨Y,rfl,aR,am,ao⟩:=aC
 have I:Wk w ak:=Md.trans aA.md ao
 have aD:=ao.aM an
 have aS:=(cQ.1 am).1
 have a0:al < aK.heap.size:=(cQ.1 an).1
 have G:s.length≤65536:=ab
 refine nl<|dJ ?_
 apply Kl (xA) (jX 1<|bJ s) (fun W=>W.heap[Y]? =some (.cells [str s].toArray 9 (0,0))) (fun pre E=> ∃ v,E.heap[al]? =some (.cells [v].toArray 87 (0,0))∧bu E ak.heap.size 9 1 v pre.length ((pre.map np).map str)∧E.heap[Y]? =some (.cells [str s].toArray 9 (0,0))∧ak.heap.size≤E.heap.size∧Wk w E) rfl Fw (fun _=>rfl) (uw s Y G) (⟨.slice none 0 0,aD,dx _ _ _ _,am,cB _,I⟩) (fun _ _ ⟨_,_,_,h,_⟩=>h) (fun pre A C F ⟨v,h1,h2,h3,h5,h4⟩ hm U=>⟨v,yX h1 hm U,KX h2 hm U,yX h3 hm U,gd h5 hm.size,KY h4 hm I.size U⟩)
 intro l x E K J
 exact rg aa<|p (cO (str x.2) aa)<|nl<|tn<|J
 intro l pre x rest E aG ac
 obtain ⟨v,V,q,ah,aj,Z⟩:=ac
 obtain ⟨aZ,a2,a3⟩:=Cz aG
 have aX:=nL s
 have a1:=(cQ.1 ah).1
 refine aM<|rg aa<|p (ld jS aa<|(a7 V).trans aa)<|p mv<|e<|fU fN aa aa fun aP aI ae i aq=> ?_
 have au:Wk w aI:=Md.trans Z i.md
 have ae:=i.md.aM V
 refine e<|ap fN (aW q i.md) aa (gd aj i.md.size) aa (aJ.dZ aq) (aa) (aa) ab ab fun aH a5 ai M a4 aV=> ?_
 have av:=Wk.own au (aW q i.md) M I.size
 have aE:=M.aM (i.md.aM ah) fun h=>by have :=dG (aW q i.md) h; omega
 have ag:=M.aM ae fun h=>dE (aW q i.md) ae az h
 refine e<|cJ GD aa aa (eU ai) ag (by simp) fun aL O ar=> ?_
 have ax:Wk w aL:=Md.trans' av O fun k hk h=>by omega
 exact nl<|bn<|⟨(gk.wk i.md).trans ((gk.md M<|pI<|aW q i.md).trans<|gk.md O fun k hk=>⟨_,_,_,hk ▸ ag⟩),aH,ar,cX (by rw [iq,iq,bL]; exact ai) O (fun k hk h=>dE ai ag az<|h ▸ hk),O.aM aE (fun h=>by omega),gd aj (gd i.md.size<|gd M.size O.size),ax⟩
 intro D E aQ ac J
 obtain ⟨v,V,q,ah,aj,Z⟩:=ac
 have aY:=(cQ.1 J).1
 refine dJ<|dO<|ed<|rg aa<|p (ld jS aa<|(a7 V).trans aa)<|p aB<|p aB<|nl<|dJ<|pJ<|Ha aa aa aa J ?_
 have G:¬65536 < s.length:=ab
 rw [CA,JB] at q
 exact ⟨⟨v,by show gz #[v,.int .i64 0]=_; rw [if_neg G],by rw [if_neg G]; exact ew (cX q (lh _ _ _) fun k hk h=>by obtain ⟨c,e,z,h1⟩:=pI q k hk; rw [h,J] at h1; cases h1) I.size⟩,Md.trans' Z (lh _ _ _) fun k hk h=>by have :=I.size; omega⟩
end Go.Hb.wv
section
namespace Go.Hb
open Go.Hb.wv
set_option maxHeartbeats 1000000 in
theorem Km (s:List UInt8) (w:World) (hs:s.length≤1048576):
 bo aw 80 (bh [str s]) w (fun v w'=>(∃ a,v= .tuple #[a,.int .i64 (if 65536 < s.length then 10 else 0)]∧(if 65536 < s.length then a= .slice none 0 0 else ∃ vs,bu w' w.heap.size 209 2 a (bQ s).length (kF vs)∧gZ w' w.heap.size 9 vs (bQ s)))∧Wk w w'):=by
 refine uz [] func80 aa ntmps80 aa ?_
 refine dO<|ed<|rg aa<|p aB<|p aB<|nl<|dJ<|dO<|dO<|ed<|rg aa<|p (aU (str s) aa)<|p (cy u9 aa aa)<|p (gt aa aa)<|nl<|dJ<|ed<|cd aa (fun bx=> ?_) fun bx=> ?_
 refine sq fun aL ah=>rg aa<|p aB<|p aB<|nl<|tn<|ah _ _<|rt<|prt<|G9 aa aa aa ?_
 have U:65536 < s.length:=ab
 exact ⟨⟨.slice none 0 0,by show gz #[.slice none 0 0,.int .i64 10]=_; rw [if_pos U],by rw [if_pos U]⟩,Md.refl _ _⟩
 refine aO<|dJ<|dO<|ed<|rg aa<|e<|fi Zf fun am b4 ch br aQ=>nl<|dJ<|dO<|dO<|ed<|rg aa<|p (aU (str s) aa)<|e<|cl Fh (sP s _) aa fun ct ar bs=> ?_
 obtain ⟨ax,rfl,ce,aP,aS⟩:=bs
 have Z:Wk w ar:=Md.trans br.md aS
 have co:am < b4.heap.size:=(cQ.1 aQ).1
 have bv:=aS.aM aQ
 have cf:=(cQ.1 aP).1
 have U:s.length≤65536:=ab
 refine nl<|dJ ?_
 apply Kl (xA) (jX 1<|bJ s) (fun W=>W.heap[ax]? =some (.cells [str s].toArray 9 (0,0))) (fun pre J=> ∃ v vs,J.heap[am]? =some (.cells [v].toArray 187 (0,0))∧bu J ar.heap.size 209 2 v (ll 1<|pre.map np).length (kF vs)∧gZ J ar.heap.size 9 vs (ll 1<|pre.map np)∧J.heap[ax]? =some (.cells [str s].toArray 9 (0,0))∧ar.heap.size≤J.heap.size∧Wk w J) rfl Fw (fun _=>rfl) (uw s ax U) (⟨.slice none 0 0,[],bv,dx _ _ _ _,gZ.nil _ _ _,aP,cB _,Z⟩) (fun _ _ ⟨_,_,_,_,_,h,_⟩=>h) (fun pre A C F ⟨v,vs,h1,h2,a6,h3,h5,h4⟩ hm ag=>⟨v,vs,yX h1 hm ag,KX h2 hm ag,a6.md hm (fun k hk cur z=>(ag k hk).2 cur _ z),yX h3 hm ag,gd h5 hm.size,KY h4 hm Z.size ag⟩)
 intro l x J K ac
 exact sq fun aL ah=>rg aa<|p (cO (.int .i64 x.1) aa)<|nl<|tn<|ah _ _<|rg aa<|p (cO (str x.2) aa)<|nl<|tn<|ac
 intro l pre x rest J b0 aC
 obtain ⟨v,vs,aH,ak,ao,aG,aq,aA⟩:=aC
 obtain ⟨cn,b1,b2⟩:=Cz b0
 have ck:=nL s
 have cq:=(cQ.1 aG).1
 have cr:x.2.length≤s.length:=Cp<|by rw [b2]; simp
 have cj:=uE x.2 []
 have bF:=C4 (pre.map np) 1
 rw [fK] at bF
 refine aM<|sq fun aL ah=>rg aa<|p mv<|e<|cl OH (SO x.2 _ ab) aa fun cu a1 bt=> ?_
 obtain ⟨aj,bd⟩:=bt
 obtain ⟨E,an,rfl⟩:=cC aj
 have aT:=(a8 aj).2
 have bz:=(a8 aj).1
 refine p aB<|nl<|tn<|ah _ _ ?_
 refine ej (fun av au=> ∃ (n cp:Nat),(n≤(cH [] x.2).length)∧(n≤cp)∧(nK (cH [] x.2)=(cH [] x.2).take n)∧(Wk a1 au)∧(av 4= .pointer (some ⟨am,0,none⟩))∧(av 5= .int .i64 x.1)∧(av 7= .slice E n cp)) ?_ ?_
 refine sq fun a4 aD=>rg aa<|p mv<|p (bK eV aa aa)<|p mv<|nl<|tn<|aD _ _<|aM<|lp (fun aN Y a3=> ∃ (i:Nat),(i≤(cH [] x.2).length)∧(∀ q,q < i→vm ((cH [] x.2).getD q [])=false)∧(Wk a1 a3)∧(Y 4= .pointer (some ⟨am,0,none⟩))∧(Y 5= .int .i64 x.1)∧(Y 7= .slice E (cH [] x.2).length an)∧(Y 19= .slice E (cH [] x.2).length an)∧(Y 20= .int .i64 (cH [] x.2).length)∧(Y 21= .int .i64 i)∧((cH [] x.2).length - i=aN)) _ ⟨0,ab,(fun q bE=>by omega),(Md.refl _ _),aa,aa,aa,aa,aa,aa,aa⟩ ?_
 rintro aN Y a3 ⟨i,hi,aK,ae,bW,bY,bZ,bR,bT,bV,rfl⟩
 refine fx 4 bW<|fx 5 bY<|fx 7 bZ<|fx 19 bR<|fx 20 bT<|fx 21 bV<|sq fun b6 bj=>rg aa<|p (lt aa aa)<|nl<|tn<|bj _ _<|sq fun b7 bk=>cd aa (fun bA=> ?_) fun bA=> ?_
 refine aO<|tn<|bk _ _<|sq fun b8 bl=>aM<|sq fun b9 bm=>rg aa<|p (aU (.int .i64 i) aa)<|p (ba cI aa aa ab<|aJ.ok (aT.wk ae)<|bS ab)<|p (ld bU aa<|cg.get (i:=i) (aT.wk ae) ab)<|p (cO (.int .i64 i) aa)<|p aB<|nl<|tn<|bm _ _<|sq fun ca bp=>rg aa<|p mv<|p (jd 0 u9 aa aa<|lx.2 (Bw _ _ _<|TA ab).1)<|p (bI aa aa)<|nl<|tn<|bp _ _<|cd aa (fun bB=> ?_) fun bB=> ?_
 exact sq fun cb bq=>rg aa<|p (aU (.slice E (cH [] x.2).length an) aa)<|p (aU (.int .i64 i) aa)<|p (aU (.int .i64 i) aa)<|p (QC cI aa aa aa ab)<|p aB<|nl<|tn<|bq _ _<|ext<|mV az<|te _<|te _<|be<|tn<|⟨i,i,hi,(cB _),(yj hi aK<|.inr<|decide_eq_true ab),ae,aa,aa,aa⟩
 exact aO<|bn<|tn<|bl _ _<|rg aa<|p (ad aa aa<|bX ab)<|p mv<|nl<|tn<|⟨_,ab,i+1,ab,(fun q bE=>by rcases fg q i with h | h <;> first | exact aK q h | (rw [show q=i by omega]; exact decide_eq_false ab)),ae,aa,aa,aa,aa,aa,aa,aa⟩
 exact ext<|te _<|te _<|be<|tn<|⟨(cH [] x.2).length,an,(cB _),bz,(by have h:=yj hi aK (.inl ab); rwa [show i=(cH [] x.2).length from by omega] at h),ae,aa,aa,aa⟩
 rintro av au ⟨n,cp,hn,bD,aX,ay,bM,bN,bP⟩
 refine fx 4 bM<|fx 5 bN<|fx 7 bP ?_
 have G:Wk J au:=Md.trans bd ay
 have aF:=G.aM aH
 have aZ:=aW ak G
 have a0:=ao.wk G
 have aV:=G.aM aG
 have aR:Wk w au:=Md.trans aA G
 refine sq fun a4 aD=>rg aa<|p (aU (.slice E n cp) aa)<|p (bK eV aa aa)<|p (gt aa aa)<|nl<|tn<|aD _ _<|cd aa (fun bC=> ?_) fun bC=> ?_
 have al:lg x.2 (1 +pre.length)= [(x.1,(cH [] x.2).take n)]:=by unfold lg; rw [aX,if_neg (fun h=>by have h:=congrArg jy h; rw [dT,ga] at h; omega),← b1]
 refine rg aa<|p (ld ss aa<|(a7 aF).trans aa)<|p (aU (.int .i64 x.1) aa)<|p (aU (.slice E n cp) aa)<|p (cU (ps:= [(0,.int .i64 x.1),(1,.slice E n cp)]) (L:= [.int .i64 x.1,.slice E n cp]) X3 aa<|aa)<|e<|kK KI aa aa aa fun a5 a2 aE I a9=> ?_
 have bb:bO a2.heap a5 [.int .i64 x.1,.slice E n cp]:=a9
 have bf:Wk w a2:=Md.trans aR I.md
 have V:=aW aZ I.md
 have aE:=I.md.aM aF
 refine e<|ap KI (V) aa (by have :=I.size; have :=G.size; omega) aa (aJ.dZ bb) (aa) (aa) ab ab fun b3 cv aI M cs ci=> ?_
 have bg:=Wk.own bf V M Z.size
 have bw:=M.aM (I.md.aM aV) fun h=>by have :=dG V h; omega
 have ai:=M.aM aE fun h=>dE V aE az h
 have bG:=(a0.wk I.md).md M<|ij V az
 have aY:=cX (aW (aW aj ay) I.md) M fun k hk=>mA (aW (aW aj ay) I.md) V az hk
 refine e<|cJ Gt aa aa (eU aI) ai (by simp) fun b5 O bc=> ?_
 have bi:Wk w b5:=Md.trans' bg O fun k hk h=>by omega
 have bH:=(bG.md O<|fu ai az).snoc (n:=x.1) (r:=(cH [] x.2).take n) (v:= .slice E n cp)<|by rw [dT,Nat.min_eq_left hn,List.map_take]; exact (Tg.jN<|ew (cX aY O fun k hk h=>dE aY ai az<|h ▸ hk) aq).clip bD
 exact nl<|bn<|⟨(gk.wk G).trans ((gk.wk I.md).trans<|(gk.md M<|pI V).trans<|gk.md O fun k hk=>⟨_,_,_,hk ▸ ai⟩),b3,vs++ [(x.1,.slice E n cp)],bc,(by rw [iq,show [x].map np= [x.2] from aa,nb,fK,al]; rw [bL,C9]; exact cX aI O fun k hk h=>dE aI ai az<|h ▸ hk),(by rw [iq,show [x].map np= [x.2] from aa,nb,fK,al]; exact bH),O.aM bw (fun h=>by omega),gd aq (gd G.size<|gd I.md.size<|gd M.size O.size),bi⟩
 have al:lg x.2 (1 +pre.length)= []:=by unfold lg; rw [aX,if_pos (by rw [show n=0 by omega]; rfl)]
 exact aO<|bn<|⟨gk.wk G,v,vs,aF,(by rw [iq,show [x].map np= [x.2] from aa,nb,fK,al]; rw [ek]; exact aZ),(by rw [iq,show [x].map np= [x.2] from aa,nb,fK,al]; rw [ek]; exact a0),aV,gd aq G.size,aR⟩
 intro D J cc aC ac
 obtain ⟨v,vs,aH,ak,ao,aG,aq,aA⟩:=aC
 have cm:=(cQ.1 ac).1
 refine dJ<|dO<|ed<|rg aa<|p (ld ss aa<|(a7 aH).trans aa)<|p aB<|p aB<|nl<|dJ<|pJ<|Ha aa aa aa ac ?_
 have U:¬65536 < s.length:=ab
 rw [CA] at ak ao
 exact ⟨⟨v,by show gz #[v,.int .i64 0]=_; rw [if_neg U],by rw [if_neg U]; exact ⟨vs,ew (cX ak (lh _ _ _) fun k hk h=>by obtain ⟨c,e,z,h1⟩:=pI ak k hk; rw [h,ac] at h1; cases h1) Z.size,(ao.md (lh _ _ _) fun k hk cur z=>by rw [hk,ac]; simp).mono Z.size⟩⟩,Md.trans' aA (lh _ _ _) fun k hk h=>by have :=Z.size; omega⟩
end Go.Hb
end
section
namespace Go.Hb.kn
open Go.Hb.nq Go.Hb.wv
theorem qt {eof ln:Nat} {F F':aT} {hs:List Tx} {rows rows':List Rw} {row:List Tx} (a:cw eof F hs rows ln row= .ok (F',rows')):rows'.length≤rows.length:=by
 unfold cw at a
 repeat' split at a
 · unfold kj at a; split at a; cases a; cases a; exact cB _
 · unfold kB at a; repeat' split at a
   all_goals first | (cases a; done) | (cases a; exact cB _)
 · unfold mF at a; split at a; cases a; cases a; exact cB _
 · unfold mJ at a; split at a; cases a; cases a; exact cB _
 · unfold kR at a; repeat' split at a
   all_goals first | (cases a; done) | (cases a; exact cB _)
 · unfold ki at a; repeat' split at a
   all_goals first | (cases a; done) | (cases a; exact (yb _ _ _<|by assumption).1)
 · unfold jT at a; repeat' split at a
   all_goals first | (cases a; done) | (cases a; exact (yb _ _ _<|by assumption).1)
 · unfold gM at a; repeat' split at a
   all_goals first | (cases a; done) | (cases a; exact (yb _ _ _<|by assumption).1)
theorem vl {eof k:Nat} {F:aT} {hs:List Tx} :gJ eof k F hs []= .ok F:=by cases k <;> simp [gJ]
section
variable {eof k n:Nat} {F:aT} {hs:List Tx} {r:List Tx} {rest:List Rw} {T:Except (Nat×Nat) aT} (h:gJ eof k F hs ((n,r)::rest)=T) (hk:rest.length+1≤k)
include h hk
theorem Kb (a:width (r.getD 0 [])=0):T= .error (n,110):=by
 obtain ⟨m,rfl⟩:∃ m,k=m+1:=⟨k - 1,ab⟩
 rw [← h,gJ,if_pos a]
theorem Kc (a:width (r.getD 0 [])≠0) (h1:r.length≠width (r.getD 0 [])):T= .error (n,111):=by
 obtain ⟨m,rfl⟩:∃ m,k=m+1:=⟨k - 1,ab⟩
 rw [← h,gJ,if_neg a,if_pos h1]
theorem CX (a:width (r.getD 0 [])≠0) (h1:r.length=width (r.getD 0 [])) (h2:width (r.getD 0 [])≠4) (h3:r.getD 0 []∈hs):T= .error (n,112):=by
 obtain ⟨m,rfl⟩:∃ m,k=m+1:=⟨k - 1,ab⟩
 have hw:width (r.getD 0 [])=2:=by
  unfold width at a h2 ⊢
  split
  · rfl
  · rename_i hn
    rw [if_neg hn] at a h2
    split at h2
    · exact absurd aa h2
    · rename_i i; rw [if_neg i] at a; exact absurd rfl a
 rw [← h,gJ,if_neg a,if_neg (fun h4=>h4 h1),if_pos ⟨hw,h3⟩]
theorem CY {e:Nat×Nat} (a:width (r.getD 0 [])≠0) (h1:r.length=width (r.getD 0 [])) (h2:width (r.getD 0 [])=2→r.getD 0 []∉hs) (h3:cw eof F hs rest n r= .error e):T= .error e:=by
 obtain ⟨m,rfl⟩:∃ m,k=m+1:=⟨k - 1,ab⟩
 rw [← h,gJ,if_neg a,if_neg (fun h4=>h4 h1),if_neg (fun h4=>h2 h4.1 h4.2),h3]
theorem CZ {F':aT} {rows':List Rw} (a:width (r.getD 0 [])≠0) (h1:r.length=width (r.getD 0 [])) (h2:width (r.getD 0 [])=2→r.getD 0 []∉hs) (h3:cw eof F hs rest n r= .ok (F',rows')):gJ eof (k - 1) F' (hs++ [r.getD 0 []]) rows'=T∧rows'.length≤k - 1:=by
 obtain ⟨m,rfl⟩:∃ m,k=m+1:=⟨k - 1,ab⟩
 refine ⟨?_,by have :=qt h3; omega⟩
 rw [← h,gJ,if_neg a,if_neg (fun h4=>h4 h1),if_neg (fun h4=>h2 h4.1 h4.2),h3]; rfl
end
theorem ED {s:Tx} (h:65536 < s.length):fq s= .error (0,10):=by unfold fq; rw [if_pos h]
theorem om {s:Tx} {e:Nat×Nat} (h:¬65536 < s.length) (h1:gJ ((bJ s).length+1) (bQ s).length hZ [] (bQ s)= .error e):fq s= .error e:=by unfold fq; rw [if_neg h,h1]
theorem zN {s:Tx} {F:aT} {q:dd} (h:¬65536 < s.length) (h1:gJ ((bJ s).length+1) (bQ s).length hZ [] (bQ s)= .ok F) (h2:F.rules.find? (ny F)=some q):fq s= .error (q.line,118):=by unfold fq; rw [if_neg h,h1]; simp only; rw [h2]
theorem EF {s:Tx} {F:aT} (h:¬65536 < s.length) (h1:gJ ((bJ s).length+1) (bQ s).length hZ [] (bQ s)= .ok F) (h2:F.rules.find? (ny F)=none):fq s= .ok F:=by unfold fq; rw [if_neg h,h1]; simp only; rw [h2]
def qv (s:Tx):Value:=match iG s with | some (.agg cs)=>cs.getD 1 .nilFunc | _=> .nilFunc
theorem Uh (s:Tx):(iG s).getD (.agg #[.int .i64 0,.nilFunc])= .agg [.int .i64 (width s:Nat),qv s].toArray∧(iG s).isSome=decide (width s≠0):=by
 rcases Cc s with h | ⟨wd,f,h,hw,a⟩
 · have a:=Iy h
   unfold qv
   rw [h,a]; exact ⟨rfl,rfl⟩
 · unfold qv
   rw [h,hw,decide_eq_true a]; exact ⟨rfl,rfl⟩
theorem Un (s:Tx):[jk .i64 (width s:Nat),qv s].all gC=true :=by
 rcases Cc s with h | ⟨wd,f,h,hw,a⟩ <;> unfold qv <;> rw [h] <;> rfl
theorem Ix {s:Tx} (h:width s≠0):∃ v,iG s=some v∧∀ (wd:Nat) (f:Nat),v= .agg [.int .i64 (wd:Nat),.func (.func f) #[] #[]].toArray→qv s= .func (.func f) #[] #[]:=by
 rcases Cc s with h1 | ⟨wd,f,h1,hw,i⟩
 · exact absurd (Iy h1) h
 · refine ⟨_,h1,fun q a he=> ?_⟩
   unfold qv
   rw [h1,he]; rfl
theorem Kw {f:Value→Option Value} {seen:List Tx} (k:Tx) (a:∀ s:Tx,(f<|str s).getD (.int .i64 0)= .int .i64 (seen.count s:Nat)) (s:Tx):(bV f (str k) (.int .i64 (seen.count k+1:Nat))<|str s).getD (.int .i64 0)= .int .i64 ((seen++ [k]).count s:Nat):=by
 rw [List.count_append]
 by_cases h:s=k
 · subst h; rw [vd]; simp
 · rw [tj (fun h2=>h<|str_inj.1 h2),a s,List.count_singleton,show (k==s)=false from by simpa using fun h2=>h h2.symm]; rfl
theorem dy.Kv {w w':World} {B:Nat} {H:dt} {F:aT} {R:gX} {rows:List Rw} {ln:Nat} {seen q:List Tx} {f:Value→Option Value} (h:dy w B H F R rows ln seen) (hm:Md (fun k=>k=H.ms) w w') (A:du w'.heap H.ms jn f) (hd:∀ s:Tx,(f<|str s).getD (.int .i64 0)= .int .i64 (q.count s:Nat)):dy w' B H F R rows ln q:=by
 obtain ⟨g,E,G⟩:=h.tm
 obtain ⟨f0,C,_⟩:=h.sm
 have a:TF w [1] (fun k=>k=H.ms):=TF.eq (eE C) az
 exact ⟨hm.gA a h.cells az,h.rws.md hm (fun k hk cur z i=>a.no (dw i) az hk),h.rt.md hm (fun k hk cur z i=>a.no (dw i) az hk),⟨f,A,hd⟩,⟨g,E.md hm (fun h2=>h.ne.1 h2.symm),G⟩,cj h.on hm a az,h.lo,h.ne⟩
theorem dU.ms {w w':World} {B:Nat} {H:dt} {F a:aT} {V:e6} {R:gX} {rows:List Rw} {ln:Nat} {seen:List Tx} (h:dU w B H.fb H.mc a V) (i:dy w B H F R rows ln seen) (hm:Md (fun k=>k=H.ms) w w'):dU w' B H.fb H.mc a V:=by
 obtain ⟨g,q,_⟩:=i.sm
 exact h.md (L:= [1]) hm (TF.eq (eE q) az) az fun h=>i.ne.2.1 h.symm
theorem fA.ms {w w':World} {B:Nat} {H:dt} {F:aT} {R:gX} {rows:List Rw} {ln:Nat} {seen:List Tx} (a:dy w B H F R rows ln seen) (hm:Md (fun k=>k=H.ms) w w'):fA B H w w':=hm.mono fun k _ hk=>⟨hk ▸ a.lo.2.1,.inl hk⟩
structure o3 (w0 w:World) (H:dt) (b2 b3 bt:Nat):Prop where
 c2:w.heap[b2]? =some (.cells [.pointer none].toArray 60 (0,0))
 c3:w.heap[b3]? =some (.cells [.int .i64 0,.int .i64 0,.int .i64 0].toArray 47 (0,0))
 lo:w0.heap.size≤b2∧w0.heap.size≤b3∧b2≠b3
 tb:∃ f,du w.heap bt jn f∧∀ s,f (str s)=iG s
 ne:bt≠H.ms∧bt≠H.mt∧bt≠H.mc
 wk:Wk w0 w
theorem o3.md {A w w':World} {H:dt} {a i q:Nat} (h:o3 A w H a i q) (hm:Wk w w'):o3 A w' H a i q:=by
 obtain ⟨f,C,E⟩:=h.tb
 exact ⟨Wk.aM hm h.c2,Wk.aM hm h.c3,h.lo,⟨f,C.wk hm,E⟩,h.ne,h.wk.trans hm⟩
theorem o3.mw {a w w':World} {H:dt} {i q A:Nat} {F:aT} {R:gX} {V:e6} {rows:List Rw} {ln:Nat} {seen:List Tx} (h:o3 a w H i q A) (G:dU w a.heap.size H.fb H.mc F V) (C:dy w a.heap.size H F R rows ln seen) (hm:fA a.heap.size H w w'):o3 a w' H i q A:=by
 obtain ⟨f,E,J⟩:=h.tb
 obtain ⟨f1,I,_⟩:=C.sm
 obtain ⟨f2,M,_⟩:=C.tm
 obtain ⟨f3,O,_⟩:=G.cm
 have hn:=fun e (U:([197,127,130,72,133,79,5]:List Nat).contains (e+2)=false)=>Wr.ne (B:=a.heap.size) (eE I) (eE M) (eE O) U
 refine ⟨hm.aM h.c2 (fun hk=>hn 60 az _ hk _ _ h.c2),hm.aM h.c3 (fun hk=>hn 47 az _ hk _ _ h.c3),h.lo,⟨f,E.md hm ?_,J⟩,h.ne,hm.wk h.wk<|cB _⟩
 rintro ⟨_,h1 | h1 | h1 | h1⟩
 · exact h.ne.1 h1
 · exact h.ne.2.1 h1
 · exact h.ne.2.2 h1
 · rw [eE E] at h1; exact absurd h1 az
def NC (w':World) (B:Nat) (F:aT) (v:Value):Prop := ∃ fb mc V,v= .tuple #[.pointer (some ⟨fb,0,none⟩),.agg [.int .i64 0,.int .i64 0,.int .i64 0].toArray]∧dU w' B fb mc F V∧(∃ seen,kH F [] seen)∧Nx F
def NB (e:Nat×Nat) (v:Value):Prop :=v= .tuple #[.pointer none,.agg [.int .i64 1,.int .i64 (e.1:Nat),.int .i64 (e.2:Nat)].toArray]
def o5 (s:Tx) (w:World) (v:Value) (w':World):Prop :=(match fq s with | .ok F=>NC w' w.heap.size F v | .error e=>NB e v)∧Wk w w'
theorem o5.no {s:Tx} {w w':World} {l e:Nat} (h:fq s= .error (l,e)) (hm:Wk w w'):o5 s w (.tuple #[.pointer none,.agg [.int .i64 1,.int .i64 (l:Nat),.int .i64 (e:Nat)].toArray]) w':=by
 unfold o5; rw [h]; exact ⟨rfl,hm⟩
theorem rH {n:Nat} {G:List Nat} {fn:Func} {σ:Nat→Value} {s:Tx} {w W:World} {H:dt} {i q A l e:Nat} (E:fn.results= #[.cell 2 60,.cell 3 47]) (C:3 < n) (I:σ 2= .pointer (some ⟨i,0,none⟩)) (J:σ 3= .pointer (some ⟨q,0,none⟩)) (a:o3 w W H i q A) (M:fq s= .error (l,e)):qb ⟨n,[{target:= .fn (.func 82) #[.pointer (some ⟨i,0,none⟩),.pointer (some ⟨q,0,none⟩)],args:= #[]}],G,none⟩ (p5 aw fn<|o5 s w) (.panic<|jm 47 l (e:Nat)) σ W:=
 WH E C I J ⟨_,a.c2⟩ ⟨_,rfl,a.c3⟩ a.lo.2.2 (fun w' hm=>o5.no M<|a.wk.trans' hm fun k hk h=>by rcases h with rfl | rfl; have :=a.lo.1; omega; have :=a.lo.2.1; omega)
theorem RK {x:Nat} (h:x≠0):eG hZ x=false :=by
 unfold eG hZ dY
 simp [h]
theorem Wk.dr {w:World} :Wk w w.drew:=(Md.refl _ _).drew
theorem NS (s:Tx) (w:World) (hs:s.length≤1048576):
 bo aw 45 (bh [str s]) w (o5 s w):=by
 refine Sn [2,3] func45 aa ntmps45 aa ?_
 refine dO<|ed<|rg aa<|e<|fi Zk fun aI fo eJ cu cX=>e<|fi pT fun aK er eM bv c4=> ?_
 have e3:=cu.size
 have e8:=bv.size
 have dc:Wk w er:=cu.md.trans bv.md
 have d5:=Wk.aM bv.md cX
 refine nl<|dJ<|dO<|ed<|rg aa<|p (aU (str s) aa)<|e<|cl FX (Km s _ hs) aa fun fh fm dD=> ?_
 obtain ⟨⟨eF,rfl,cy⟩,hE15⟩:=dD
 have ch:=dc.trans hE15
 have cF:=Wk.aM hE15 d5
 have cG:=Wk.aM hE15 c4
 have e2:=hE15.size
 refine p mv<|p (xt aa aa)<|p (xt aa aa)<|p aB<|p aB<|nl<|dJ<|dO<|dO<|ed<|rg aa<|p mv<|p (dj aa aa)<|nl<|dJ<|ed<|cd aa (fun bF=> ?_) fun bF=> ?_
 have cx:65536 < s.length:=Classical.byContradiction fun h=>bF<|by rw [if_neg h]
 exact sq fun cN bp=>rg aa<|p mv<|p (cU (ps:= [(0,.int .i64 1),(2,.int .i64 (if 65536 < s.length then 10 else 0))]) (L:= [.int .i64 1,.int .i64 0,.int .i64 (if 65536 < s.length then 10 else 0)]) tq aa<|aa)<|e<|cJ A0 aa aa (v:= .pointer none) aa cF az fun fw cs c7=>e<|fZ jU aa aa aa aa (cs.aM cG fun h=>by omega) az fun fy ct c8=>nl<|tn<|bp _ _<|rt<|prt<|SJ (yI aa (mD<|rJ aa aa<|(a7<|ct.aM c7 fun h=>by omega).trans aa)<|mD<|dP aa aa aa fun j eU=>by rw [gW,a7 c8,if_pos cx]; simp)<|o5.no (ED cx)<|(ch.trans' cs fun k hk h=>by omega).trans' ct fun k hk h=>by omega
 have an:¬65536 < s.length:=fun h=>bF<|by rw [if_pos h]; decide
 rw [if_neg an] at cy
 obtain ⟨vs,cE,d6⟩:=cy
 obtain ⟨ar,cr,rfl⟩:=cC cE
 refine aO<|dJ<|dO<|ed<|rg aa<|p (aU (str s) aa)<|e<|cl FY (KQ s _ hs) aa fun v24 cL dE=> ?_
 obtain ⟨⟨a24,rfl,cz⟩,hE24⟩:=dE
 rw [if_neg an] at cz
 obtain ⟨fd,qh,rfl⟩:=cC cz
 have db:=ch.trans hE24
 have eW:=nL s
 have e4:=hE24.size
 refine p mv<|p (xt aa aa)<|p (xt aa aa)<|p aB<|p aB<|nl<|dJ<|dO<|ed<|rg aa<|e<|uY fun M fr eK cv c0=> ?_
 have e6:=cv.size
 refine p (cU (ps:= [(1,.map (some M))]) (L:= [.int .i64 0,.string ⟨⟨[]⟩⟩,.string ⟨⟨[]⟩⟩,.int .u16 0,.int .u16 0,.int .u16 0,.int .u16 0,.int .u16 0,.int .i64 0,.slice none 0 0,.slice none 0 0,.slice none 0 0,.slice none 0 0,.map (some M)]) XV aa<|aa)<|e<|ot aa fun I ft eL bu c1=> ?_
 have e7:=bu.size
 refine p mv<|p mv<|p (bK eV aa aa)<|p (bG (((bJ s).length+1:Nat):Int) aa aa<|bl ab ab)<|e<|uY fun U fu eN bd c5=> ?_
 have e9:=bd.size
 refine e<|uY fun Y fv eO aY c6=> ?_
 have fb:=aY.size
 refine p (cU (ps:= [(0,.pointer (some ⟨I,0,none⟩)),(1,.slice ar (bQ s).length cr),(3,.int .i64 ((bJ s).length+1:Nat)),(4,.map (some U)),(5,.map (some Y))]) (L:= [.pointer (some ⟨I,0,none⟩),.slice ar (bQ s).length cr,.int .i64 0,.int .i64 ((bJ s).length+1:Nat),.map (some U),.map (some Y),.slice none 0 0]) X2 aa<|aa)<|e<|ot aa fun A aG eQ aP bk=> ?_
 have fc:=aP.size
 have dW:=Wk.aM (bd.md.trans<|aY.md.trans aP.md) c1
 refine p aB<|nl<|dJ<|dO<|ed ?_
 have ah:(fun w'=>Md (fun k=>k=I) aG w') aG.drew:=(Md.refl _ _).drew
 refine bM (fun w'=>Md (fun k=>k=I) aG w') aa wide ah<|hp 0 aa aj (fun _ _=>mv) ah<|hp 1 aa aj (fun _ _=>nc aa) ah<|hp 2 aa aj (fun _ _=>fa ic aa) ah<|hp 3 aa aj (fun w' J=>ld gl aa<|Md.aQ J ((a7 bk).trans aa) fun h=>by omega) ah<|hp 4 aa aj (fun _ _=>mv) ah<|hp 5 aa aj (fun _ _=>nc aa) ah<|hp 6 aa aj (fun _ _=>fa ic aa) ah<|hp 7 aa aj (fun w' J=>ld gl aa<|Md.aQ J ((a7 bk).trans aa) fun h=>by omega) ah<|hp 8 aa aj (fun _ _=>nc aa) ah<|hp 9 aa aj (fun _ _=>fa gG aa) ah<|hp 10 aa aj (fun _ _=>fa s7 aa) ah<|he 11 aa aj<|cJ gB aa aa (v:= .int .i64 (1:Nat)) aa dW (by show 0 +0 +0 < 14; decide) fun eu ds c9=> ?_
 have aZ:(fun w'=>Md (fun k=>k=I) aG w') eu:=ah.trans' ds fun _ _ h=>h
 refine ⟨aZ,?_⟩
 refine hp 12 aa aj (fun _ _=>nc aa) aZ<|hp 13 aa aj (fun _ _=>fa gG aa) aZ<|hp 14 aa aj (fun _ _=>fa BL aa) aZ<|he 15 aa aj<|cJ gB aa aa (v:= .int .i64 (3:Nat)) aa c9 (by show _ < 14; decide) fun ev dv da=> ?_
 have bE:(fun w'=>Md (fun k=>k=I) aG w') ev:=aZ.trans' dv fun _ _ h=>h
 refine ⟨bE,?_⟩
 refine hn aj<|dJ<|dO<|RU Vb #[.pointer (some ⟨aI,0,none⟩),.pointer (some ⟨aK,0,none⟩)] aa az ?_
 refine dO<|ed<|rg aa<|e<|cl Qg (Ul _) aa fun v53 am dG=> ?_
 obtain ⟨aC,rfl,eT,eh,ci⟩:=dG
 have dd:Wk cL aG:=cv.md.trans<|bu.md.trans<|bd.md.trans<|aY.md.trans aP.md
 have aN:Md (fun k=>k=I) aG am:=bE.trans' ci fun _ _ h=>h.elim
 have aX:Wk cL am:=Md.trans' dd aN fun k hk h=>by omega
 have e0:=aN.size
 have de:=db.trans aX
 have dR:am.heap[I]? =some (.cells (oy hZ ⟨.slice none 0 0,.slice none 0 0,.slice none 0 0,.slice none 0 0,[],[]⟩ M).toArray 125 (0,0)):=Wk.aM ci da
 have dV:am.heap[A]? =some (.cells (vk (⟨A,I,U,Y,M,(bJ s).length+1⟩:dt) ⟨.slice ar (bQ s).length cr,vs,.slice none 0 0⟩ 0).toArray 195 (0,0)):=aN.aM bk fun h=>by omega
 have d0:du am.heap M (pE .u16) (fun _=>none):=du.md (du.wk (du.nil c0)<|bu.md.trans<|bd.md.trans<|aY.md.trans aP.md) aN fun h=>by omega
 have d1:du am.heap U jn (fun _=>none):=du.md (du.wk (du.nil c5)<|aY.md.trans aP.md) aN fun h=>by omega
 have d2:du am.heap Y (pE .u16) (fun _=>none):=du.md (du.wk (du.nil c6) aP.md) aN fun h=>by omega
 have df:dU am w.heap.size I M hZ ⟨.slice none 0 0,.slice none 0 0,.slice none 0 0,.slice none 0 0,[],[]⟩:=⟨dR,dx _ _ _ _,dx _ _ _ _,ez.nil _ _ _,dx _ _ _ _,dx _ _ _ _,ez.nil _ _ _,⟨_,d0,fun _=>rfl⟩,⟨ab,ab⟩,rfl⟩
 have dA:dy am w.heap.size (⟨A,I,U,Y,M,(bJ s).length+1⟩:dt) hZ ⟨.slice ar (bQ s).length cr,vs,.slice none 0 0⟩ (bQ s) 0 []:=⟨dV,(((Tg.jN cE).mono ab).wk<|hE24.trans aX).Yp,(d6.mono ab).wk (hE24.trans aX),⟨_,d1,fun _=>rfl⟩,⟨_,d2,fun x b6=>by rw [RK b6]; rfl⟩,dx _ _ _ _,⟨by show w.heap.size≤A; omega,by show w.heap.size≤U; omega,by show w.heap.size≤Y; omega⟩,⟨by show U≠Y; omega,by show U≠M; omega,by show Y≠M; omega⟩⟩
 have eZ:=yG s
 have dM:St am w.heap.size (⟨A,I,U,Y,M,(bJ s).length+1⟩:dt) hZ (bQ s) 0 []:=⟨_,_,df,dA,⟨by show 0 +0 +0 +0 +(bQ s).length≤70000; omega,by show 0 +(bQ s).length≤70000; omega,fun q bZ=>by have h:=yH bZ; exact ⟨h.2.2.1,ab,fun x b6=>by have :=(h.2.2.2.2 x b6).2; omega⟩,.inl rfl,fun l a5=>by cases a5⟩⟩
 have eg:kp hZ []:=fun k hk _=>by have h:∀ k∈ec,hZ.sp.getD (ec.idxOf k) 0=0:=az
                                  exact h k hk
 have d3:Nx hZ:=⟨fun l a5=>(by cases a5),fun l a5=>by cases a5⟩
 have e1:=bE.size
 have d4:o3 w am (⟨A,I,U,Y,M,(bJ s).length+1⟩:dt) aI aK aC:=⟨Wk.aM (hE24.trans aX) cF,Wk.aM (hE24.trans aX) cG,⟨ab,ab,ab⟩,eh,⟨by show aC≠U; omega,by show aC≠Y; omega,by show aC≠M; omega⟩,de⟩
 refine p aB<|nl<|dJ<|dO<|ed<|aM<|lp (fun ce bb a8=> ∃ (k:Nat) (F:aT) (rows:List Rw) (ln:Nat) (seen:List Tx),(gJ (⟨A,I,U,Y,M,(bJ s).length+1⟩:dt).eof k F seen rows=gJ ((bJ s).length+1) (bQ s).length hZ [] (bQ s))∧(rows.length≤k)∧(St a8 w.heap.size (⟨A,I,U,Y,M,(bJ s).length+1⟩:dt) F rows ln seen)∧(kp F seen)∧(Nx F)∧(o3 w a8 (⟨A,I,U,Y,M,(bJ s).length+1⟩:dt) aI aK aC)∧(bb 2= .pointer (some ⟨aI,0,none⟩))∧(bb 3= .pointer (some ⟨aK,0,none⟩))∧(bb 8= .pointer (some ⟨A,0,none⟩))∧(bb 9= .map (some aC))∧(rows.length=ce)) _ ⟨(bQ s).length,hZ,bQ s,0,[],aa,(cB _),dM,eg,d3,d4,aa,aa,aa,aa,aa⟩ ?_
 rintro ce bb a8 ⟨k,F,rows,ln,seen,ai,hk,J,bi,bg,bW,d8,d9,ea,eb,rfl⟩
 refine fx 2 d8<|fx 3 d9<|fx 8 ea<|fx 9 eb ?_
 obtain ⟨V,R,O,au,aL⟩:=J
 obtain ⟨vr,vs,vn⟩:=R
 obtain ⟨ca,cc,ei⟩:=au.rws.slice
 obtain rfl :vr= .slice ca rows.length cc:=ei
 refine sq fun cN bp=>sq fun ew di=>rg aa<|p (aU (.pointer<|some ⟨A,0,none⟩) aa)<|p (nc aa)<|p (fa uK aa)<|p (ld ss aa<|(a7 au.cells).trans aa)<|p (bK y2 aa aa)<|p (gt aa aa)<|nl<|tn<|di _ _<|cd aa (fun bH=> ?_) fun bH=> ?_
 obtain ⟨⟨n,r⟩,rest,rfl⟩:∃ q rest,rows=q::rest:=by
  cases rows with
  | nil=>exact absurd bH<|by simp
  | cons q rest=>exact ⟨q,rest,rfl⟩
 have b3:=aL.row (n,r)<|List.mem_cons_self ..
 have dN:=aL.len
 have dQ:=aL.sl
 simp only [cT] at dN dQ hk
 refine aO<|tn<|bp _ _<|aM<|sq fun ex dk=>rg aa<|p (aU (.pointer<|some ⟨A,0,none⟩) aa)<|e<|cl FZ (Lj w.heap.size (⟨A,I,U,Y,M,(bJ s).length+1⟩:dt) F ⟨.slice ca (rest.length+1) cc,vs,vn⟩ n r rest ln seen a8 au) aa fun fj es dH=> ?_
 obtain ⟨⟨R1,dB⟩,hT1,hM1⟩:=dH
 obtain ⟨b9,cb,rfl⟩:=hT1.slice
 have dg:=O.rb au hM1
 have cD:=bW.mw O au<|fA.rb au hM1
 have eY:0 < r.length:=lx.2 b3.1
 have cf:=kH.po aL
 have cH:=Uh<|r.getD 0 []
 obtain ⟨eH,dZ,cA⟩:=cD.tb
 refine p aB<|nl<|tn<|dk _ _<|sq fun ey dl=>rg aa<|p (aU (.map<|some aC) aa)<|p mv<|p (ba cI aa aa ab<|aJ.ok (hT1.cM.2)<|bS ab)<|p (ld bU aa<|cg.get (i:=0) hT1.cM.2 ab)<|p (I5 l8 Zo je (dZ) aa aa (⟨_,aa⟩) ((congrArg (fun o=>Option.getD o _)<|cA<|r.getD 0 []).trans cH.1)<|(congrArg Option.isSome<|cA<|r.getD 0 []).trans cH.2)<|p mv<|p (xt aa aa)<|p (xt aa aa)<|e<|fi Zg fun cR fl eI dz cV=>e<|fZ RD aa aa aa (Un _) cV az fun b8 dp cW=> ?_
 have bc:Wk es b8:=dz.md.trans' dp fun k hk h=>by omega
 have bf:b8.heap[cR]? =some (.cells [.int .i64 (width (r.getD 0 []):Nat),qv (r.getD 0 [])].toArray 202 (0,0)):=cW
 have ay:=dg.wk bc
 have Z:=dB.wk bc
 have aR:=hT1.wk bc
 have aA:=cD.md bc
 refine p aB<|nl<|tn<|dl _ _<|sq fun eA dm=>rg aa<|p (aU (.pointer<|some ⟨A,0,none⟩) aa)<|p mv ?_
 refine eP aa (dS iy (iK A n _ 110 b8 Z.dq az) aa fun v72 et dI=> ?_) (fun c w' ae aV O=>by
  obtain ⟨rfl,av,rfl⟩:=ae
  exact rH aa az ((O 2<|.head _).trans aa) ((O 3<|.tail _<|.head _).trans aa) aA (om an<|Kb ai hk<|jq.1<|of_decide_eq_false av))
 obtain ⟨rfl,ak,rfl⟩:=dI
 have ak:width (r.getD 0 [])≠0:=of_decide_eq_true ak
 refine nl<|tn<|dm _ _<|sq fun eB dn=>rg aa<|p (aU (.pointer<|some ⟨A,0,none⟩) aa)<|p mv<|p (bK eV aa aa)<|p (fa HN aa)<|p (ld bC aa<|(a7 bf).trans aa)<|p (bI aa aa) ?_
 refine eP aa (dS iy (iK A n _ 111 et Z.dq az) aa fun fk ax dL=> ?_) (fun c w' ae aV O=>by
  obtain ⟨rfl,av,rfl⟩:=ae
  exact rH aa az ((O 2<|.head _).trans aa) ((O 3<|.tail _<|.head _).trans aa) aA (om an<|Kc ai hk ak fun h=>of_decide_eq_false av<|by rw [h]))
 obtain ⟨rfl,ao,rfl⟩:=dL
 have ao:r.length=width (r.getD 0 []):=by have :=of_decide_eq_true ao; omega
 refine nl<|tn<|dn _ _<|sq fun eC cn=> ?_
 obtain ⟨ff,ee,ef⟩:=Z.sm
 have C:(fun w'=>Wk ax w') ax.drew:=(Md.refl _ _).drew
 refine bM (fun w'=>Wk ax w') aa wide C<|hp 0 aa aj (fun _ _=>aU (.pointer<|some ⟨A,0,none⟩) aa) C<|hp 1 aa aj (fun _ _=>fa HN aa) C<|hp 2 aa aj (fun w' J=>ld bC aa<|Wk.aQ J<|(a7 bf).trans aa) C<|hp 3 aa aj (fun _ _=>bI aa aa) C<|hp 4 aa aj (fun _ _=>mv) C<|iH (t:=84) aa (fun a4=> ?_) fun a4=> ?_
 refine oB 5 aa aj aa aa aa aa C<|oB 6 aa aj aa aa aa aa C<|oB 7 aa aj aa aa aa aa C<|oB 8 aa aj aa aa aa aa C<|oB 9 aa aj aa aa aa aa C<|oB 10 aa aj aa aa aa aa C<|oB 11 aa aj aa aa aa aa C<|oB 12 aa aj aa aa aa aa C<|oB 13 aa aj aa aa aa aa C<|hp 14 aa aj (fun _ _=>bB aa) C ?_
 refine ta 15 aa aj aa (dS iy (iK A n _ 112 ax.drew (Wk.aQ C Z.dq) az) aa fun eo aH bA=> ?_) (fun c w' ae aV O=>by
  obtain ⟨rfl,av,rfl⟩:=ae
  first
   | exact absurd av az
   | exact rH rfl az ((O 2<|.head _).trans rfl) ((O 3<|.tail _<|.head _).trans rfl) (aA.md Wk.dr) (om an<|CX ai hk ak ao (fun h=>a4<|by rw [h]; rfl)<|jq.1 fun h=>of_decide_eq_false av<|by rw [qT.2 h]; rfl))
 obtain ⟨rfl,b7,a6⟩:=bA
 have aE:width (r.getD 0 [])=2→r.getD 0 []∉seen:=by
  first
   | exact fun h=>absurd a4 ab
   | exact fun _=>qT.1<|by have :=of_decide_eq_true b7; omega
 have E:Wk ax aH:=by rw [a6]; exact Wk.dr
 obtain ⟨ej,bT,bP⟩:=Ix ak
 obtain ⟨cS,b5,bN,bO⟩:=IB w.heap.size (⟨A,I,U,Y,M,(bJ s).length+1⟩:dt) F rest n seen r w.heap.size b9 cb aH ⟨_,_,ay.wk E,Z.wk E,cf⟩ (aR.wk E) b3.2.2 ao bi aE ab bT
 have bR:=bP _ _ b5
 have bD:(fun w'=>Wk ax w') aH:=by rw [a6]; exact C
 refine ⟨bD,?_⟩
 refine hn aj<|tn<|cn _ _<|sq fun cO br=>rg aa<|p (fa HO aa)<|p (ld EJ aa<|(a7<|Wk.aM E bf).trans<|congrArg some bR)<|p (aU (.pointer<|some ⟨A,0,none⟩) aa)<|p mv ?_
 refine eP aa (LX bN aa bO aa fun en aF bx=> ?_) (fun c w' ae aV O=>by
  obtain ⟨l,e,ac,rfl,aq⟩:=ae
  exact rH aa az ((O 2<|.head _).trans aa) ((O 3<|.tail _<|.head _).trans aa) ((aA.md E).mw (ay.wk E) (Z.wk E) aq) (om an<|CY ai hk ak ao aE ac))
 obtain ⟨rfl,F',rows',ln',ac,⟨cP,bj,aW,ag,ap⟩,aq⟩:=bx
 have bY:=(aA.md E).mw (ay.wk E) (Z.wk E) aq
 obtain ⟨ek,b0,_⟩:=Z.sm
 obtain ⟨el,b1,_⟩:=Z.tm
 obtain ⟨em,b2,_⟩:=ay.cm
 have a0:=(aR.wk E).md aq<|Wr.ne (eE<|b0.wk E) (eE<|b1.wk E) (eE<|b2.wk E) az
 obtain ⟨fs,a2,a3⟩:=ag.sm
 have dT:=tT (a:=r.getD 0 []) (l:=seen)
 have a1:=CZ ai hk ak ao aE ac
 refine nl<|tn<|br _ _ ?_
 have G:(fun w'=>Wk aF w') aF.drew:=(Md.refl _ _).drew
 refine eS (fun w'=>Wk aF w') 9 aa wide G<|lq 0 aa aj (fun _ _=>aU (.pointer<|some ⟨A,0,none⟩) aa) G<|lq 1 aa aj (fun _ _=>nc aa) G<|lq 2 aa aj (fun _ _=>fa s5 aa) G<|lq 3 aa aj (fun w' J=>ld su aa<|Wk.aQ J<|(a7 ag.cells).trans aa) G<|lq 4 aa aj (fun _ _=>mv) G<|lq 5 aa aj (fun _ _=>ba cI aa aa ab<|aJ.ok (aJ.wk a0.cM.2 G)<|bS ab) G<|lq 6 aa aj (fun w' J=>ld bU aa<|Wk.aQ J<|cg.get (i:=0) a0.cM.2 ab) G<|lq 7 aa aj (fun w' J=>oD qI oO je (du.md (a2) J id) aa aa (⟨_,aa⟩)<|a3<|r.getD 0 []) G<|lq 8 aa aj (fun _ _=>bG ((seen.count (r.getD 0 [])+1:Nat):Int) aa aa<|bl ab ab) G<|dK 9 aa aj aj<|tA qI je (a2.wk G) aa aa aa (⟨_,aa⟩) fun a9 bs bw=> ?_
 have aD:=il bs
 have bz:dy a9 w.heap.size (⟨A,I,U,Y,M,(bJ s).length+1⟩:dt) F' bj rows' ln' (seen++ [r.getD 0 []]):=dy.Kv ag aD bw<|Kw _ a3
 have bm:=dU.ms aW ag aD
 have bX:=bY.mw aW ag<|fA.ms ag aD
 have d7:=qt ac
 have G:St a9 w.heap.size (⟨A,I,U,Y,M,(bJ s).length+1⟩:dt) F' rows' ln' (seen++ [r.getD 0 []]):=⟨_,_,bm,bz,⟨ap.len,by rw [bL,e5]; omega,ap.row,ap.kd,ap.al⟩⟩
 have b4:=IA bi ac
 have bV:=yd bg ac
 exact eR aj<|bn<|tn<|⟨_,by simp only [cT]; have :=qt ac; omega,k - 1,F',rows',ln',seen++ [r.getD 0 []],a1.1,a1.2,G,b4,bV,bX,aa,aa,aa,aa,aa⟩
 refine la 5 aa aj aa aa aa (fun _ _=>aU (.pointer<|some ⟨A,0,none⟩) aa) C<|la 6 aa aj aa aa aa (fun _ _=>nc aa) C<|la 7 aa aj aa aa aa (fun _ _=>fa s5 aa) C<|la 8 aa aj aa aa aa (fun w' J=>ld su aa<|Wk.aQ J<|(a7 Z.cells).trans aa) C<|la 9 aa aj aa aa aa (fun _ _=>mv) C<|la 10 aa aj aa aa aa (fun _ _=>ba cI aa aa ab<|aJ.ok (aJ.wk aR.cM.2 C)<|bS ab) C<|la 11 aa aj aa aa aa (fun w' J=>ld bU aa<|Wk.aQ J<|cg.get (i:=0) aR.cM.2 ab) C<|la 12 aa aj aa aa aa (fun w' J=>oD qI oO je (du.md (ee) J id) aa aa (⟨_,aa⟩)<|ef<|r.getD 0 []) C<|la 13 aa aj aa aa aa (fun _ _=>bI aa aa) C<|hp 14 aa aj (fun _ _=>bq aa) C ?_
 refine ta 15 aa aj aa (dS iy (iK A n _ 112 ax.drew (Wk.aQ C Z.dq) az) aa fun eo aH bA=> ?_) (fun c w' ae aV O=>by
  obtain ⟨rfl,av,rfl⟩:=ae
  first
   | exact absurd av az
   | exact rH rfl az ((O 2<|.head _).trans rfl) ((O 3<|.tail _<|.head _).trans rfl) (aA.md Wk.dr) (om an<|CX ai hk ak ao (fun h=>a4<|by rw [h]; rfl)<|jq.1 fun h=>of_decide_eq_false av<|by rw [qT.2 h]; rfl))
 obtain ⟨rfl,b7,a6⟩:=bA
 have aE:width (r.getD 0 [])=2→r.getD 0 []∉seen:=by
  first
   | exact fun h=>absurd a4 ab
   | exact fun _=>qT.1<|by have :=of_decide_eq_true b7; omega
 have E:Wk ax aH:=by rw [a6]; exact Wk.dr
 obtain ⟨ej,bT,bP⟩:=Ix ak
 obtain ⟨cS,b5,bN,bO⟩:=IB w.heap.size (⟨A,I,U,Y,M,(bJ s).length+1⟩:dt) F rest n seen r w.heap.size b9 cb aH ⟨_,_,ay.wk E,Z.wk E,cf⟩ (aR.wk E) b3.2.2 ao bi aE ab bT
 have bR:=bP _ _ b5
 have bD:(fun w'=>Wk ax w') aH:=by rw [a6]; exact C
 refine ⟨bD,?_⟩
 refine hn aj<|tn<|cn _ _<|sq fun cO br=>rg aa<|p (fa HO aa)<|p (ld EJ aa<|(a7<|Wk.aM E bf).trans<|congrArg some bR)<|p (aU (.pointer<|some ⟨A,0,none⟩) aa)<|p mv ?_
 refine eP aa (LX bN aa bO aa fun en aF bx=> ?_) (fun c w' ae aV O=>by
  obtain ⟨l,e,ac,rfl,aq⟩:=ae
  exact rH aa az ((O 2<|.head _).trans aa) ((O 3<|.tail _<|.head _).trans aa) ((aA.md E).mw (ay.wk E) (Z.wk E) aq) (om an<|CY ai hk ak ao aE ac))
 obtain ⟨rfl,F',rows',ln',ac,⟨cP,bj,aW,ag,ap⟩,aq⟩:=bx
 have bY:=(aA.md E).mw (ay.wk E) (Z.wk E) aq
 obtain ⟨ek,b0,_⟩:=Z.sm
 obtain ⟨el,b1,_⟩:=Z.tm
 obtain ⟨em,b2,_⟩:=ay.cm
 have a0:=(aR.wk E).md aq<|Wr.ne (eE<|b0.wk E) (eE<|b1.wk E) (eE<|b2.wk E) az
 obtain ⟨fs,a2,a3⟩:=ag.sm
 have dT:=tT (a:=r.getD 0 []) (l:=seen)
 have a1:=CZ ai hk ak ao aE ac
 refine nl<|tn<|br _ _ ?_
 have G:(fun w'=>Wk aF w') aF.drew:=(Md.refl _ _).drew
 refine eS (fun w'=>Wk aF w') 9 aa wide G<|lq 0 aa aj (fun _ _=>aU (.pointer<|some ⟨A,0,none⟩) aa) G<|lq 1 aa aj (fun _ _=>nc aa) G<|lq 2 aa aj (fun _ _=>fa s5 aa) G<|lq 3 aa aj (fun w' J=>ld su aa<|Wk.aQ J<|(a7 ag.cells).trans aa) G<|lq 4 aa aj (fun _ _=>mv) G<|lq 5 aa aj (fun _ _=>ba cI aa aa ab<|aJ.ok (aJ.wk a0.cM.2 G)<|bS ab) G<|lq 6 aa aj (fun w' J=>ld bU aa<|Wk.aQ J<|cg.get (i:=0) a0.cM.2 ab) G<|lq 7 aa aj (fun w' J=>oD qI oO je (du.md (a2) J id) aa aa (⟨_,aa⟩)<|a3<|r.getD 0 []) G<|lq 8 aa aj (fun _ _=>bG ((seen.count (r.getD 0 [])+1:Nat):Int) aa aa<|bl ab ab) G<|dK 9 aa aj aj<|tA qI je (a2.wk G) aa aa aa (⟨_,aa⟩) fun a9 bs bw=> ?_
 have aD:=il bs
 have bz:dy a9 w.heap.size (⟨A,I,U,Y,M,(bJ s).length+1⟩:dt) F' bj rows' ln' (seen++ [r.getD 0 []]):=dy.Kv ag aD bw<|Kw _ a3
 have bm:=dU.ms aW ag aD
 have bX:=bY.mw aW ag<|fA.ms ag aD
 have d7:=qt ac
 have G:St a9 w.heap.size (⟨A,I,U,Y,M,(bJ s).length+1⟩:dt) F' rows' ln' (seen++ [r.getD 0 []]):=⟨_,_,bm,bz,⟨ap.len,by rw [bL,e5]; omega,ap.row,ap.kd,ap.al⟩⟩
 have b4:=IA bi ac
 have bV:=yd bg ac
 exact eR aj<|bn<|tn<|⟨_,by simp only [cT]; have :=qt ac; omega,k - 1,F',rows',ln',seen++ [r.getD 0 []],a1.1,a1.2,G,b4,bV,bX,aa,aa,aa,aa,aa⟩
 obtain rfl :rows= []:=by
  cases rows with
  | nil=>rfl
  | cons q rest=>exact absurd (by simp only [cT]; omega) bH
 rw [vl] at ai
 refine ext<|te _<|te _<|be<|dJ<|dO<|ed<|rg aa<|p (aU (.pointer<|some ⟨A,0,none⟩) aa) ?_
 refine eP aa (dS Qh (Qt w.heap.size (⟨A,I,U,Y,M,(bJ s).length+1⟩:dt) F [] ln seen a8 ⟨_,_,O,au,aL⟩ bg.2) aa fun fg cK dC=> ?_) (fun c w' ae aV cj=>by
  obtain ⟨q,bZ,rfl,bt⟩:=ae
  exact rH aa az ((cj 2<|.head _).trans aa) ((cj 3<|.tail _<|.head _).trans aa) (bW.mw O au bt) (zN an ai.symm bZ))
 obtain ⟨rfl,dX,⟨cQ,eD,fe,ck,dF⟩,bt⟩:=dC
 have aS:=bW.mw O au bt
 have eX:=aS.lo
 refine nl<|dJ<|dO<|ed<|rg aa<|p (aU (.pointer<|some ⟨A,0,none⟩) aa)<|p (nc aa)<|p (fa ic aa)<|p (ld gl aa<|(a7 dF.cells).trans aa)<|p (cU (ps:= []) (L:= [.int .i64 0,.int .i64 0,.int .i64 0]) tq aa<|aa)<|e<|cJ A0 aa aa (v:= .pointer<|some ⟨I,0,none⟩) aa aS.c2 az fun fq co cY=>e<|fZ jU aa aa aa aa (co.aM aS.c3 fun h=>by omega) az fun ep cp cZ=> ?_
 have cq:Md (fun k=>k=aI∨k=aK) cK ep:=(co.mono fun _ _ h=> .inl h).trans' cp fun _ _ h=> .inr h
 refine nl<|dJ<|pJ ?_
 have cw:TF cK [62,49] (fun k=>k=aI∨k=aK):=TF.or (TF.eq (dw aS.c2) az)<|TF.eq (dw aS.c3) az
 obtain ⟨eG,dY,_⟩:=ck.cm
 have dh:=ck.md cq cw az<|cw.no (eE dY) az
 exact WI aa az aa aa (cp.aM cY fun h=>by omega) cZ aa (fun w' hm=>by
  unfold o5
  rw [EF an ai.symm dX]
  exact ⟨⟨I,M,cQ,aa,dh.wk hm,⟨seen,aL⟩,bg⟩,(aS.wk.trans' cq fun k hk h=>by omega).trans hm⟩)
end Go.Hb.kn
end
namespace Go.Hb.jQ
def lE (F:aT) (V:e6):List Value:= [.int .i64 (F.kind:Nat),str F.rh,str F.tr,bg (F.sp.getD 0 0),bg (F.sp.getD 1 0),bg (F.sp.getD 2 0),bg (F.sp.getD 3 0),bg (F.sp.getD 4 0),.int .i64 (F.least:Nat),V.v9,V.v10,V.v11,V.v12]
structure o0 (w:World) (B:Nat) (F:aT) (V:e6):Prop where
 o9:bu w B 128 2 V.v9 F.dm.length (kT F.dm)
 eT:bu w B 70 1 V.v10 F.aliases.length V.sa
 al:ez w B 51 V.sa F.aliases
 eu:bu w B 131 5 V.v11 F.bw.length (mY F.bw)
 dD:bu w B 77 7 V.v12 F.rules.length (iT<|F.rules.zip V.rn)
 nx:ez w B 51 V.rn (F.rules.map (·.next))
theorem zW {w:World} {B e:Nat} {vs:List Value} {C:List (List Nat)} (h:ez w B e vs C):vs.all gC=true :=by
 rw [ma]
 intro v A
 obtain ⟨i,hi⟩:=vZ A
 have h1:=(fJ.1 hi).1
 obtain ⟨u,hu,q⟩:=ez.get h (i:=i)<|by rw [← h.1]; exact h1
 rw [hi] at hu; cases hu
 obtain ⟨a,c,rfl⟩:=q.slice; rfl
theorem Xh {w:World} {B e:Nat} {rs:List dd} {vs:List Value} {A:List (List Nat)} (h:ez w B e vs A):(iT<|rs.zip vs).all gC=true :=by
 rw [ma]
 intro v a
 obtain ⟨q,i,a⟩:=List.mem_flatMap.1 a
 have h1:=ma.1 (zW h) q.2 (List.of_mem_zip i).2
 simp only [fz,gr,tZ,or_false] at a
 rcases a with rfl | rfl | rfl | rfl | rfl | rfl | rfl <;> first | rfl | exact h1
theorem Xi {rs:List dd} {vs:List Value} {i:Nat} {v:Value} (hi:i < rs.length) (E:i < vs.length):(iT<|rs.zip vs).set (i*7 +6) v=iT (rs.zip<|vs.set i v):=by
 obtain ⟨r,C⟩:∃ r,rs[i]? =some r:=⟨_,cD hi⟩
 obtain ⟨u,hu⟩:∃ u,vs[i]? =some u:=⟨_,cD E⟩
 have G:(rs.zip vs)[i]? =some (r,u):=jx.2 ⟨C,hu⟩
 have O:rs.zip (vs.set i v)=(rs.zip vs).set i (r,v):=by
  apply pW
  intro j
  rw [kW]
  by_cases A:i=j
  · subst A
    rw [if_pos rfl,if_pos (fJ.1 G).1]
    exact jx.2 ⟨C,by simp [E]⟩
  · rw [if_neg A]
    cases h1:(rs.zip vs)[j]? with
    | none=>
      rw [List.getElem?_eq_none_iff,zC] at h1 ⊢
      rw [wh]; exact h1
    | some q=>
      have h2:=jx.1 h1
      exact jx.2 ⟨h2.1,by rw [kW,if_neg A]; exact h2.2⟩
 have U:(rs.zip vs).length=min rs.length vs.length:=zC
 have a:(iT<|rs.zip vs).length=(rs.zip vs).length*7:=oz (f:=fz) (m:=7) (fun _=>rfl) _
 rw [O,show iT ((rs.zip vs).set i (r,v))=(iT<|rs.zip vs).take (i*7)++fz (r,v)++(iT<|rs.zip vs).drop (i*7 +7) from HC (f:=fz) (m:=7) (fun _=>rfl) _ ab]
 apply pW
 intro j
 have I:=fun c a=>Bt (f:=fz) (m:=7) (fun _=>rfl) (c:=c) G a
 have J:∀ c,c < 7→(iT<|rs.zip vs)[i*7 +c]? =(fz (r,u))[c]? :=fun c h=>I c h
 have M:((iT<|rs.zip vs).take<|i*7).length=i*7:=by rw [dT,a]; omega
 rw [kW]
 by_cases h1:j < i*7
 · rw [if_neg ab,dF,me ab,List.getElem?_take,if_pos h1]
 · rw [dF,mN ab,M]
   by_cases h2:j < i*7 +7
   · rw [me (by show _ < 7; omega)]
     obtain ⟨c,rfl⟩:∃ c,j=i*7 +c:=⟨j - i*7,ab⟩
     have h3:c < 7:=ab
     rw [J c h3,show i*7 +c - i*7=c by omega]
     match c,h3 with
     | 0,_=>rw [if_neg ab]; rfl
     | 1,_=>rw [if_neg ab]; rfl
     | 2,_=>rw [if_neg ab]; rfl
     | 3,_=>rw [if_neg ab]; rfl
     | 4,_=>rw [if_neg ab]; rfl
     | 5,_=>rw [if_neg ab]; rfl
     | 6,_=>rw [if_pos rfl,if_pos ab]; rfl
   · rw [if_neg ab,mN (by show 7≤_; omega),show (fz (r,v)).length=7 from rfl,List.getElem?_drop]
     congr 1; omega
theorem nQ {l:List (dd×Value)} {i:Nat} {q:dd×Value} (h:l[i]? =some q):iT l≠[]:=fun h2=>by
 have h3:(iT l).length=l.length*7:=oz (f:=fz) (m:=7) (fun _=>rfl) _
 have h4:=(fJ.1 h).1
 rw [h2] at h3
 have h5:0=l.length*7:=h3
 omega
theorem z8 {F:aT} {V:e6} (C:V.v9.oneCell'=true) (i:V.v10.oneCell'=true) (q:V.v11.oneCell'=true) (A:V.v12.oneCell'=true):(lE F V).all gC=true :=by
 rw [ma]
 intro v a
 simp only [lE,gr,tZ,or_false] at a
 rcases a with rfl | rfl | rfl | rfl | rfl | rfl | rfl | rfl | rfl | rfl | rfl | rfl | rfl <;> first | rfl | assumption
theorem Od {w:World} {B fb mc:Nat} {F:aT} {V:e6} (h:dU w B fb mc F V):(lE F V).all gC=true :=z8 (eU h.o9) (eU h.eT) (eU h.eu)<|eU h.dD
theorem A7 {α:Type} {l m:List α} {i:Nat} (h:l.drop i=m.drop i):l[i]? =m[i]? :=by
 have h1:=congrArg (·[0]?) h
 simpa using h1
theorem Da {α:Type} {l:List α} {i:Nat} {x:α} (h:i < l.length):(l.set i x).take (i+1)=l.take i++ [x]:=by
 rw [List.take_add_one,List.take_set_of_le (cB i)]; simp [h]
theorem set_drop {α:Type} {l m:List α} {i:Nat} {x:α} (h:l.drop i=m.drop i):(l.set i x).drop (i+1)=m.drop (i+1):=by
 rw [List.drop_set_of_lt (Nat.lt_succ_self i),show i.succ=i+1 from rfl]
 simpa [List.drop_drop] using congrArg (List.drop 1) h
theorem ES {w:World} {B e i:Nat} {vs:List Value} {a:List (List Nat)} {v:Value} (h:ez w B e (vs.take i) (a.take i)) (hi:i < a.length) (A:i < vs.length) (q:Tg w B e (a.getD i []).length v ((a.getD i []).map bg)):ez w B e ((vs.set i v).take<|i+1) (a.take<|i+1):=by
 rw [Da A,fH a i [] hi]; exact h.snoc q
theorem QI (a:Option Addr) (n c:Nat) (xs:List Value) (w:World) (M:aJ w.heap a xs) (ae:xs.length=n*2) (V:a=none→n=0) (h1:xs.all gC=true) (hn:n≤1048576):
 bo aw 48 (bh [.slice a n c]) w (fun ai w'=>bu w' w.heap.size 128 2 ai n xs∧Wk w w'):=by
 refine enter func48 aa ntmps48 aa<|ag fun E=>ay<|E<|aC fun G=>ag fun I=>au (.slice a n c)<|p (sR YB aa aa)<|nl<|I<|cb aa (fun A=> ?_) fun A=> ?_
 have Y:a=none:=by simpa using A
 refine ag fun i=>ay<|i<|rt<|tr<|aX aa ?_
 have Z:=V Y
 subst Z
 obtain rfl :=fS (show xs.length=0 by omega)
 exact ⟨dx _ _ _ _,Md.refl _ _⟩
 refine aO<|G<|ag fun i=>e<|mW yR fun al aq am q J=> ?_
 have C:=J w.heap.size ab
 refine au (.slice a n c)<|e<|ap yR (C) aa (by have :=q.size; omega) aa (M.wk q.md) (ae) (h1) ab ab fun aj ak ac U ao an=> ?_
 have O:=Wk.own q.md C U<|cB _
 refine ay<|i<|rt<|aX aa ?_
 have ah:bu ak w.heap.size 128 2 aj n xs:=by simpa using ac
 exact ⟨ah,O⟩
theorem QH (v:Value) (n:Nat) (xs:List Value) (w:World) (A:Rd w.heap v n 2 xs) (h1:xs.all gC=true) (hn:n≤1048576):bo aw 48 [v].toArray w (fun v w'=>bu w' w.heap.size 128 2 v n xs∧Wk w w'):=by
 obtain ⟨a,c,rfl,i,C,q⟩:=A
 exact QI a n c xs w i C q h1 hn
theorem QE (a:Option Addr) (n c:Nat) (xs:List Value) (w:World) (M:aJ w.heap a xs) (ae:xs.length=n*5) (V:a=none→n=0) (h1:xs.all gC=true) (hn:n≤1048576):
 bo aw 49 (bh [.slice a n c]) w (fun ai w'=>bu w' w.heap.size 131 5 ai n xs∧Wk w w'):=by
 refine enter func49 aa ntmps49 aa<|ag fun E=>ay<|E<|aC fun G=>ag fun I=>au (.slice a n c)<|p (sR Lz aa aa)<|nl<|I<|cb aa (fun A=> ?_) fun A=> ?_
 have Y:a=none:=by simpa using A
 refine ag fun i=>ay<|i<|rt<|tr<|aX aa ?_
 have Z:=V Y
 subst Z
 obtain rfl :=fS (show xs.length=0 by omega)
 exact ⟨dx _ _ _ _,Md.refl _ _⟩
 refine aO<|G<|ag fun i=>e<|mW yT fun al aq am q J=> ?_
 have C:=J w.heap.size ab
 refine au (.slice a n c)<|e<|ap yT (C) aa (by have :=q.size; omega) aa (M.wk q.md) (ae) (h1) ab ab fun aj ak ac U ao an=> ?_
 have O:=Wk.own q.md C U<|cB _
 refine ay<|i<|rt<|aX aa ?_
 have ah:bu ak w.heap.size 131 5 aj n xs:=by simpa using ac
 exact ⟨ah,O⟩
theorem QD (v:Value) (n:Nat) (xs:List Value) (w:World) (A:Rd w.heap v n 5 xs) (h1:xs.all gC=true) (hn:n≤1048576):bo aw 49 [v].toArray w (fun v w'=>bu w' w.heap.size 131 5 v n xs∧Wk w w'):=by
 obtain ⟨a,c,rfl,i,C,q⟩:=A
 exact QE a n c xs w i C q h1 hn
theorem QM (a:Option Addr) (n c:Nat) (xs:List Value) (w:World) (M:aJ w.heap a xs) (ae:xs.length=n*1) (V:a=none→n=0) (h1:xs.all gC=true) (hn:n≤1048576):
 bo aw 50 (bh [.slice a n c]) w (fun ai w'=>bu w' w.heap.size 70 1 ai n xs∧Wk w w'):=by
 refine enter func50 aa ntmps50 aa<|ag fun E=>ay<|E<|aC fun G=>ag fun I=>au (.slice a n c)<|p (sR y5 aa aa)<|nl<|I<|cb aa (fun A=> ?_) fun A=> ?_
 have Y:a=none:=by simpa using A
 refine ag fun i=>ay<|i<|rt<|tr<|aX aa ?_
 have Z:=V Y
 subst Z
 obtain rfl :=fS (show xs.length=0 by omega)
 exact ⟨dx _ _ _ _,Md.refl _ _⟩
 refine aO<|G<|ag fun i=>e<|mW yS fun al aq am q J=> ?_
 have C:=J w.heap.size ab
 refine au (.slice a n c)<|e<|ap yS (C) aa (by have :=q.size; omega) aa (M.wk q.md) (ae) (h1) ab ab fun aj ak ac U ao an=> ?_
 have O:=Wk.own q.md C U<|cB _
 refine ay<|i<|rt<|aX aa ?_
 have ah:bu ak w.heap.size 70 1 aj n xs:=by simpa using ac
 exact ⟨ah,O⟩
theorem QL (v:Value) (n:Nat) (xs:List Value) (w:World) (A:Rd w.heap v n 1 xs) (h1:xs.all gC=true) (hn:n≤1048576):bo aw 50 [v].toArray w (fun v w'=>bu w' w.heap.size 70 1 v n xs∧Wk w w'):=by
 obtain ⟨a,c,rfl,i,C,q⟩:=A
 exact QM a n c xs w i C q h1 hn
theorem QK (a:Option Addr) (n c:Nat) (xs:List Value) (w:World) (M:aJ w.heap a xs) (ae:xs.length=n*7) (V:a=none→n=0) (h1:xs.all gC=true) (hn:n≤1048576):
 bo aw 52 (bh [.slice a n c]) w (fun ai w'=>bu w' w.heap.size 77 7 ai n xs∧Wk w w'):=by
 refine enter func52 aa ntmps52 aa<|ag fun E=>ay<|E<|aC fun G=>ag fun I=>au (.slice a n c)<|p (sR vE aa aa)<|nl<|I<|cb aa (fun A=> ?_) fun A=> ?_
 have Y:a=none:=by simpa using A
 refine ag fun i=>ay<|i<|rt<|tr<|aX aa ?_
 have Z:=V Y
 subst Z
 obtain rfl :=fS (show xs.length=0 by omega)
 exact ⟨dx _ _ _ _,Md.refl _ _⟩
 refine aO<|G<|ag fun i=>e<|mW yU fun al aq am q J=> ?_
 have C:=J w.heap.size ab
 refine au (.slice a n c)<|e<|ap yU (C) aa (by have :=q.size; omega) aa (M.wk q.md) (ae) (h1) ab ab fun aj ak ac U ao an=> ?_
 have O:=Wk.own q.md C U<|cB _
 refine ay<|i<|rt<|aX aa ?_
 have ah:bu ak w.heap.size 77 7 aj n xs:=by simpa using ac
 exact ⟨ah,O⟩
theorem QJ (v:Value) (n:Nat) (xs:List Value) (w:World) (A:Rd w.heap v n 7 xs) (h1:xs.all gC=true) (hn:n≤1048576):bo aw 52 [v].toArray w (fun v w'=>bu w' w.heap.size 77 7 v n xs∧Wk w w'):=by
 obtain ⟨a,c,rfl,i,C,q⟩:=A
 exact QK a n c xs w i C q h1 hn
theorem QG (a:Option Addr) (n c:Nat) (xs:List Value) (w:World) (M:aJ w.heap a xs) (ae:xs.length=n*2) (V:a=none→n=0) (h1:xs.all gC=true) (hn:n≤1048576):
 bo aw 90 (bh [.slice a n c]) w (fun ai w'=>bu w' w.heap.size 72 2 ai n xs∧Wk w w'):=by
 refine enter func90 aa ntmps90 aa<|ag fun E=>ay<|E<|aC fun G=>ag fun I=>au (.slice a n c)<|p (sR y6 aa aa)<|nl<|I<|cb aa (fun A=> ?_) fun A=> ?_
 have Y:a=none:=by simpa using A
 refine ag fun i=>ay<|i<|rt<|tr<|aX aa ?_
 have Z:=V Y
 subst Z
 obtain rfl :=fS (show xs.length=0 by omega)
 exact ⟨dx _ _ _ _,Md.refl _ _⟩
 refine aO<|G<|ag fun i=>e<|mW yV fun al aq am q J=> ?_
 have C:=J w.heap.size ab
 refine au (.slice a n c)<|e<|ap yV (C) aa (by have :=q.size; omega) aa (M.wk q.md) (ae) (h1) ab ab fun aj ak ac U ao an=> ?_
 have O:=Wk.own q.md C U<|cB _
 refine ay<|i<|rt<|aX aa ?_
 have ah:bu ak w.heap.size 72 2 aj n xs:=by simpa using ac
 exact ⟨ah,O⟩
theorem QF (v:Value) (n:Nat) (xs:List Value) (w:World) (A:Rd w.heap v n 2 xs) (h1:xs.all gC=true) (hn:n≤1048576):bo aw 90 [v].toArray w (fun v w'=>bu w' w.heap.size 72 2 v n xs∧Wk w w'):=by
 obtain ⟨a,c,rfl,i,C,q⟩:=A
 exact QG a n c xs w i C q h1 hn
theorem zQ (B fb mc:Nat) (F:aT) (V:e6) (w:World) (aI:dU w B fb mc F V) (dS:F.dm.length+F.aliases.length+F.bw.length+F.rules.length≤70000) (bV:Nx F):
 bo aw 20 (bh [aR fb]) w (fun v w'=>(∃ bv,v= .agg (lE F bv).toArray∧o0 w' w.heap.size F bv)∧Wk w w'):=by
 refine enter func20 aa ntmps20 aa<|ag fun cn=>e<|fi Mb fun bb ac dT bi bB=> ?_
 have dZ:=bi.size
 have am:=aI.wk bi.md
 refine nl<|cn<|aC fun cv=>ag fun cw=>au (aR fb)<|p (m4 vF aa aa)<|nl<|cw<|cf (aa)<|aO<|cv<|ag fun cx=>au (aR fb)<|p (nc aa) ?_
 refine p (fa gG aa)<|p (c8 zU aa (aa) (show ∀ j,j < 13→Hb.aQ ac.heap fb (0 +j)=(lE F V)[j]? from fun j aS=>(a7 am.cells).trans<|by match j,aS with | 0,_=>rfl | 1,_=>rfl | 2,_=>rfl | 3,_=>rfl | 4,_=>rfl | 5,_=>rfl | 6,_=>rfl | 7,_=>rfl | 8,_=>rfl | 9,_=>rfl | 10,_=>rfl | 11,_=>rfl | 12,_=>rfl))<|e<|fi Mb fun Z E dW bM cI=> ?_
 have d2:=bM.size
 refine e<|fZ AZ aa aa aa (Od am) cI az fun a2 bL cK=> ?_
 have bC:Wk ac a2:=bM.md.trans' bL fun q a h=>by omega
 have d3:=bL.size
 have cU:=am.wk bC
 have aN:a2.heap[Z]? =some (.cells (lE F ⟨V.v9,V.v10,V.v11,V.v12,V.sa,V.rn⟩).toArray 58 (0,0)):=cK
 refine nl<|cx<|ag fun cy=>p (fa x5 aa)<|p (ld EL aa<|(a7 aN).trans aa)<|e<|cl PZ (QH V.v9 F.dm.length (kT F.dm) a2 (Rd.jN cU.o9) (HB (fun _=>rfl) _) ab) aa fun U ch cY=> ?_
 obtain ⟨bZ,bc⟩:=cY
 have dY:=bc.size
 have b1:=ew bZ (show E.heap.size≤a2.heap.size by omega)
 refine p (fa x5 aa)<|e<|cJ Gy aa aa (v:=U) (eU bZ) (bc.aM aN) (by show _ < 13; omega) fun a3 bd cL=> ?_
 have bG:Wk ac a3:=(bC.trans bc).trans' bd fun q a h=>by omega
 have d4:=bd.size
 have cW:=am.wk bG
 have b2:=cX b1 bd fun q a h=>by have :=(dG b1 a).1; omega
 have bR:a3.heap[Z]? =some (.cells (lE F ⟨U,V.v10,V.v11,V.v12,V.sa,V.rn⟩).toArray 58 (0,0)):=cL
 refine nl<|cy<|ag fun cz=>p (fa s8 aa)<|p (ld wV aa<|(a7 bR).trans aa)<|e<|cl P0 (QD V.v11 F.bw.length (mY F.bw) a3 (Rd.jN cW.eu) (HB (fun _=>rfl) _) ab) aa fun v20 eb cZ=> ?_
 obtain ⟨b4,aA⟩:=cZ
 have d0:=aA.size
 have b5:=ew b4 (show E.heap.size≤a3.heap.size by omega)
 refine p (fa s8 aa)<|e<|cJ GA aa aa (v:=v20) (eU b4) (aA.aM bR) (by show _ < 13; omega) fun a4 aL cN=> ?_
 have bH:Wk ac a4:=(bG.trans aA).trans' aL fun q a h=>by omega
 have d6:=aL.size
 have bJ:=am.wk bH
 have b3:=cX (aW b2 aA) aL fun q a h=>by have :=(dG (aW b2 aA) a).1; omega
 have b6:=cX b5 aL fun q a h=>by have :=(dG b5 a).1; omega
 have bS:a4.heap[Z]? =some (.cells (lE F ⟨U,V.v10,v20,V.v12,V.sa,V.rn⟩).toArray 58 (0,0)):=cN
 refine nl<|cz<|ag fun cA=>p (fa pC aa)<|p (ld q6 aa<|(a7 bS).trans aa)<|e<|cl P1 (QL V.v10 F.aliases.length V.sa a4 (Rd.jN bJ.eT) (zW bJ.al) ab) aa fun v24 ec c0=> ?_
 obtain ⟨b7,ao⟩:=c0
 have d1:=ao.size
 have b8:=ew b7 (show E.heap.size≤a4.heap.size by omega)
 refine p (fa pC aa)<|e<|cJ Gz aa aa (v:=v24) (eU b7) (ao.aM bS) (by show _ < 13; omega) fun ck aD cP=> ?_
 have cT:Wk ac ck:=(bH.trans ao).trans' aD fun q a h=>by omega
 have d7:=aD.size
 have dr:=cX (aW b3 ao) aD fun q a h=>by have :=(dG (aW b3 ao) a).1; omega
 have dj:=cX (aW b6 ao) aD fun q a h=>by have :=(dG (aW b6 ao) a).1; omega
 have bW:=cX b8 aD fun q a h=>by have :=(dG b8 a).1; omega
 have bT:ck.heap[Z]? =some (.cells (lE F ⟨U,v24,v20,V.v12,V.sa,V.rn⟩).toArray 58 (0,0)):=cP
 obtain ⟨ae,ah,rfl⟩:=cC bW
 have dI:=aI.al.1
 refine nl<|cA<|aC fun cB=>ag fun cE=>p (fa pC aa)<|p (ld q6 aa<|(a7 bT).trans aa)<|p (bK y5 aa aa)<|p mv<|nl<|cE<|aM<|lp (fun ax av G=> ∃ (i:Nat) (sa:List Value),(i≤F.aliases.length)∧(sa.length=F.aliases.length)∧(sa.drop i=V.sa.drop i)∧(ez G E.heap.size 51 (sa.take i)<|F.aliases.take i)∧(bu G E.heap.size 70 1 (.slice ae F.aliases.length ah) F.aliases.length<|sa)∧(bu G E.heap.size 128 2 (U) F.dm.length<|kT F.dm)∧(bu G E.heap.size 131 5 (v20) F.bw.length<|mY F.bw)∧(G.heap[Z]? =some (.cells (lE F ⟨U,.slice ae F.aliases.length ah,v20,V.v12,V.sa,V.rn⟩).toArray 58 (0,0)))∧(Wk ac G)∧(E.heap.size≤G.heap.size)∧(av 2=aR bb)∧(av 3=aR Z)∧(av 27= .slice ae F.aliases.length ah)∧(av 28=ak (F.aliases.length))∧(av 29=ak i)∧(F.aliases.length - i=ax)) _ ⟨0,V.sa,ab,dI,aa,(ez.nil _ _ _),bW,dr,dj,bT,cT,(ab),aa,aa,aa,aa,aa,aa⟩ ?_
 rintro ax av G ⟨i,sa,hi,aF,cc,bm,O,a0,aY,aE,aH,d8,dx,dB,dy,dz,dA,rfl⟩
 refine fx 2 dx<|fx 3 dB<|fx 27 dy<|fx 28 dz<|fx 29 dA<|ag fun co=>p (lt aa aa)<|nl<|co<|aC fun cp=>cd aa (fun aN=> ?_) fun aN=> ?_
 refine aO<|cp<|aC fun a5=>aM<|aC fun a6=> ?_
 obtain ⟨ea,dJ,bk⟩:=ez.get (am.wk aH).al (show i < F.aliases.length by omega)
 obtain ⟨cF,ci,rfl⟩:=bk.slice
 refine rg aa<|au (ak i)<|p (ba Bc aa aa ab<|aJ.ok ((a8 O).2) fun h=>by rw [h] at aF; simp at aF; omega)<|p (ld mT aa<|aJ.gL (a8 O).2<|(A7 cc).trans dJ)<|p (cO (ak i) aa)<|ay<|a6 ?_
 have an:(fun w'=>Wk G w') G.drew:=(Md.refl _ _).drew
 refine eS (fun w'=>Wk G w') 6 aa wide an<|lq 0 aa aj (fun _ _=>fa pC aa) an<|lq 1 aa aj (fun w' ar=>ld q6 aa<|Wk.aQ ar<|(a7 aE).trans aa) an<|lq 2 aa aj (fun _ _=>aU (ak i) aa) an<|lq 3 aa aj (fun _ _=>mv) an<|gQ 4 aa aj<|cl q9 (sI cF (F.aliases.getD i []).length ci ((F.aliases.getD i []).map bg) G.drew (aJ.wk bk.cM.2 an) (by simp) (fun h=>Tg.tg bk (by simp) h) (sy _)<|by have :=bV.1 _ (dV (d:= []) (show i < F.aliases.length by omega)); omega) aa fun dN cj c1=> ?_
 obtain ⟨bq,bF⟩:=c1
 have I:Wk G cj:=an.trans bF
 have c4:=I
 have bN:(fun w'=>Wk G w') cj:=an.trans bF
 refine ⟨bN,?_⟩
 refine lq 5 aa aj (fun _ _=>ba Bc aa aa ab<|aJ.ok ((a8 O).2) fun h=>by rw [h] at aF; simp at aF; omega) bN<|dK 6 aa aj aj<|tt (j:=i) (aW O I) sM aa aa (eU bq) (by simp) ab fun dQ ap de=> ?_
 have cQ:Wk ac dQ:=Wk.own (aH.trans I) (aW O I) ap ab
 have dl:=cX (ew bq (show E.heap.size≤G.heap.size by omega)) ap fun q a=>mA bq (aW O I) az a
 have c6:=(bm.wk I).md ap<|ij (aW O I) az
 have dp:=cX (aW a0 I) ap fun q a=>mA (aW a0 I) (aW O I) az a
 have dh:=cX (aW aY I) ap fun q a=>mA (aW aY I) (aW O I) az a
 have db:=ap.aM (Wk.aM I aE) fun h=>by have :=(dG (aW O I) h).1; omega
 exact eR aj<|bn<|a5<|rg aa<|p (ad aa aa<|bX ab)<|p mv<|nl<|tn<|⟨_,ab,i+1,sa.set i dN,ab,(by rw [wh]; exact aF),(set_drop cc),(ES c6 ab ab<|Tg.jN dl),de,dp,dh,db,cQ,(by have :=c4.size; have :=ap.size; omega),aa,aa,aa,aa,aa,aa⟩
 refine ext<|bf<|bf<|be<|cB<|ag fun a5=>p (fa nH aa)<|p (ld lT aa<|(a7 aE).trans aa)<|e<|cl P2 (QJ V.v12 F.rules.length (iT<|F.rules.zip V.rn) G (Rd.jN (am.wk aH).dD) (Xh aI.nx) ab) aa fun ce ed c2=> ?_
 obtain ⟨b9,Y⟩:=c2
 have d5:=Y.size
 have ca:=ew b9 (show E.heap.size≤G.heap.size by omega)
 rw [eN ab,eN ab] at bm
 refine p (fa nH aa)<|e<|cJ GB aa aa (v:=ce) (eU b9) (Wk.aM Y aE) (by show _ < 13; omega) fun cg aq cG=> ?_
 have cR:Wk ac cg:=(aH.trans Y).trans' aq fun q a h=>by omega
 have dX:=aq.size
 have ds:=cX (aW a0 Y) aq fun q a h=>by have :=(dG (aW a0 Y) a).1; omega
 have dg:=cX (aW O Y) aq fun q a h=>by have :=(dG (aW O Y) a).1; omega
 have dk:=cX (aW aY Y) aq fun q a h=>by have :=(dG (aW aY Y) a).1; omega
 have bY:=cX ca aq fun q a h=>by have :=(dG ca a).1; omega
 have c9:=(bm.wk Y).md aq<|fu (Wk.aM Y aE) az
 have bQ:cg.heap[Z]? =some (.cells (lE F ⟨U,.slice ae F.aliases.length ah,v20,ce,V.sa,V.rn⟩).toArray 58 (0,0)):=cG
 obtain ⟨a12,ks,rfl⟩:=cC bY
 have dv:V.rn.length=F.rules.length:=by have :=aI.nx.1; rwa [fK] at this
 refine nl<|a5<|aC fun a6=>ag fun cq=>p (fa nH aa)<|p (ld lT aa<|(a7 bQ).trans aa)<|p (bK vE aa aa)<|p mv<|nl<|cq<|aM<|lp (fun ax aG C=> ∃ (i:Nat) (rn:List Value),(i≤F.rules.length)∧(rn.length=F.rules.length)∧(rn.drop i=V.rn.drop i)∧(ez C E.heap.size 51 (rn.take i)<|(F.rules.map (·.next)).take i)∧(bu C E.heap.size 77 7 (.slice a12 F.rules.length ks) F.rules.length<|iT<|F.rules.zip rn)∧(bu C E.heap.size 128 2 (U) F.dm.length<|kT F.dm)∧(bu C E.heap.size 70 1 (.slice ae F.aliases.length ah) F.aliases.length<|sa)∧(ez C E.heap.size 51 sa F.aliases)∧(bu C E.heap.size 131 5 (v20) F.bw.length<|mY F.bw)∧(C.heap[Z]? =some (.cells (lE F ⟨U,.slice ae F.aliases.length ah,v20,.slice a12 F.rules.length ks,V.sa,V.rn⟩).toArray 58 (0,0)))∧(Wk ac C)∧(E.heap.size≤C.heap.size)∧(aG 2=aR bb)∧(aG 3=aR Z)∧(aG 47=ak (F.rules.length))∧(aG 48=ak i)∧(F.rules.length - i=ax)) _ ⟨0,V.rn,ab,dv,aa,(ez.nil _ _ _),bY,ds,dg,c9,dk,bQ,cR,(ab),aa,aa,aa,aa,aa⟩ ?_
 rintro ax aG C ⟨i,rn,hi,dw,cb,bp,J,a1,aX,bP,aZ,aP,aB,d9,dC,dE,dF,dH,rfl⟩
 refine fx 2 dC<|fx 3 dE<|fx 47 dF<|fx 48 dH<|ag fun cr=>p (lt aa aa)<|nl<|cr<|aC fun ct=>cd aa (fun da=> ?_) fun da=> ?_
 refine aO<|ct<|aC fun a9=>aM<|aC fun cu=> ?_
 obtain ⟨vn,dL,bl⟩:=ez.get (am.wk aB).nx (show i < (F.rules.map (·.next)).length by rw [fK]; omega)
 obtain ⟨bx,bA,rfl⟩:=bl.slice
 obtain ⟨q,bs⟩:∃ q,F.rules[i]? =some q:=⟨_,cD ab⟩
 have du:(F.rules.map (·.next)).getD i []=q.next:=by rw [cV,im,bs]; rfl
 have dt:=bV.2 q<|iP bs
 rw [← du] at dt
 have bt:(F.rules.zip rn)[i]? =some (q,.slice bx ((F.rules.map (·.next)).getD i []).length bA):=jx.2 ⟨bs,(A7 cb).trans dL⟩
 refine rg aa<|au (ak i)<|p (cO (ak i) aa)<|nl<|cu ?_
 have M:(fun w'=>Wk C w') C.drew:=(Md.refl _ _).drew
 refine eS (fun w'=>Wk C w') 12 aa wide M<|bz 0 aa (fun _=>fa nH aa) (fun _=>M)<|dM 1 aa (fun w' ar=>ld lT aa<|Wk.aQ ar<|(a7 aP).trans aa) M<|bD 2 aa (ak i) M<|bz 3 aa (fun _=>fa nH aa) (fun _=>M)<|dM 4 aa (fun w' ar=>ld lT aa<|Wk.aQ ar<|(a7 aP).trans aa) M<|bD 5 aa (ak i) M<|bz 6 aa (fun _=>ba m5 aa aa ab<|aJ.ok ((a8 J).2)<|nQ bt) (fun _=>M)<|bz 7 aa (fun _=>fa qo aa) (fun _=>M)<|dM 8 aa (fun w' ar=>ld mT aa<|Wk.aQ ar<|fw (f:=fz) (m:=7) (fun _=>rfl) (a8 J).2 bt 6 az) M<|gQ 9 aa aj<|cl q9 (sI bx ((F.rules.map (·.next)).getD i []).length bA (((F.rules.map (·.next)).getD i []).map bg) C.drew (aJ.wk bl.cM.2 M) (by simp) (fun h=>Tg.tg bl (by simp) h) (sy _) ab) aa fun dO cm c3=> ?_
 obtain ⟨br,bI⟩:=c3
 have A:Wk C cm:=M.trans bI
 have c5:=A
 have bj:(fun w'=>Wk C w') cm:=M.trans bI
 refine ⟨bj,?_⟩
 refine bz 10 aa (fun _=>ba m5 aa aa ab<|aJ.ok ((a8 J).2)<|nQ bt) (fun _=>bj)<|bz 11 aa (fun _=>fa qo aa) (fun _=>bj)<|dK 12 aa aj aj<|tt (j:=i*7 +6) (aW J A) sM aa aa (eU br) (by rw [Int.toNat_natCast]; omega) ab fun ch ai b0=> ?_
 rw [Xi ab ab] at b0
 have cS:Wk ac ch:=Wk.own (aB.trans A) (aW J A) ai ab
 have dn:=cX (ew br (show E.heap.size≤C.heap.size by omega)) ai fun q a=>mA br (aW J A) az a
 have dd:=(bp.wk A).md ai<|ij (aW J A) az
 have c7:=(bP.wk A).md ai<|ij (aW J A) az
 have dq:=cX (aW a1 A) ai fun q a=>mA (aW a1 A) (aW J A) az a
 have df:=cX (aW aX A) ai fun q a=>mA (aW aX A) (aW J A) az a
 have di:=cX (aW aZ A) ai fun q a=>mA (aW aZ A) (aW J A) az a
 have dc:=ai.aM (Wk.aM A aP) fun h=>by have :=(dG (aW J A) h).1; omega
 exact eR aj<|bn<|a9<|rg aa<|p (ad aa aa<|bX ab)<|p mv<|nl<|tn<|⟨_,ab,i+1,rn.set i dO,ab,(by rw [wh]; exact dw),(set_drop cb),(ES dd (by rw [fK]; omega) ab<|Tg.jN dn),b0,dq,df,c7,di,dc,cS,(by have :=c5.size; have :=ai.size; omega),aa,aa,aa,aa,aa⟩
 refine ext<|bf<|bf<|be<|a6<|ag fun a9=>p (c8 zU aa (aa) (show ∀ j,j < 13→Hb.aQ C.heap Z (0 +j)=(lE F ⟨U,.slice ae F.aliases.length ah,v20,.slice a12 F.rules.length ks,V.sa,V.rn⟩)[j]? from fun j aS=>(a7 aP).trans<|by match j,aS with | 0,_=>rfl | 1,_=>rfl | 2,_=>rfl | 3,_=>rfl | 4,_=>rfl | 5,_=>rfl | 6,_=>rfl | 7,_=>rfl | 8,_=>rfl | 9,_=>rfl | 10,_=>rfl | 11,_=>rfl | 12,_=>rfl))<|e<|fZ AZ aa aa aa (z8 (eU a1) (eU aX) (eU aZ)<|eU J) (Wk.aM aB bB) az fun dR aK cH=>nl<|a9<|rt<|uB aa (dP (cs:=lE F ⟨U,.slice ae F.aliases.length ah,v20,.slice a12 F.rules.length ks,V.sa,V.rn⟩) aa zU aa fun j aS=>(bO.bE ⟨_,cH⟩ j).trans aa) ?_
 have aV:∀ {t s n:Nat} {v:Value} {xs:List Value},bu C E.heap.size t s v n xs→bu dR w.heap.size t s v n xs:=fun h=>ew (cX h aK fun q a h2=>by have :=(dG h a).1; omega) ab
 rw [eN ab,eN (by rw [fK]; omega)] at bp
 have bU:∀ k,k=bb→∀ cur z,C.heap[k]?≠some (.cells cur 51 z):=fu (Wk.aM aB bB) az
 exact ⟨⟨⟨U,.slice ae F.aliases.length ah,v20,.slice a12 F.rules.length ks,sa,rn⟩,aa,⟨aV a1,aV aX,(bP.md aK bU).mono ab,aV aZ,aV J,(bp.md aK bU).mono ab⟩⟩,(bi.md.trans aB).trans' aK fun q a h=>by omega⟩
end Go.Hb.jQ
section
namespace Go.Hb
open Go.Hb.nq Go.Hb.kn Go.Hb.jQ
noncomputable def k9 (r:List Tx):Nat×Int:=if r.length≠1 then (0,111) else eb (r.getD 0 []) 8192
def NH (i w':World) (X:Except Nat bF) (v:Value):Prop :=(∃ x a,X= .ok x∧v= .tuple #[.agg [str x.1,a].toArray,.int .i64 (0:Nat)]∧bu w' i.heap.size 51 1 a x.2.length (x.2.map bg))∨(∃ e,X= .error e∧e≠0∧v= .tuple #[.agg [str [],.slice none 0 0].toArray,.int .i64 (e:Nat)])
theorem JG {s:Tx} {i:Nat} (hi:i < s.length):(s.take<|i+1).drop i= [s.getD i 0]:=by
 rw [vt 0 (cB i) hi,gV (by rw [dT]; omega),List.nil_append]
theorem LI (b:UInt8):pP [b]=iR b:=by unfold pP; rw [OA]; cases iR b <;> rfl
theorem GJ {F:aT} {x:Nat} (h:(dY F.bw x).isSome=true∨x∈F.sp):eG F x=true :=by
 unfold eG; rcases h with h | h
 · rw [h,Bool.or_true]
 · rw [decide_eq_true h]; rfl
theorem RJ {F:aT} {x:Nat} (h:(dY F.bw x).isSome=false) (h1:x∉F.sp):eG F x=false :=by
 unfold eG; rw [h,decide_eq_false h1]; rfl
theorem XO {F:aT} (h:F.sp.length=5):[F.sp.getD 0 0,F.sp.getD 1 0,F.sp.getD 2 0,F.sp.getD 3 0,F.sp.getD 4 0]=F.sp:=by
 match F.sp,h with
 | [a,b,c,d,e],_=>rfl
theorem Uw (a:Option Addr) (c:Nat) (l:List Nat) (x:Nat) (w:World) (E:aJ w.heap a (l.map bg)) (ap:l.length≤1048576):
 bo aw 206 (bh [.slice a l.length c,bg x]) w (fun v w'=>(∃ k:Int,v= .int .i64 k∧(0≤k↔x∈l)∧ -1≤k∧k≤1048576)∧Wk w w'):=by
 refine enter func206 aa ntmps206 aa<|ag fun O=>ay<|O<|aC fun U=>ag fun V=>au (.slice a l.length c)<|p (bK oJ aa aa)<|p mv<|nl<|V<|aM<|lp (fun C q M=> ∃ (i:Nat),(i≤l.length)∧(∀ j,j < i→l.getD j 0≠x)∧(M=w)∧(q 0= .slice a l.length c)∧(q 1=bg x)∧(q 7=ak (l.length))∧(q 8=ak i)∧(l.length - i=C)) _ ⟨0,ab,(fun j I=>by omega),aa,aa,aa,aa,aa,aa⟩ ?_
 rintro C q M ⟨i,hi,J,ai,al,am,an,ao,rfl⟩
 refine fx 0 al<|fx 1 am<|fx 7 an<|fx 8 ao ?_
 subst ai
 refine ag fun Y=>p (lt aa aa)<|nl<|Y<|aC fun Z=>cd aa (fun aj=> ?_) fun aj=> ?_
 refine aO<|Z<|aC fun A=>aM<|ag fun ac=>au (ak i)<|p (cO (ak i) aa)<|nl<|ac<|ag fun ae=>au (bg x)<|au (.slice a l.length c)<|au (ak i)<|p (ba bY aa aa ab<|aJ.ok (E)<|bS ab)<|p (ld c7 aa<|aJ.gL E (show (l.map bg)[i]? =some (bg<|l.getD i 0) by rw [im,cV,cD (by omega :i < l.length)]; rfl)) ?_
 refine p (bI aa aa)<|nl<|ae<|cd aa (fun G=> ?_) fun G=> ?_
 exact ag fun ah=>au (ak i)<|p (cO (ak i) aa)<|nl<|ah<|rt<|br<|tr<|tr<|br<|tr<|aX aa<|⟨⟨(i:Nat),aa,⟨fun _=>by obtain rfl :x=l.getD i 0:=ab; exact dV ab,fun _=>by omega⟩,ab,ab⟩,Md.refl _ _⟩
 exact aO<|bn<|A<|rg aa<|p (ad aa aa<|bX ab)<|p mv<|nl<|tn<|⟨_,ab,i+1,ab,(fun j I=>by rcases fg j i with h | h <;> first | exact J j h | (rw [show j=i by omega]; exact fun h2=>G<|by rw [h2])),aa,aa,aa,aa,aa,aa⟩
 exact ext<|bf<|bf<|be<|U<|ag fun A=>p aB<|nl<|A<|rt<|aX aa<|⟨⟨-1,aa,⟨fun h=>absurd h ab,fun h=>by obtain ⟨j,I,e⟩:=nM 0 h; exact absurd e<|J j ab⟩,ab,ab⟩,Md.refl _ _⟩
theorem Rb (a:Option Addr) (c:Nat) (l:List Nat) (x:Nat) (w:World) (A:aJ w.heap a (l.map bg)) (G:l.length≤1048576):
 bo aw 142 (bh [.slice a l.length c,bg x]) w (fun v w'=>v= .bool (decide (x∈l))∧Wk w w'):=by
 refine enter func142 aa ntmps142 aa<|ag fun i=>ay<|i<|ag fun q=>au (.slice a l.length c)<|au (bg x)<|e<|cl Pa (Uw a c l x w A G) aa fun M O C=> ?_
 obtain ⟨⟨I,rfl,E,J⟩,hE7⟩:=C
 exact p (ge aa aa)<|ay<|q<|rt<|aX aa<|⟨by show bT (decide (I≥0))=_; exact congrArg bT (decide_eq_decide.2 E),hE7⟩
theorem sN (ln er:Int) (w:World):
 bo aw 87 (bh [.int .i64 ln,.int .i64 er]) w (fun v w'=>v= .agg [.int .i64 2,.int .i64 ln,.int .i64 er].toArray∧Wk w w'):=by
 exact enter func87 aa ntmps87 aa<|ag fun a=>e<|al pT fun I U J G C=>nl<|a<|ag fun i=>au (.int .i64 ln)<|au (.int .i64 er)<|p (cU (ps:= [(0,.int .i64 2),(1,.int .i64 ln),(2,.int .i64 er)]) (L:= [.int .i64 2,.int .i64 ln,.int .i64 er]) tq aa<|aa)<|e<|da jU aa aa aa aa (C) (by simp) fun V E A=>nl<|i<|rt<|uB aa (dP (cs:= [.int .i64 2,.int .i64 ln,.int .i64 er]) aa k5 aa fun j M=>A.bE j)<|⟨aa,G.md.trans' E fun q O h=>by omega⟩
theorem RV (n:Nat) (r:List Tx) (B:Nat) (a:Option Addr) (c:Nat) (w:World) (U:Tg w B 9 r.length (.slice a r.length c) (r.map str)) (Y:∀ x∈r,x.length≤70000) (ah:r.length≤70000):
 bo aw 88 (bh [.agg [ak n,.slice a r.length c].toArray]) w (fun v w'=>v= .tuple #[ak ((k9 r).1),.int .i64 (k9 r).2]∧Wk w w'):=by
 refine enter func88 aa ntmps88 aa<|ag fun G=>e<|iY aa fun ac Z ae A C=> ?_
 have E:=U.wk A.md
 refine p aB<|ay<|G<|aC fun I=>ag fun J=>p (fa uM aa)<|p (ld jS aa<|(C.aQ 1).trans aa)<|p (bK eV aa aa)<|p (dj aa aa)<|nl<|J<|cd aa (fun V=> ?_) fun V=> ?_
 refine ag fun q=>p aB<|ay<|q<|rt<|tr<|f2 aa aa aa ?_
 have h1:r.length≠1:=ab
 exact ⟨by unfold k9; rw [if_pos h1]; rfl,A.md⟩
 refine aO<|I<|ag fun q=>p (fa uM aa)<|p (ld jS aa<|(C.aQ 1).trans aa)<|p (ba cI aa aa ab<|aJ.ok (E.cM.2)<|bS ab)<|p (ld bU aa<|cg.get (i:=0) E.cM.2 ab)<|e<|cl xe (yy (r.getD 0 []) 8192 Z (by have :=Y _ (dV (d:= []) (show 0 < r.length by omega)); omega) ab) aa fun v12 ai O=> ?_
 obtain ⟨rfl,M⟩:=O
 refine p (xt aa aa)<|p (xt aa aa)<|p aB<|ay<|q<|rt<|f2 aa aa aa ?_
 have h1:¬r.length≠1:=ab
 exact ⟨by unfold k9; rw [if_neg h1]; rfl,A.md.trans M⟩
theorem RQ (B fb mc:Nat) (F:aT) (V:e6) (n:Nat) (r:List Tx) (bC:Nat) (ar:Option Addr) (cr:Nat) (w:World) (a0:dU w B fb mc F V) (ca:∃ seen,kH F [] seen) (cz:Tg w bC 9 r.length (.slice ar r.length cr) (r.map str)) (cP:∀ x∈r,x.length≤70000) (dp:r.length≤70000):
 bo aw 89 (bh [aR fb,.agg [bg (F.sp.getD 0 0),bg (F.sp.getD 1 0),bg (F.sp.getD 2 0),bg (F.sp.getD 3 0),bg (F.sp.getD 4 0)].toArray,.agg [ak n,.slice ar r.length cr].toArray]) w (fun v w'=>NH w w' (fV F r) v∧Wk w w'):=by
 obtain ⟨seen,aD⟩:=ca
 have dn:=aD.len
 have ds:=rQ<|r.getD 0 []
 refine enter func89 aa ntmps89 aa<|ag fun bD=>e<|iY aa fun aV dF dk bm b7=>e<|iY aa fun df dI dl a1 b8=>e<|al qL fun bd bx dm aG bi=> ?_
 have aE:Wk w bx:=bm.md.trans<|a1.md.trans aG.md
 have cN:=aG.md.B<|a1.md.B b7
 have bw:=aG.md.B b8
 have bp:=cz.wk aE
 have ce:=a0.wk aE
 have dv:=bm.size
 have dw:=a1.size
 have dy:=aG.size
 refine ay<|bD<|aC fun bJ=>ag fun bQ=>p (fa uM aa)<|p (ld jS aa<|(bw.aQ 1).trans aa)<|p (bK eV aa aa)<|p (dj aa aa)<|nl<|bQ<|cd aa (fun cA=> ?_) fun cA=> ?_
 exact ag fun aS=>p (cU (ps:= []) (L:= [.string ⟨⟨[]⟩⟩,.slice none 0 0]) nR aa<|aa)<|e<|da ku aa aa aa aa (bi) (by simp) fun dT cp b6=>ay<|aS<|rt<|tr<|eA aa (dP (cs:= [str [],.slice none 0 0]) aa lD aa fun j E=>b6.bE j) ee<|⟨.inr ⟨111,GX ab,az,aa⟩,aE.trans' cp fun q A h=>by omega⟩
 have M:r.length=1:=ab
 have dq:(r.getD 0 []).length≤70000:=cP _<|dV ab
 refine aO<|bJ<|ag fun aS=>p (fa uM aa)<|p (ld jS aa<|(bw.aQ 1).trans aa)<|p (ba cI aa aa ab<|aJ.ok (bp.cM.2)<|bS ab)<|p (ld bU aa<|cg.get (i:=0) bp.cM.2 ab)<|e<|cl Aj (DF (r.getD 0 []) bx ab) aa fun v28 dc ct=> ?_
 obtain ⟨rfl,an⟩:=ct
 have ac:=aE.trans an
 have ae:=an.B bi
 have du:=an.size
 refine p mv<|p (xt aa aa)<|p (xt aa aa)<|p (xt aa aa)<|p (xt aa aa)<|p aB<|p aB<|p aB<|ay<|aS<|aC fun bR=>ag fun bT=>p mv<|p (dj aa aa)<|nl<|bT<|cd aa (fun cB=> ?_) fun cB=> ?_
 exact ag fun aU=>p (cU (ps:= []) (L:= [.string ⟨⟨[]⟩⟩,.slice none 0 0]) nR aa<|aa)<|p mv<|e<|da ku aa aa aa aa (ae) (by simp) fun dX cq b9=>ay<|aU<|rt<|tr<|eA aa (dP (cs:= [str [],.slice none 0 0]) aa lD aa fun j E=>b9.bE j) ee<|⟨.inr ⟨_,xB M ab,ab,aa⟩,ac.trans' cq fun q A h=>by omega⟩
 have Z:(bA<|r.getD 0 []).2.2.2=0:=ab
 refine aO<|bR<|aC fun aU=>ag fun bV=>p mv<|p (cy u9 aa aa)<|p mv<|nl<|bV<|aM<|lp (fun aj G ax=> ∃ (i:Nat),(i≤(bA<|r.getD 0 []).1.length)∧(∀ j,j < i→iR ((bA<|r.getD 0 []).1.getD j 0)=true)∧(Wk dc ax)∧(G 0=aR fb)∧(G 4=aR aV)∧(G 6=aR bd)∧(G 8=str (bA<|r.getD 0 []).1)∧(G 9=str (bA<|r.getD 0 []).2.1)∧(G 10= .bool (bA<|r.getD 0 []).2.2.1)∧(G 38=ak ((bA<|r.getD 0 []).1.length))∧(G 39=ak i)∧((bA<|r.getD 0 []).1.length - i=aj)) _ ⟨0,ab,(fun j E=>by omega),(Md.refl _ _),aa,aa,aa,aa,aa,aa,aa,aa,aa⟩ ?_
 rintro aj G ax ⟨i,hi,bt,C,cQ,cW,cY,cZ,c0,cR,cS,cT,rfl⟩
 refine fx 0 cQ<|fx 4 cW<|fx 6 cY<|fx 8 cZ<|fx 9 c0<|fx 10 cR<|fx 38 cS<|fx 39 cT<|ag fun bW=>p (lt aa aa)<|nl<|bW<|aC fun bF=>cd aa (fun cE=> ?_) fun cE=> ?_
 refine aO<|bF<|aC fun aK=>aM<|ag fun aL=>au (ak i)<|p (cO (ak i) aa)<|nl<|aL<|ag fun ah=>au (str (bA<|r.getD 0 []).1)<|au (ak i)<|au (ak i)<|p (ad aa aa<|bX ab)<|p (l6 u9 aa aa aa ab)<|e<|cl Fj (LJ (((bA<|r.getD 0 []).1.take<|i+1).drop i) ax<|by rw [JG ab]; simp) aa fun dB dH cu=> ?_
 obtain ⟨rfl,cc⟩:=cu
 have bv:=JG (s:=(bA<|r.getD 0 []).1) (i:=i) ab
 have aX:=C.trans cc
 refine p (no aa)<|nl<|ah<|cb aa (fun a4=> ?_) fun a4=> ?_
 have a7:iR ((bA<|r.getD 0 []).1.getD i 0)=false :=by rw [← LI,← bv]; simpa using a4
 exact ag fun ai=>p (cU (ps:= []) (L:= [.string ⟨⟨[]⟩⟩,.slice none 0 0]) nR aa<|aa)<|e<|da ku aa aa aa aa (Wk.B aX ae) (by simp) fun dL ch bY=>ay<|ai<|rt<|br<|tr<|tr<|br<|tr<|eA aa (dP (cs:= [str [],.slice none 0 0]) aa lD aa fun j E=>bY.bE j) ee<|⟨.inr ⟨21,xC M Z (.inl<|sG ab a7),az,aa⟩,(ac.trans aX).trans' ch fun q A h=>by omega⟩
 have a7:iR ((bA<|r.getD 0 []).1.getD i 0)=true :=by rw [← LI,← bv]; simpa using a4
 exact aO<|bn<|aK<|rg aa<|p (ad aa aa<|bX ab)<|p mv<|nl<|tn<|⟨_,ab,i+1,ab,(fun j E=>by rcases fg j i with h | h <;> first | exact bt j h | (rw [show j=i by omega]; exact a7)),aX,aa,aa,aa,aa,aa,aa,aa,aa,aa⟩
 refine ext<|bf<|bf<|be<|aU<|aC fun aK=>aM<|aC fun aL=>rg aa<|au (str (bA<|r.getD 0 []).1)<|p (dW aa aa)<|ay<|aL<|cd aa (fun Y=> ?_) fun Y=> ?_
 exact ag fun ah=>p (cU (ps:= []) (L:= [.string ⟨⟨[]⟩⟩,.slice none 0 0]) nR aa<|aa)<|e<|da ku aa aa aa aa (Wk.B C ae) (by simp) fun dM ci bZ=>ay<|ah<|rt<|br<|tr<|eA aa (dP (cs:= [str [],.slice none 0 0]) aa lD aa fun j E=>bZ.bE j) ee<|⟨.inr ⟨21,xC M Z (.inr Y),az,aa⟩,(ac.trans C).trans' ci fun q A h=>by omega⟩
 have ao:=uk (w:=(bA<|r.getD 0 []).1) fun j E=>bt j ab
 refine ag fun ah=>au (str (bA<|r.getD 0 []).1)<|p (cy u9 aa aa)<|p (gt aa aa)<|ay<|ah<|cd aa (fun cF=> ?_) fun cF=> ?_
 exact ag fun ai=>p (cU (ps:= []) (L:= [.string ⟨⟨[]⟩⟩,.slice none 0 0]) nR aa<|aa)<|e<|da ku aa aa aa aa (Wk.B C ae) (by simp) fun dN cj b0=>ay<|ai<|rt<|br<|tr<|eA aa (dP (cs:= [str [],.slice none 0 0]) aa lD aa fun j E=>b0.bE j) ee<|⟨.inr ⟨22,GY M Z ao Y ab,az,aa⟩,(ac.trans C).trans' cj fun q A h=>by omega⟩
 refine ag fun ai=>au (.bool (bA<|r.getD 0 []).2.2.1)<|p (no aa)<|ay<|ai<|cb aa (fun ap=> ?_) fun ap=> ?_
 exact ag fun aN=>au (str (bA<|r.getD 0 []).1)<|p (cU (ps:= [(0,str (bA<|r.getD 0 []).1)]) (L:= [str (bA<|r.getD 0 []).1,.slice none 0 0]) nR aa<|aa)<|e<|da ku aa aa aa aa (Wk.B C ae) (by simp) fun dO ck b2=>ay<|aN<|rt<|br<|tr<|eA aa (dP (cs:= [str (bA<|r.getD 0 []).1,.slice none 0 0]) aa lD aa fun j E=>b2.bE j) ee<|⟨.inl ⟨_,.slice none 0 0,GZ M Z ao Y ab (by simpa using ap),aa,dx _ _ _ _⟩,(ac.trans C).trans' ck fun q A h=>by omega⟩
 refine aO<|bn<|aK<|ag fun aN=>au (aR fb)<|au (str (bA<|r.getD 0 []).2.1)<|e<|cl Fk (He B fb mc F V (bA<|r.getD 0 []).2.1 ax (ce.wk<|an.trans C) aD.kd aD.al ab ab) aa fun db a9 cv=> ?_
 obtain ⟨cJ,aY⟩:=cv
 have aF:=ac.trans<|C.trans aY
 have a3:=Wk.B (C.trans aY) ae
 obtain ⟨dd,dg,rfl,bs⟩:∃ a,∃ e:Nat,db= .tuple #[a,ak e]∧((e=0∧∃ l,fR F.kind F.aliases (bA<|r.getD 0 []).2.1= .ok l∧bu a9 ax.heap.size 51 1 a l.length (l.map bg))∨(e≠0∧fR F.kind F.aliases (bA<|r.getD 0 []).2.1= .error e)):=by
  rcases cJ with ⟨a,l,h1,h2,h3⟩ | ⟨a,e,h1,h2,h3⟩
  exact ⟨a,0,h1,.inl ⟨aa,l,h2,h3⟩⟩
  exact ⟨a,e,h1,.inr ⟨h2,h3⟩⟩
 refine p mv<|p (xt aa aa)<|p (xt aa aa)<|p aB<|ay<|aN<|aC fun bG=>ag fun bH=>p mv<|p (dj aa aa)<|nl<|bH<|cd aa (fun cG=> ?_) fun cG=> ?_
 obtain ⟨cL,aq⟩:=bs.resolve_left fun h=>by omega
 exact ag fun aP=>p (cU (ps:= []) (L:= [.string ⟨⟨[]⟩⟩,.slice none 0 0]) nR aa<|aa)<|p mv<|e<|da ku aa aa aa aa (a3) (by simp) fun dQ cm b3=>ay<|aP<|rt<|tr<|eA aa (dP (cs:= [str [],.slice none 0 0]) aa lD aa fun j E=>b3.bE j) ee<|⟨.inr ⟨_,G0 M Z ao Y ab (by simpa using ap) aq,cL,aa⟩,aF.trans' cm fun q A h=>by omega⟩
 obtain ⟨_,set,aq,av⟩:=bs.resolve_right fun h=>by omega
 obtain ⟨O,U,rfl⟩:=cC av
 have dr:=xM (fun l cK=>(aD.al l cK).1) aq
 refine aO<|bG<|aC fun aP=>ag fun bI=>p mv<|p (bK Lw aa aa)<|p mv<|nl<|bI<|aM<|lp (fun aj I bb=> ∃ (j:Nat),(j≤set.length)∧(∀ q,q < j→eG F (set.getD q 0)=true)∧(Wk a9 bb)∧(I 0=aR fb)∧(I 4=aR aV)∧(I 6=aR bd)∧(I 8=str (bA<|r.getD 0 []).1)∧(I 13= .slice O set.length U)∧(I 75= .slice O set.length U)∧(I 76=ak (set.length))∧(I 77=ak j)∧(set.length - j=aj)) _ ⟨0,ab,(fun q A=>by omega),(Md.refl _ _),aa,aa,aa,aa,aa,aa,aa,aa,aa⟩ ?_
 rintro aj I bb ⟨j,E,a2,J,c1,c3,c4,c9,c2,c5,c6,c8,rfl⟩
 refine fx 0 c1<|fx 4 c3<|fx 6 c4<|fx 8 c9<|fx 13 c2<|fx 75 c5<|fx 76 c6<|fx 77 c8<|ag fun bL=>p (lt aa aa)<|nl<|bL<|aC fun bM=>cd aa (fun cH=> ?_) fun cH=> ?_
 refine aO<|bM<|aC fun aA=>aM<|ag fun bN=>p (ba G4 aa aa ab<|aJ.ok ((a8<|aW av J).2)<|bS ab)<|p (ld c7 aa<|aJ.gL (a8<|aW av J).2 (show (set.map bg)[j]? =some (bg<|set.getD j 0) by rw [im,cV,cD (by omega :j < set.length)]; rfl)) ?_
 refine ay<|bN<|ag fun bO=>au (aR fb)<|p mv<|e<|cl Ai (Bi B fb mc F V (set.getD j 0) bb (a0.wk<|aF.trans J) ab) aa fun dC dJ cw=> ?_
 obtain ⟨rfl,bj⟩:=cw
 have dz:=bj.size
 have dA:=J.size
 refine p mv<|p (xt aa aa)<|p (xt aa aa)<|e<|al tG fun de dE di bl b1=>e<|da ri aa aa aa aa (b1) (by simp) fun bz cn dh=> ?_
 have dt:=bl.size
 have am:Wk a9 bz:=(J.trans<|bj.trans bl.md).trans' cn fun q A h=>by omega
 refine ay<|bO<|ag fun bc=>p mv<|p (no aa)<|p mv<|gb (t:=89) aa (fun a6=> ?_) fun a6=> ?_
 refine aI aa (Oc ui aa)<|aI aa mv<|eg aa aa aa<|cl OP (Rb (some ⟨aV,0,none⟩) 5 [F.sp.getD 0 0,F.sp.getD 1 0,F.sp.getD 2 0,F.sp.getD 3 0,F.sp.getD 4 0] (set.getD j 0) bz (aJ.dZ<|Wk.B ((an.trans<|C.trans aY).trans am) cN)<|by simp) aa fun dD dK cx=> ?_
 obtain ⟨rfl,aZ⟩:=cx
 rw [XO a0.fO] at*
 refine aI aa (no aa)<|p (bB aa)<|nl<|bc<|cb aa (fun a5=> ?_) fun a5=> ?_
 exact ag fun bP=>p (cU (ps:= []) (L:= [.string ⟨⟨[]⟩⟩,.slice none 0 0]) nR aa<|aa)<|e<|da ku aa aa aa aa (Wk.B (am.trans aZ) a3) (by simp) fun dR co b4=>ay<|bP<|rt<|br<|tr<|tr<|br<|tr<|eA aa (dP (cs:= [str [],.slice none 0 0]) aa lD aa fun j E=>b4.bE j) ee<|⟨.inr ⟨120,G1 M Z ao Y ab (by simpa using ap) aq (i:=j) ab (RJ (by simpa using a6)<|by simpa using a5),az,aa⟩,(aF.trans<|am.trans aZ).trans' co fun q A h=>by omega⟩
 exact aO<|bn<|aA<|rg aa<|p (ad aa aa<|bX ab)<|p mv<|nl<|tn<|⟨_,ab,j+1,ab,(fun q A=>by rcases fg q j with h | h <;> first | exact a2 q h | (rw [show q=j by omega]; exact GJ<|.inr<|by simpa using a5)),(am.trans aZ),aa,aa,aa,aa,aa,aa,aa,aa,aa⟩
 exact aH aa<|aH aa<|aH aa<|aH aa<|p (bq aa)<|nl<|bc<|cf aa<|aO<|bn<|aA<|rg aa<|p (ad aa aa<|bX ab)<|p mv<|nl<|tn<|⟨_,ab,j+1,ab,(fun q A=>by rcases fg q j with h | h <;> first | exact a2 q h | (rw [show q=j by omega]; exact GJ<|.inl<|by simpa using a6)),am,aa,aa,aa,aa,aa,aa,aa,aa,aa⟩
 exact ext<|bf<|bf<|be<|aP<|ag fun aA=>au (str (bA<|r.getD 0 []).1)<|au (.slice O set.length U)<|p (cU (ps:= [(0,str (bA<|r.getD 0 []).1),(1,.slice O set.length U)]) (L:= [str (bA<|r.getD 0 []).1,.slice O set.length U]) nR aa<|aa)<|e<|da ku aa aa aa aa (Wk.B J a3) (by simp) fun dS bk b5=>ay<|aA<|rt<|eA aa (dP (cs:= [str (bA<|r.getD 0 []).1,.slice O set.length U]) aa lD aa fun j E=>b5.bE j) ee<|⟨.inl ⟨((bA<|r.getD 0 []).1,set),.slice O set.length U,Ba M Z ao Y ab (by simpa using ap) aq (fun j E=>a2 j ab),aa,ew (cX (aW av J) bk fun q A h=>by have :=(dG av A).1; have :=C.size; omega)<|by have :=C.size; omega⟩,(aF.trans J).trans' bk fun q A h=>by omega⟩
end Go.Hb
end
