/-
  Walks and plain laws that the law rests on, laid together. No conditions but those that each theorem names.
-/
import Derived.Test.YtffmhpaepdkabaaGreatDoorMnDeriveMeasures4
set_option linter.unusedVariables false
set_option maxRecDepth 20000
set_option maxHeartbeats 1000000
open Array renaming getElem?_eq_some_iff→cU
open Bool renaming or_eq_false_iff→nv
open Classical renaming not_not→jk
open Except.ok renaming injEq→r8
open Go.Proofs.Tryz renaming prog→ay
open Go.Value renaming agg→bM,bool→bQ,int→je,oneCell'→gB,tuple→gz
open Go.World renaming ownsRow→bq,ownsRow_nil→dz
open List renaming all_eq_true→mj,append_assoc→dD,append_nil→eh,count_eq_zero→q6,count_le_length→uc,drop_eq_nil_of_le→gU,eq_nil_of_length_eq_zero→fW,ext_getElem?→p7,find?_cons→Na,find?_eq_none→Et,findIdx?_eq_none_iff→Nb,getD_eq_getElem?_getD→cR,getElem?_append_left→ml,getElem?_append_right→mS,getElem?_cons_zero→ud,getElem?_eq_getElem→cC,getElem?_eq_some_iff→fS,getElem?_map→ir,getElem?_of_mem→wq,getElem?_set→k6,getElem?_zip_eq_some→jy,length→jz,length_append→bL,length_cons→cO,length_map→fM,length_nil→gC,length_pos_iff→lG,length_set→wy,length_singleton→fA,length_take→dR,length_zip→zH,map_append→iu,mem_append→jD,mem_cons→gu,mem_of_getElem?→iN,not_mem_nil→uh,take_of_length_le→eM,toArray→bf
open Nat renaming le_refl→cA,le_trans→gk,lt_or_ge→fi,zero_add→gV
open Option renaming getD_some→zO,isSome_iff_exists→o8
open Prod renaming snd→ny
open Go.Proofs.Tryz
open Go.Hb.dT Go.Proofs Go.Hb.fj Go.Hb.fX Go.Hb.lU Go.Hb.gX Go.Hb.ka

section
namespace Go.Hb.nz
open Go.Hb.ow
structure ox (w:World) (B fb:Nat) (mc:Nat) (F:aR) (V:e6):Prop where
 cells:w.heap[fb]? =some (.cells (oF F V mc).toArray 125 (0,0))
 o9:bq w B 128 2 V.v9 F.dd.length (kZ F.dd)
 eT:bq w B 70 1 V.v10 F.aliases.length V.sa
 al:eu w B 51 V.sa F.aliases
 ep:bq w B 131 5 V.v11 F.bw.length (m7 F.bw)
 dB:bq w B 77 7 V.v12 F.rules.length (iS<|F.rules.zip V.rn)
 nx:eu w B 51 V.rn (F.rules.map (·.next))
 lo:B≤fb∧B≤mc
 fR:F.sp.length=5
theorem ox.md {G:Nat→Prop} {w w':World} {B fb mc:Nat} {F:aR} {V:e6} (h:ox w B fb mc F V) (hm:Md G w w') {L:List Nat} (a:TF w L G) (i:(L.contains 127 || L.contains 130 || L.contains 72 || L.contains 53 || L.contains 133 || L.contains 79)=false):ox w' B fb mc F V:=by
 simp only [nv] at i
 obtain ⟨⟨⟨⟨⟨h1,h2⟩,h3⟩,h4⟩,h5⟩,h6⟩:=i
 have q:∀ k,G k→∀ cur z,w.heap[k]?≠some (.cells cur 51 z):=fun k hk cur z A=>a.no (dt A) h4 hk
 exact ⟨hm.gL a h.cells h1,cj h.o9 hm a h2,cj h.eT hm a h3,h.al.md hm q,cj h.ep hm a h5,cj h.dB hm a h6,h.nx.md hm q,h.lo,h.fR⟩
theorem ox.wk {w w':World} {B fb mc:Nat} {F:aR} {V:e6} (h:ox w B fb mc F V) (hm:Wk w w'):ox w' B fb mc F V:=h.md (L:= []) hm (fun _ hk=>hk.elim) rfl
theorem SR {w:World} {B fb mc:Nat} {F:aR} {V:e6} (h:dS w B fb mc F V):ox w B fb mc F V:=⟨h.cells,h.o9,h.eT,h.al,h.ep,h.dB,h.nx,h.lo,h.fR⟩
theorem ox.z8 {w C I:World} {B fb mc:Nat} {F:aR} {V:e6} {v:Value} {x:cX} {f:Value→Option Value} (h:ox w B fb mc F V) (A:dp w.heap mc (pM .u16) f) (Y:∀ y:Nat,f (bg y)=((F.bw++ [x]).findIdx? fun c=>decide (c.flag=y)).map fun i:Nat=>je .i64 i) (hm:Md (fun k=>V.v11.ownBlock=some k) w C) (O:bq C B 131 5 v (F.bw++ [x]).length (m7<|F.bw++ [x])) (a:Md (fun k=>k=fb) C I) (U:I.heap[fb]? =some (.cells (oF {F with bw:=F.bw++ [x]} {V with v11:=v} mc).toArray 125 (0,0))):dS I B fb mc {F with bw:=F.bw++ [x]} {V with v11:=v} :=by
 have q:TF w [133] (fun k=>V.v11.ownBlock=some k):=TF.own h.ep az
 have G:=hm.gL q h.cells az
 have E:TF C [127] (fun k=>k=fb):=TF.eq (dt G) az
 have J:∀ k,V.v11.ownBlock=some k→∀ cur z,w.heap[k]?≠some (.cells cur 51 z):=il h.ep az
 have M:∀ k,k=fb→∀ cur z,C.heap[k]?≠some (.cells cur 51 z):=fu G az
 have Z:=eD<|A.md hm<|q.no (eD A) az
 exact ⟨U,cj (cj h.o9 hm q az) a E az,cj (cj h.eT hm q az) a E az,(h.al.md hm J).md a M,dq O a (fun k hk A=>dC O G az<|A ▸ hk),cj (cj h.dB hm q az) a E az,(h.nx.md hm J).md a M,⟨f,(A.md hm<|q.no (eD A) az).md a (E.no Z az),Y⟩,h.lo,h.fR⟩
theorem du.V0 {w C G:World} {B:Nat} {H:dm} {F F':aR} {R:gW} {rows:List Rw} {ln:Nat} {seen:List Tx} {v:Value} {q:c7} (h:du w B H F R rows ln seen) (hm:Md (fun k=>R.vn.ownBlock=some k) w C) (U:bq C B 3 1 v (F.rules++ [q]).length ((F.rules++ [q]).map fun r=>je .i64 (r.line:Nat))) (a:Md (fun k=>k=H.rb) C G) (V:G.heap[H.rb]? =some (.cells (vw H {R with vn:=v} ln).toArray 195 (0,0))) (aa:F'.rules=F.rules++ [q]) (hd:∀ x,eG F' x=eG F x):du G B H F' {R with vn:=v} rows ln seen:=by
 have E:TF w [5] (fun k=>R.vn.ownBlock=some k):=TF.own h.on az
 have i:=hm.gL E h.cells az
 have I:TF C [197] (fun k=>k=H.rb):=TF.eq (dt i) az
 obtain ⟨f,A,Y⟩:=h.sm
 obtain ⟨g,M,Z⟩:=h.tm
 have J:=A.md hm<|E.no (eD A) az
 have O:=M.md hm<|E.no (eD M) az
 exact ⟨V,(h.rws.md hm<|il h.on az).md a (fu i az),(h.rt.md hm<|il h.on az).md a (fu i az),⟨f,J.md a (I.no (eD J) az),Y⟩,⟨g,O.md a (I.no (eD O) az),fun x ab=>by rw [hd]; exact Z x ab⟩,by rw [aa]; exact dq U a (fun k hk A=>dC U i az<|A ▸ hk),h.lo,h.ne⟩
theorem Bw {cs:List cX} {x:Nat} (h:(dW cs x).isSome=false):cs.findIdx? (fun c=>decide (c.flag=x))=none:=by
 rw [Nb]
 unfold dW at h
 rw [Option.isSome_eq_false_iff,Option.isNone_iff_eq_none,Et] at h
 intro c a
 simpa using h c a
theorem RZ {F:aR} {c:cX} (y:Nat):eG {F with bw:=F.bw++ [c]} y=(decide (y=c.flag) || eG F y):=by
 have h1:(dW (F.bw++ [c]) y).isSome=((dW F.bw y).isSome || decide (y=c.flag)):=by
  unfold dW
  rw [List.find?_append,Option.isSome_or]
  congr 1
  by_cases h:c.flag=y
  · simp [h]
  · simp [h,Ne.symm h]
 unfold eG
 show (decide (y∈F.sp) || (dW (F.bw++ [c]) y).isSome)=_
 rw [h1]
 cases decide (y∈F.sp) <;> cases (dW F.bw y).isSome <;> cases decide (y=c.flag) <;> rfl
theorem Rj {F:aR} {c:cX} {f:Value→Option Value} (hd:eG F c.flag=false) (a:∀ x:Nat,f (bg x)=(F.bw.findIdx? fun c=>decide (c.flag=x)).map fun i:Nat=>je .i64 i) (y:Nat):bU f (bg c.flag) (.int .i64 (F.bw.length:Nat)) (bg y)=((F.bw++ [c]).findIdx? fun c=>decide (c.flag=y)).map fun i:Nat=>je .i64 i:=by
 unfold eG at hd
 rw [nv] at hd
 rw [List.findIdx?_append]
 by_cases h:y=c.flag
 · subst h
   rw [vq,Bw hd.2]
   simp
 · rw [tx (fun h2=>h<|LF h2),a y]
   cases F.bw.findIdx? fun c=>decide (c.flag=y) <;> simp [Ne.symm h]
theorem AY {eof ln e:Nat} {F:aR} {rows:List Rw} {r:List Tx} (h:gH F (r.getD 1 [])= .error e):gM eof F rows ln r= .error (ln,e):=by unfold gM; rw [h]
theorem AZ {eof ln x:Nat} {F:aR} {rows:List Rw} {r:List Tx} (h:gH F (r.getD 1 [])= .ok x) (h1:r.getD 2 []≠[89]) (h2:r.getD 2 []≠[78]):gM eof F rows ln r= .error (ln,114):=by unfold gM; rw [h]; exact if_pos ⟨h1,h2⟩
theorem Gq {eof ln x e:Nat} {F:aR} {rows:List Rw} {r:List Tx} (h:gH F (r.getD 1 [])= .ok x) (h1:r.getD 2 []= [89]∨r.getD 2 []= [78]) (h2:eX (r.getD 3 []) 1024= .error e):gM eof F rows ln r= .error (ln,e):=by
 unfold gM; rw [h]; simp only; rw [if_neg (fun h3=>h1.elim h3.1 h3.2),h2]
theorem Gr {eof ln x n:Nat} {F:aR} {rows:List Rw} {r:List Tx} (h:gH F (r.getD 1 [])= .ok x) (h1:r.getD 2 []= [89]∨r.getD 2 []= [78]) (h2:eX (r.getD 3 []) 1024= .ok n) (h3:1024 < F.rules.length+n):gM eof F rows ln r= .error (ln,117):=by
 unfold gM; rw [h]; simp only; rw [if_neg (fun h3=>h1.elim h3.1 h3.2),h2]; simp only; rw [if_pos h3]
theorem A0 {eof ln x n:Nat} {F:aR} {rows:List Rw} {r:List Tx} {e:Nat×Nat} (h:gH F (r.getD 1 [])= .ok x) (h1:r.getD 2 []= [89]∨r.getD 2 []= [78]) (h2:eX (r.getD 3 []) 1024= .ok n) (h3:¬1024 < F.rules.length+n) (h4:group [r.getD 0 [],r.getD 1 []] (fI F.kind F.aliases (⟨x,(if r.getD 0 []=di then 2 else 1:Nat),(decide (r.getD 2 []= [89])),F.rules.length,n⟩:cX)) eof n rows= .error e):gM eof F rows ln r= .error e:=by
 unfold gM; rw [h]; simp only; rw [if_neg (fun h3=>h1.elim h3.1 h3.2),h2]; simp only; rw [if_neg h3,h4]
theorem QN {eof ln x n:Nat} {F:aR} {rows:List Rw} {r:List Tx} {q:List c7×List Rw} (h:gH F (r.getD 1 [])= .ok x) (h1:r.getD 2 []= [89]∨r.getD 2 []= [78]) (h2:eX (r.getD 3 []) 1024= .ok n) (h3:¬1024 < F.rules.length+n) (h4:group [r.getD 0 [],r.getD 1 []] (fI F.kind F.aliases (⟨x,(if r.getD 0 []=di then 2 else 1:Nat),(decide (r.getD 2 []= [89])),F.rules.length,n⟩:cX)) eof n rows= .ok q):gM eof F rows ln r= .ok ({F with bw:=F.bw++ [(⟨x,(if r.getD 0 []=di then 2 else 1:Nat),(decide (r.getD 2 []= [89])),F.rules.length,n⟩:cX)],rules:=F.rules++q.1},q.2):=by
 unfold gM; rw [h]; simp only; rw [if_neg (fun h3=>h1.elim h3.1 h3.2),h2]; simp only; rw [if_neg h3,h4]
theorem Gs (B:Nat) (H:dm) (F:aR) (rows:List Rw) (ln:Nat) (seen:List Tx) (r:List Tx) (cz:Nat) (ar:Option Addr) (cr:Nat) (w:World) (a:St w B H F rows ln seen) (c1:Tg w cz 9 r.length (.slice ar r.length cr) (r.map str)) (gf:r.length=4) (cs:∀ x∈r,x.length≤70000) (f3:F.dd.length+F.aliases.length+F.bw.length+F.rules.length+rows.length < 70000):
 fD ay 135 (bf [.pointer (some ⟨H.rb,0,none⟩),.slice ar r.length cr]) w (jq B H seen (gM H.eof F rows ln r) w) (jo B H (gM H.eof F rows ln r) w):=by
 obtain ⟨V,R,J,ak,aC⟩:=a
 have Z:=c1.cI
 have gg:(r.getD 1 []).length≤70000:=cs _<|dU ab
 have gh:(r.getD 2 []).length≤70000:=cs _<|dU ab
 have gi:(r.getD 3 []).length≤70000:=cs _<|dU ab
 have gd:=ak.lo
 have f8:=aC.len
 have gk:=(cU.1 ak.cells).1
 obtain ⟨a12,kz,ft⟩:=cB J.dB
 obtain ⟨cA,ky,dq⟩:=cB J.ep
 have eV:Hb.aO w.heap H.fb 12=some (.slice a12 F.rules.length kz):=by rw [← ft]; exact (aX J.cells).trans rfl
 have f9:Hb.aO w.heap H.fb 11=some (.slice cA F.bw.length ky):=by rw [← dq]; exact (aX J.cells).trans rfl
 have e0:∀ b,w.heap.size≤b→¬(V.v11.ownBlock=some b):=fun b f2 h=>by have :=dM J.ep h; omega
 obtain ⟨tf,fs,dl⟩:=ak.tm
 refine kf func135 aa ntmps135 aa ?_
 refine ed (fun b0 cy=> ∃ (x I:Nat),(gH F (r.getD 1 [])= .ok x)∧(x≠0)∧(eG F x=false)∧(w.heap.size≤I)∧(cy.heap[I]? =some (.cells [bg x,.int .i64 (1:Nat),.bool false,.int .i64 (F.rules.length:Nat),.int .i64 (0:Nat)].toArray 131 (0,0)))∧(Wk w cy)∧(b0 0= .pointer (some ⟨H.rb,0,none⟩))∧(b0 1= .slice ar r.length cr)∧(b0 4= .pointer (some ⟨I,0,none⟩))) ?_ ?_
 have C:(fun w'=>Wk w w') w.drew:=(Md.refl _ _).drew
 refine bI (fun w'=>Wk w w') aa wide C<|hp 0 aa aj (fun _ _=>aT (.pointer<|some ⟨H.rb,0,none⟩) aa) C<|hp 1 aa aj (fun _ _=>aT (.slice ar r.length cr) aa) C<|hp 2 aa aj (fun _ _=>a8 cH aa aa ab<|aJ.ok (Z.2)<|bS ab) C<|hp 3 aa aj (fun w' a=>ld bT aa<|Wk.aO a<|ca.get (i:=1) Z.2 ab) C<|hp 5 aa aj (fun _ _=>aT (.pointer<|some ⟨H.rb,0,none⟩) aa) C<|hp 6 aa aj (fun _ _=>nc aa) C<|hp 7 aa aj (fun _ _=>fa ij aa) C<|hp 8 aa aj (fun w' a=>ld gn aa<|Wk.aO a<|(aX ak.cells).trans aa) C<|hp 9 aa aj (fun _ _=>nc aa) C<|hp 10 aa aj (fun _ _=>fa gG aa) C<|hp 11 aa aj (fun _ _=>fa nP aa) C<|hp 12 aa aj (fun w' a=>ld lX aa<|Wk.aO a<|eV) C<|hp 13 aa aj (fun _ _=>bK vL aa aa) C<|Uq (Pn:=fun c w'=> ∃ e,gH F (r.getD 1 [])= .error e∧c=jh 47 ln (e:Nat)∧Wk w.drew w') 4 15 aa aa aj aa aa ?_ (fun c w' A aP J=>by obtain ⟨e,he,h,h2⟩:=A; exact ⟨ln,e,AY he,h,Wk.mw<|Md.trans C h2⟩) ?_
 refine dQ Ay (B4 B H F V R rows ln seen (r.getD 1 []) w.drew (J.wk C) (ak.wk C) aC.kd ab) aa fun v10 bW bh=> ?_
 obtain ⟨x,ac,bz,rfl,aN,bD⟩:=bh
 have am:(fun w'=>Wk w w') bW:=Md.trans C bD
 refine ⟨am,?_⟩
 refine hp 14 aa aj (fun _ _=>cQ (ps:= [(0,bg x),(1,.int .i64 (1:Nat)),(3,.int .i64 (F.rules.length:Nat))]) (L:= [bg x,.int .i64 (1:Nat),.bool false,.int .i64 (F.rules.length:Nat),.int .i64 0]) Dx aa<|aa) am<|he 15 aa aj<|fk tP fun I bZ eN b9 b3=> ?_
 have aw:(fun w'=>Wk w w') bZ:=Md.trans am b9.md
 refine ⟨aw,?_⟩
 refine he 16 aa aj<|gj rC aa aa aa aa b3 az fun cv b7 b4=> ?_
 have bl:(fun w'=>Wk w w') cv:=Md.trans' aw b7 fun k hk h=>by have h1:=Md.size am; have h2:=Md.size C; omega
 refine ⟨bl,?_⟩
 exact hn aj<|tn<|⟨x,I,ac,bz,aN,(by have h1:=Md.size am; have h2:=Md.size C; omega),b4,bl,aa,aa,aa⟩
 refine fk tP fun I bZ eN b9 b3=> ?_
 have aw:(fun w'=>Wk w w') bZ:=Md.trans C b9.md
 refine ⟨aw,?_⟩
 refine tj 4 aa aj aa (dQ Ay (B4 B H F V R rows ln seen (r.getD 1 []) bZ (J.wk aw) (ak.wk aw) aC.kd ab) aa fun v10 bW bh=> ?_) fun c w' A aP J=>by obtain ⟨e,he,h,h2⟩:=A; exact ⟨ln,e,AY he,h,Wk.mw<|Md.trans aw h2⟩
 obtain ⟨x,ac,bz,rfl,aN,bD⟩:=bh
 have am:(fun w'=>Wk w w') bW:=Md.trans aw bD
 refine ⟨am,?_⟩
 refine hp 14 aa aj (fun _ _=>cQ (ps:= [(0,bg x),(1,.int .i64 (1:Nat)),(3,.int .i64 (F.rules.length:Nat))]) (L:= [bg x,.int .i64 (1:Nat),.bool false,.int .i64 (F.rules.length:Nat),.int .i64 0]) Dx aa<|aa) am<|he 16 aa aj<|gj rC aa aa aa aa (Wk.aH bD b3) az fun cv b7 b4=> ?_
 have bl:(fun w'=>Wk w w') cv:=Md.trans' am b7 fun k hk h=>by have h1:=Md.size am; have h2:=Md.size C; omega
 refine ⟨bl,?_⟩
 exact hn aj<|tn<|⟨x,I,ac,bz,aN,(by have h1:=Md.size am; have h2:=Md.size C; omega),b4,bl,aa,aa,aa⟩
 rintro b0 cy ⟨x,I,ac,bz,aN,e5,dh,bC,e9,fc,fd⟩
 refine fx 0 e9<|fx 1 fc<|fx 4 fd ?_
 refine ed (fun b1 aZ=>(aZ.heap[I]? =some (.cells [bg x,.int .i64 ((if r.getD 0 []=di then 2 else 1:Nat):Nat),.bool false,.int .i64 (F.rules.length:Nat),.int .i64 (0:Nat)].toArray 131 (0,0)))∧(Wk w aZ)∧(b1 0= .pointer (some ⟨H.rb,0,none⟩))∧(b1 1= .slice ar r.length cr)∧(b1 4= .pointer (some ⟨I,0,none⟩))) ?_ ?_
 refine sq fun dA b6=>rg aa<|p (aT (.slice ar r.length cr) aa)<|p (a8 cH aa aa ab<|aJ.ok (aJ.wk Z.2 bC)<|bS ab)<|p (ld bT aa<|ca.get (i:=0) (aJ.wk Z.2 bC) ab)<|p (dV aa aa)<|nl<|tn<|b6 _ _<|cd aa (fun ck=> ?_) fun ck=> ?_
 exact rg aa<|p (fa uO aa)<|e<|cw eZ aa aa (v:= .int .i64 (2:Nat)) aa dh (by show _ < 5; decide) fun gz eb dN=>nl<|tn<|⟨(by rw [if_pos (show r.getD 0 []=di from ck)]; exact dN),(bC.trans' eb fun k hk h=>by omega),aa,aa,aa⟩
 exact aM<|tn<|⟨(by rw [if_neg (show ¬r.getD 0 []=di from ck)]; exact dh),bC,aa,aa,aa⟩
 rintro b1 aZ ⟨e4,ah,fe,ff,fg⟩
 refine fx 0 fe<|fx 1 ff<|fx 4 fg ?_
 refine ed (fun b2 dz=>(r.getD 2 []= [89]∨r.getD 2 []= [78])∧(dz=aZ)∧(b2 0= .pointer (some ⟨H.rb,0,none⟩))∧(b2 1= .slice ar r.length cr)∧(b2 4= .pointer (some ⟨I,0,none⟩))) ?_ ?_
 refine rg aa<|p (aT (.pointer<|some ⟨H.rb,0,none⟩) aa)<|p (aT (.slice ar r.length cr) aa)<|p (a8 cH aa aa ab<|aJ.ok (aJ.wk Z.2 ah)<|bS ab)<|p (ld bT aa<|ca.get (i:=2) (aJ.wk Z.2 ah) ab)<|p (dV aa aa)<|p mv<|gs (t:=31) aa (fun bP=> ?_) fun bP=> ?_
 refine sk aa aa aa aa<|sk aa aa aa aa<|sk aa aa aa aa<|sk aa aa aa aa<|p (bB aa)<|eP aa (dQ iy (iJ H.rb ln _ 114 aZ (Wk.aO ah ak.dj) az) aa fun v37 fG cb=> ?_) fun c w' A aP J=>by first | exact absurd A.2.1 az | exact ⟨ln,114,AZ ac bP (of_decide_eq_false A.2.1),A.1,by rw [A.2.2]; exact Wk.mw ah⟩
 obtain ⟨rfl,dr,rfl⟩:=cb
 exact nl<|tn<|⟨(.inl bP),aa,aa,aa,aa⟩
 refine pg aa aa aa (aT (.slice ar r.length cr) aa)<|pg aa aa aa (a8 cH aa aa ab<|aJ.ok (aJ.wk Z.2 ah)<|bS ab)<|pg aa aa aa (ld bT aa<|ca.get (i:=2) (aJ.wk Z.2 ah) ab)<|pg aa aa aa (dV aa aa)<|p (bp aa)<|eP aa (dQ iy (iJ H.rb ln _ 114 aZ (Wk.aO ah ak.dj) az) aa fun v37 fG cb=> ?_) fun c w' A aP J=>by first | exact absurd A.2.1 az | exact ⟨ln,114,AZ ac bP (of_decide_eq_false A.2.1),A.1,by rw [A.2.2]; exact Wk.mw ah⟩
 obtain ⟨rfl,dr,rfl⟩:=cb
 exact nl<|tn<|⟨(.inr<|of_decide_eq_true dr),aa,aa,aa,aa⟩
 rintro b2 dz ⟨aV,fv,fh,fi,fj⟩
 refine fx 0 fh<|fx 1 fi<|fx 4 fj ?_
 subst fv
 refine sq fun dA b6=>rg aa<|p (aT (.slice ar r.length cr) aa)<|p (a8 cH aa aa ab<|aJ.ok (aJ.wk Z.2 ah)<|bS ab)<|p (ld bT aa<|ca.get (i:=2) (aJ.wk Z.2 ah) ab)<|p (dV aa aa)<|p (fa HY aa)<|e<|cw rD aa aa (v:= .bool<|decide (r.getD 2 []= [89])) aa e4 (by show _ < 5; decide) fun fH ec dO=> ?_
 have a9:=ah.trans' ec fun k hk h=>by omega
 refine nl<|tn<|b6 _ _<|sq fun fO d3=>rg aa<|p (aT (.pointer<|some ⟨H.rb,0,none⟩) aa)<|p (aT (.slice ar r.length cr) aa)<|p (a8 cH aa aa ab<|aJ.ok (aJ.wk Z.2 a9)<|bS ab)<|p (ld bT aa<|ca.get (i:=3) (aJ.wk Z.2 a9) ab)<|eP aa (dQ xp (yI H.rb ln (r.getD 3 []) 1024 fH (Wk.aO a9 ak.dj) ab ab) aa fun gw gy ey=> ?_) fun c w' A aP J=>by obtain ⟨e,he,h,h2⟩:=A; exact ⟨ln,e,Gq ac aV he,h,Wk.mw<|a9.trans h2⟩
 obtain ⟨n,aU,rfl,cD⟩:=ey
 have ge:=CM aU
 refine p (fa x3 aa)<|e<|cw eZ aa aa (v:= .int .i64 (n:Nat)) aa (Wk.aH cD dO) (by show _ < 5; decide) fun dw ef dP=> ?_
 have aE:=(a9.trans cD).trans' ef fun k hk h=>by omega
 have br:dw.heap[I]? =some (.cells [bg x,.int .i64 ((if r.getD 0 []=di then 2 else 1:Nat):Nat),.bool (decide (r.getD 2 []= [89])),.int .i64 (F.rules.length:Nat),.int .i64 (n:Nat)].toArray 131 (0,0)):=dP
 refine nl<|tn<|d3 _ _<|sq fun fP d4=>rg aa<|p (aT (.pointer<|some ⟨H.rb,0,none⟩) aa)<|p (fa HZ aa)<|p (ld bu aa<|(aX br).trans aa)<|p (fa x3 aa)<|p (ld bu aa<|(aX br).trans aa)<|p (bE ((F.rules.length+n:Nat):Int) aa aa<|bj ab ab)<|p (le aa aa)<|eP aa (dQ iy (iJ H.rb ln _ 117 dw (Wk.aO aE ak.dj) az) aa fun gx cx ez=> ?_) fun c w' A aP J=>⟨ln,117,Gr ac aV aU (by have :=of_decide_eq_false A.2.1; omega),A.1,by rw [A.2.2]; exact Wk.mw aE⟩
 obtain ⟨rfl,fw,rfl⟩:=ez
 have bA:¬1024 < F.rules.length+n:=by have :=of_decide_eq_true fw; omega
 have bH:=ak.wk aE
 have dW:=J.wk aE
 have bQ:=fs.wk aE
 refine nl<|tn<|d4 _ _<|sq fun fR d5=> ?_
 have ao:(fun w'=>Wk cx w') cx.drew:=(Md.refl _ _).drew
 refine eS (fun w'=>Wk cx w') 8 aa wide ao<|lq 0 aa aj (fun _ _=>aT (.pointer<|some ⟨H.rb,0,none⟩) aa) ao<|lq 1 aa aj (fun _ _=>nc aa) ao<|lq 2 aa aj (fun _ _=>fa BN aa) ao<|lq 3 aa aj (fun w' a=>ld ur aa<|Wk.aO a<|(aX bH.cells).trans aa) ao<|lq 4 aa aj (fun _ _=>fa BH aa) ao<|lq 5 aa aj (fun w' a=>ld cV aa<|Wk.aO a<|(aX br).trans aa) ao<|lq 6 aa aj (fun w' a=>oL rY oW rJ (dp.md (bQ) a id) aa aa (⟨_,aa⟩) (show _=je .i64 0 from (dl x bz).trans<|by rw [aN]; rfl)) ao<|lq 7 aa aj (fun _ _=>bE ((1:Nat):Int) aa aa<|bj ab ab) ao<|dH 8 aa aj aj<|tJ rY rJ (bQ.wk ao) aa aa aa (⟨_,aa⟩) fun a0 ee es=> ?_
 have bc:=iq ee
 have bk:du a0 B H {F with bw:=F.bw++ [(⟨x,(if r.getD 0 []=di then 2 else 1:Nat),(decide (r.getD 2 []= [89])),F.rules.length,n⟩:cX)]} R rows ln seen:=bH.vj bc es rfl (Lv aN dl fun y _=>RZ y)
 have ba:=dW.vj bH bc
 have db:=bc.aH br fun h=>bQ.pN<|h ▸ br
 have eJ:=(c1.wk aE).md bc fun k hk cur z co=>by subst hk; exact bQ.pN co
 have el:=(Wk.mw aE).trans<|fC.mt bH bc
 obtain ⟨cf,cl,eW⟩:=ba.cm
 have eT:Hb.aO a0.heap H.fb 11=some (.slice cA F.bw.length ky):=by rw [← dq]; exact (aX ba.cells).trans rfl
 refine eR aj<|tn<|d5 _ _<|sq fun fS d6=> ?_
 have E:(fun w'=>Wk a0 w') a0.drew:=(Md.refl _ _).drew
 refine eS (fun w'=>Wk a0 w') 18 aa wide E<|lq 0 aa aj (fun _ _=>aT (.pointer<|some ⟨H.rb,0,none⟩) aa) E<|lq 1 aa aj (fun _ _=>nc aa) E<|lq 2 aa aj (fun _ _=>fa ij aa) E<|lq 3 aa aj (fun w' a=>ld gn aa<|Wk.aO a<|(aX bk.cells).trans aa) E<|lq 4 aa aj (fun _ _=>nc aa) E<|lq 5 aa aj (fun _ _=>fa HX aa) E<|lq 6 aa aj (fun w' a=>ld ur aa<|Wk.aO a<|(aX ba.cells).trans aa) E<|lq 7 aa aj (fun _ _=>fa BH aa) E<|lq 8 aa aj (fun w' a=>ld cV aa<|Wk.aO a<|(aX db).trans aa) E<|lq 9 aa aj (fun _ _=>aT (.pointer<|some ⟨H.rb,0,none⟩) aa) E<|lq 10 aa aj (fun _ _=>nc aa) E<|lq 11 aa aj (fun _ _=>fa ij aa) E<|lq 12 aa aj (fun w' a=>ld gn aa<|Wk.aO a<|(aX bk.cells).trans aa) E<|lq 13 aa aj (fun _ _=>nc aa) E<|lq 14 aa aj (fun _ _=>fa gG aa) E ?_
 refine lq 15 aa aj (fun _ _=>fa th aa) E<|lq 16 aa aj (fun w' a=>ld xf aa<|Wk.aO a<|eT) E<|lq 17 aa aj (fun _ _=>bK LL aa aa) E<|dH 18 aa aj aj<|tJ rY rJ (cl.wk E) aa aa aa (⟨_,aa⟩) fun a1 eg et=> ?_
 have eu:dp a1.heap H.mc (pM .u16) (bU cf (bg x)<|.int .i64 (F.bw.length:Nat)):=et
 have bd:=iq eg
 have ce:TF a0 [1] (fun k=>k=H.mc):=TF.eq (eD cl) az
 have bo:=(SR ba).md (L:= [1]) bd ce az
 have bJ:=bk.md (L:= [1]) bd ce az bk.ne.2.1 bk.ne.2.2
 have c5:=bd.gL ce db az
 have eK:=eJ.md bd fun k hk cur z co=>by subst hk; exact cl.pN co
 have en:=el.trans<|bd.mono fun k _ hk=>⟨hk ▸ ba.lo.2,.inr<|.inr<|.inl hk⟩
 have dc:=e0 I e5
 have bx:¬(V.v11.ownBlock=some H.rb):=dC bo.ep bJ.cells az
 have cp:¬(V.v11.ownBlock=some H.fb):=dC bo.ep bo.cells az
 refine eR aj<|tn<|d6 _ _<|sq fun fT d7=> ?_
 have O:(fun w'=>Md (fun k=>V.v11.ownBlock=some k) a1 w') a1.drew:=(Md.refl _ _).drew
 refine eS (fun w'=>Md (fun k=>V.v11.ownBlock=some k) a1 w') 18 aa wide O<|dx 0 aa aj (fun _=>aT (.pointer<|some ⟨H.rb,0,none⟩) aa) (fun _=>O)<|dx 1 aa aj (fun _=>nc aa) (fun _=>O)<|dx 2 aa aj (fun _=>fa ij aa) (fun _=>O)<|kI 3 aa aj (fun w' a=>ld gn aa<|Md.aO a ((aX bJ.cells).trans aa) bx) O<|dx 4 aa aj (fun _=>aT (.pointer<|some ⟨H.rb,0,none⟩) aa) (fun _=>O)<|dx 5 aa aj (fun _=>nc aa) (fun _=>O)<|dx 6 aa aj (fun _=>fa ij aa) (fun _=>O)<|kI 7 aa aj (fun w' a=>ld gn aa<|Md.aO a ((aX bJ.cells).trans aa) bx) O<|dx 8 aa aj (fun _=>nc aa) (fun _=>O)<|dx 9 aa aj (fun _=>fa gG aa) (fun _=>O)<|dx 10 aa aj (fun _=>fa th aa) (fun _=>O)<|kI 11 aa aj (fun w' a=>ld xf aa<|Md.aO a ((aX bo.cells).trans aa) cp) O<|kI 12 aa aj (fun w' a=>da uu aa (aa) fun j eX=>bO.bG ⟨_,Md.aH a c5 dc⟩ j) O<|gP 13 aa aj<|kQ yW aa aa aa fun f1 fJ f7 cN dR=> ?_
 have aQ:=iq cN.md
 have aq:=bo.wk aQ
 have cR:=bJ.wk aQ
 have gp:=(cU.1 cR.cells).1
 have c0:(fun w'=>Md (fun k=>V.v11.ownBlock=some k) a1 w') fJ:=O.trans' cN.md fun _ _ h=>h.elim
 refine ⟨c0,?_⟩
 refine gP 14 aa aj<|ap yW (aq.ep) aa ab aa (aJ.dX dR) (aa) (aa) ab ab fun ct dy dg aK gt gc=> ?_
 have eo:=(en.trans<|Wk.mw aQ).trans<|Mw.of aK (TF.own aq.ep az) fun k hk=>(dM aq.ep hk).1
 have bh:=du.own cR aq.ep aK az
 have bs:=aK.aH aq.cells<|dC aq.ep aq.cells az
 have cg:=aK.aH (Wk.aH aQ c5) dc
 have eB:=(eK.wk aQ).md aK<|il aq.ep az
 have e3:bq dy B 131 5 ct (F.bw++ [(⟨x,(if r.getD 0 []=di then 2 else 1:Nat),(decide (r.getD 2 []= [89])),F.rules.length,n⟩:cX)]).length (m7<|F.bw++ [(⟨x,(if r.getD 0 []=di then 2 else 1:Nat),(decide (r.getD 2 []= [89])),F.rules.length,n⟩:cX)]):=by rw [show m7 (F.bw++ [(⟨x,(if r.getD 0 []=di then 2 else 1:Nat),(decide (r.getD 2 []= [89])),F.rules.length,n⟩:cX)])=m7 F.bw++nI (⟨x,(if r.getD 0 []=di then 2 else 1:Nat),(decide (r.getD 2 []= [89])),F.rules.length,n⟩:cX) from by simp [m7],bL]; exact dg
 have bN:(fun w'=>Md (fun k=>V.v11.ownBlock=some k) a1 w') dy:=c0.trans' aK fun _ _ h=>h
 refine ⟨bN,?_⟩
 refine dx 15 aa aj (fun _=>nc aa) (fun _=>bN)<|dx 16 aa aj (fun _=>fa gG aa) (fun _=>bN)<|dx 17 aa aj (fun _=>fa th aa) (fun _=>bN)<|dH 18 aa aj aj<|cw GU aa aa (v:=ct) (eU dg) bs (by show _ < 14; omega) fun aY ai b5=> ?_
 have dT:=ox.z8 (x:=(⟨x,(if r.getD 0 []=di then 2 else 1:Nat),(decide (r.getD 2 []= [89])),F.rules.length,n⟩:cX)) aq (eu.wk aQ) (Rj (c:=(⟨x,(if r.getD 0 []=di then 2 else 1:Nat),(decide (r.getD 2 []= [89])),F.rules.length,n⟩:cX)) aN eW) aK e3 ai b5
 have ev:=du.oE bh bs ai
 have c6:=ai.aH cg fun h=>by rw [h,bs] at cg; cases cg
 have eC:=eB.md ai<|fu bs az
 have ei:=eo.trans<|Mw.of ai (TF.eq (dt bs) az) fun k hk=>hk ▸ aq.lo.1
 refine eR aj<|tn<|d7 _ _<|sq fun fU d8=>rg aa<|p (fa x3 aa)<|p (ld bu aa<|(aX c6).trans aa)<|p mv<|nl<|tn<|d8 _ _<|aH<|lp (fun cC a2 ae=> ∃ (i:Nat) (xs:List c7) (rows':List Rw) (bR:Nat) (G:e6) (R':gW),(i≤n)∧(iU [r.getD 0 [],r.getD 1 []] (fI F.kind F.aliases (⟨x,(if r.getD 0 []=di then 2 else 1:Nat),(decide (r.getD 2 []= [89])),F.rules.length,n⟩:cX)) H.eof (group [r.getD 0 [],r.getD 1 []] (fI F.kind F.aliases (⟨x,(if r.getD 0 []=di then 2 else 1:Nat),(decide (r.getD 2 []= [89])),F.rules.length,n⟩:cX)) H.eof n rows) xs (n - i) rows')∧(xs.length=i)∧(dS ae B H.fb H.mc {F with bw:=F.bw++ [(⟨x,(if r.getD 0 []=di then 2 else 1:Nat),(decide (r.getD 2 []= [89])),F.rules.length,n⟩:cX)],rules:=F.rules++xs} G)∧(du ae B H {F with bw:=F.bw++ [(⟨x,(if r.getD 0 []=di then 2 else 1:Nat),(decide (r.getD 2 []= [89])),F.rules.length,n⟩:cX)],rules:=F.rules++xs} R' rows' bR seen)∧(kM {F with bw:=F.bw++ [(⟨x,(if r.getD 0 []=di then 2 else 1:Nat),(decide (r.getD 2 []= [89])),F.rules.length,n⟩:cX)],rules:=F.rules++xs} rows' seen)∧(fC B H w ae)∧(ae.heap[I]? =some (.cells [bg x,.int .i64 ((if r.getD 0 []=di then 2 else 1:Nat):Nat),.bool (decide (r.getD 2 []= [89])),.int .i64 (F.rules.length:Nat),.int .i64 (n:Nat)].toArray 131 (0,0)))∧(Tg ae cz 9 r.length (.slice ar r.length cr)<|r.map str)∧(a2 0= .pointer (some ⟨H.rb,0,none⟩))∧(a2 1= .slice ar r.length cr)∧(a2 4= .pointer (some ⟨I,0,none⟩))∧(a2 102= .int .i64 (n:Nat))∧(a2 103= .int .i64 (i:Nat))∧(n - i=cC)) _ ⟨0,[],rows,ln,{V with v11:=ct},R,ab,iU.start,aa,(by rw [eh]; exact dT),(by rw [eh]; exact ev),(⟨by simp only [bL,fA,gC]; omega,aC.sl,aC.row,aC.kd,aC.al⟩),ei,c6,eC,aa,aa,aa,aa,aa,aa⟩ ?_
 rintro cC a2 ae ⟨i,xs,rows',bR,G,R',hi,aS,fy,cE,au,a6,cJ,dk,bm,fl,fm,fr,fo,fq,rfl⟩
 refine fx 0 fl<|fx 1 fm<|fx 4 fr<|fx 102 fo<|fx 103 fq<|sq fun fV d9=>rg aa<|p (lt aa aa)<|nl<|tn<|d9 _ _<|sq fun fW ea=>cd aa (fun eQ=> ?_) fun eQ=> ?_
 refine aM<|tn<|ea _ _<|sq fun fK d0=>aH<|sq fun fL d1=> ?_
 have av:(fun w'=>Md (fun k=>k=H.rb) ae w') ae.drew:=(Md.refl _ _).drew
 refine bI (fun w'=>Md (fun k=>k=H.rb) ae w') aa wide av<|hp 0 aa aj (fun _ _=>aT (.pointer<|some ⟨H.rb,0,none⟩) aa) av<|hp 1 aa aj (fun _ _=>aT (.slice ar r.length cr) aa) av<|hp 2 aa aj (fun _ _=>a8 cH aa aa ab<|aJ.ok (bm.cI.2)<|bS ab) av<|hp 3 aa aj (fun w' a=>ld bT aa<|ca.get (i:=0) (bm.md a<|fu au.cells az).cI.2 ab) av<|hp 4 aa aj (fun _ _=>aT (.slice ar r.length cr) aa) av<|hp 5 aa aj (fun _ _=>a8 cH aa aa ab<|aJ.ok (bm.cI.2)<|bS ab) av<|hp 6 aa aj (fun w' a=>ld bT aa<|ca.get (i:=1) (bm.md a<|fu au.cells az).cI.2 ab) av<|he 7 aa aj<|sL (L:= [str (r.getD 0 []),str (r.getD 1 [])]) fQ aa aa aa aa fun dF cu f5 cM dK=> ?_
 have ag:Wk ae cu:=iq cM.md
 have cK:=cJ.trans<|Wk.mw ag
 have cS:(fun w'=>Md (fun k=>k=H.rb) ae w') cu:=av.trans' cM.md fun _ _ h=>h.elim
 refine ⟨cS,?_⟩
 refine tj 8 aa aj aa (dQ Az (Co B H {F with bw:=F.bw++ [(⟨x,(if r.getD 0 []=di then 2 else 1:Nat),(decide (r.getD 2 []= [89])),F.rules.length,n⟩:cX)],rules:=F.rules++xs} R' rows' bR seen [r.getD 0 [],r.getD 1 []] dF 2 _ _ cu (au.wk ag) (Tg.CS dK aa) aa az fun q cq=>(a6.row q cq).2.1) aa fun gv ax ex=> ?_) (fun c w' A aP J=>by
  obtain ⟨h1,h2⟩:=A
  have hm:=cK.trans<|fC.rb (au.wk ag) h2
  rcases h1 with ⟨rfl,h3⟩ | ⟨bV,aW,rest,rfl,h4,h3⟩
  exact ⟨_,_,A0 ac aV aU bA (aS.ends ab),h3,hm⟩
  exact ⟨_,_,A0 ac aV aU bA (aS.other ab h4),h3,hm⟩)
 obtain ⟨bV,aW,rest,rfl,dn,⟨aB,bi⟩,hT15,hM15⟩:=ex
 obtain ⟨dE,dG,rfl⟩:=hT15.slice
 have aF:=(cE.wk ag).rb (au.wk ag) hM15
 have cL:=cK.trans<|fC.rb (au.wk ag) hM15
 have e8:aW≠[]∧aW.length≤70000∧∀ x∈aW,x.length≤70000:=a6.row (bV,aW)<|by simp
 have a5:=kM.pF a6
 have eO:=a6.len
 simp only [cO,bL] at eO
 have eE:=(bm.wk ag).md hM15<|fu (au.wk ag).cells az
 have ch:=hM15.aH (Wk.aH ag dk) fun h=>by have h1:=(au.wk ag).cells; rw [← h,Wk.aH ag dk] at h1; cases h1
 have cT:(fun w'=>Md (fun k=>k=H.rb) ae w') ax:=cS.trans' hM15 fun _ _ h=>h
 refine ⟨cT,?_⟩
 refine hp 9 aa aj (fun _ _=>aA) cT<|hn aj<|tn<|d1 _ _<|sq fun fN d2=> ?_
 have bx:¬(G.v12.ownBlock=some H.rb):=dC aF.dB bi.cells az
 have cp:¬(G.v12.ownBlock=some H.fb):=dC aF.dB aF.cells az
 have eY:¬(G.v12.ownBlock=some I):=dC aF.dB ch az
 have M:(fun w'=>Md (fun k=>G.v12.ownBlock=some k) ax w') ax.drew:=(Md.refl _ _).drew
 refine eS (fun w'=>Md (fun k=>G.v12.ownBlock=some k) ax w') 21 aa wide M<|dx 0 aa aj (fun _=>aT (.pointer<|some ⟨H.rb,0,none⟩) aa) (fun _=>M)<|dx 1 aa aj (fun _=>nc aa) (fun _=>M)<|dx 2 aa aj (fun _=>fa ij aa) (fun _=>M)<|kI 3 aa aj (fun w' a=>ld gn aa<|Md.aO a ((aX bi.cells).trans aa) bx) M<|dx 4 aa aj (fun _=>aT (.pointer<|some ⟨H.rb,0,none⟩) aa) (fun _=>M)<|dx 5 aa aj (fun _=>nc aa) (fun _=>M)<|dx 6 aa aj (fun _=>fa ij aa) (fun _=>M)<|kI 7 aa aj (fun w' a=>ld gn aa<|Md.aO a ((aX bi.cells).trans aa) bx) M<|dx 8 aa aj (fun _=>nc aa) (fun _=>M)<|dx 9 aa aj (fun _=>fa gG aa) (fun _=>M)<|dx 10 aa aj (fun _=>fa nP aa) (fun _=>M)<|kI 11 aa aj (fun w' a=>ld lX aa<|Md.aO a ((aX aF.cells).trans aa) cp) M<|dx 12 aa aj (fun _=>aT (.pointer<|some ⟨H.rb,0,none⟩) aa) (fun _=>M)<|kI 13 aa aj (fun w' a=>da uu aa (aa) fun j eX=>bO.bG ⟨_,Md.aH a ch eY⟩ j) M<|dx 14 aa aj (fun _=>mv) (fun _=>M) ?_
 refine Jh 15 aa aj aa (dQ Pl (yM B H {F with bw:=F.bw++ [(⟨x,(if r.getD 0 []=di then 2 else 1:Nat),(decide (r.getD 2 []= [89])),F.rules.length,n⟩:cX)],rules:=F.rules++xs} G aB rest bV seen (⟨x,(if r.getD 0 []=di then 2 else 1:Nat),(decide (r.getD 2 []= [89])),F.rules.length,n⟩:cX) aW B dE dG ax.drew (aF.wk (Md.refl _ _).drew) (bi.wk (Md.refl _ _).drew) a5 (by show (if r.getD 0 []=di then 2 else 1)=1∨(if r.getD 0 []=di then 2 else 1)=2; split <;> simp) (hT15.wk (Md.refl _ _).drew) e8.2) aa fun gu fE ew=> ?_) fun c w' A aP J=>by obtain ⟨e,he,h,h2⟩:=A; exact ⟨_,_,A0 ac aV aU bA (aS.bad ab dn he),h,cL.trans<|Wk.mw<|iq h2⟩
 obtain ⟨q,cq,e7,⟨vn,rfl,c4⟩,bF⟩:=ew
 obtain ⟨a3,a4,rfl⟩:=c4.slice
 have bF:=iq bF
 have cW:(fun w'=>Md (fun k=>G.v12.ownBlock=some k) ax w') fE:=Md.mono bF fun _ _ h=>h.elim
 refine ⟨cW,?_⟩
 refine gP 16 aa aj<|kQ yX aa aa aa fun fX fF f4 b8 dJ=> ?_
 have a7:=bF.trans b8.md
 have U:=aF.wk a7
 have cP:=bi.wk a7
 have eF:=eE.wk a7
 have c8:=Wk.aH a7 ch
 have eM:=c4.wk b8.md
 have gl:=(cU.1 cP.cells).1
 have cY:(fun w'=>Md (fun k=>G.v12.ownBlock=some k) ax w') fF:=cW.trans' b8.md fun _ _ h=>h.elim
 refine ⟨cY,?_⟩
 refine gP 17 aa aj<|ap yX (U.dB) aa ab aa (aJ.dX dJ) (aa) (aa) (by simp only [bL]; omega) (by simp only [bL]; omega) fun v131 ds de aG gq ga=> ?_
 have ej:=(cL.trans<|Wk.mw a7).trans<|Mw.of aG (TF.own U.dB az) fun k hk=>(dM U.dB hk).1
 have eA:=du.own cP U.dB aG az
 have bt:=aG.aH U.cells<|dC U.dB U.cells az
 have ci:=aG.aH c8<|dC U.dB c8 az
 have eH:=eF.md aG<|il U.dB az
 have e1:bq ds B 77 7 v131 ((F.rules++xs)++ [q]).length (iS<|((F.rules++xs)++ [q]).zip<|G.rn++ [.slice a3 q.next.length a4]):=by
  have fB:(F.rules++xs).length=G.rn.length:=by have :=U.nx.1; rw [fM] at this; exact this.symm
  rw [List.zip_append fB,show iS ((F.rules++xs).zip G.rn++ [q].zip [.slice a3 q.next.length a4])=iS ((F.rules++xs).zip G.rn)++fz (q,.slice a3 q.next.length a4) from by simp [iS],bL]
  exact de
 have bM:(fun w'=>Md (fun k=>G.v12.ownBlock=some k) ax w') ds:=cY.trans' aG fun _ _ h=>h
 refine ⟨bM,?_⟩
 refine dx 18 aa aj (fun _=>nc aa) (fun _=>bM)<|dx 19 aa aj (fun _=>fa gG aa) (fun _=>bM)<|dx 20 aa aj (fun _=>fa nP aa) (fun _=>bM)<|dH 21 aa aj aj<|cw GV aa aa (v:=v131) (eU de) bt (by show _ < 14; omega) fun aY ai b5=> ?_
 have dY:=dS.xi (x:=q) (vx:= .slice a3 q.next.length a4) U eM aG e1 ai b5
 have aL:=du.oE eA bt ai
 have c9:=ai.aH ci fun h=>by rw [h,bt] at ci; cases ci
 have eI:=eH.md ai<|fu bt az
 have ek:=ej.trans<|Mw.of ai (TF.eq (dt bt) az) fun k hk=>hk ▸ U.lo.1
 refine eR aj<|tn<|d2 _ _ ?_
 have an:(fun w'=>Md (fun k=>aB.vn.ownBlock=some k) aY w') aY.drew:=(Md.refl _ _).drew
 refine eS (fun w'=>Md (fun k=>aB.vn.ownBlock=some k) aY w') 13 aa wide an<|dx 0 aa aj (fun _=>aT (.pointer<|some ⟨H.rb,0,none⟩) aa) (fun _=>an)<|dx 1 aa aj (fun _=>aT (.pointer<|some ⟨H.rb,0,none⟩) aa) (fun _=>an)<|dx 2 aa aj (fun _=>nc aa) (fun _=>an)<|dx 3 aa aj (fun _=>fa BO aa) (fun _=>an)<|kI 4 aa aj (fun w' a=>ld pz aa<|Md.aO a ((aX aL.cells).trans aa)<|dC aL.on aL.cells az) an<|dx 5 aa aj (fun _=>aT (.pointer<|some ⟨H.rb,0,none⟩) aa) (fun _=>an)<|dx 6 aa aj (fun _=>nc aa) (fun _=>an)<|dx 7 aa aj (fun _=>fa uV aa) (fun _=>an)<|kI 8 aa aj (fun w' a=>ld bu aa<|Md.aO a ((aX aL.cells).trans aa)<|dC aL.on aL.cells az) an<|gP 9 aa aj<|fZ nm aa aa fun fY dv f6 er dL=> ?_
 have aD:=iq er.md
 have Y:=aL.wk aD
 have cF:=dY.wk aD
 have gm:=(cU.1 Y.cells).1
 have cZ:(fun w'=>Md (fun k=>aB.vn.ownBlock=some k) aY w') dv:=Md.mono aD fun _ _ h=>h.elim
 refine ⟨cZ,?_⟩
 refine gP 10 aa aj<|ap nm (Y.on) aa ab aa (aJ.dX dL) (aa) (aa) (by simp only [bL]; omega) (by simp only [bL]; omega) fun v145 bY df aI gr gb=> ?_
 have em:=(ek.trans<|Wk.mw aD).trans<|Mw.of aI (TF.own Y.on az) fun k hk=>(dM Y.on hk).1
 have c3:TF dv [5] (fun k=>aB.vn.ownBlock=some k):=TF.own Y.on az
 have cG:=cF.md aI c3 az fun h=>by obtain ⟨f,cn,_⟩:=cF.cm; exact c3.no (eD cn) az h
 have bv:=aI.aH Y.cells<|dC Y.on Y.cells az
 have cj:=aI.aH (Wk.aH aD c9)<|dC Y.on (Wk.aH aD c9) az
 have eL:=(eI.wk aD).md aI<|il Y.on az
 have e2:bq bY B 3 1 v145 ((F.rules++xs)++ [q]).length (((F.rules++xs)++ [q]).map fun r=>je .i64 (r.line:Nat)):=by
  rw [iu,bL]
  show bq bY B 3 1 v145 _ (_++ [je .i64 (q.line:Nat)])
  rw [e7]
  exact df
 have cc:(fun w'=>Md (fun k=>aB.vn.ownBlock=some k) aY w') bY:=cZ.trans' aI fun _ _ h=>h
 refine ⟨cc,?_⟩
 refine dx 11 aa aj (fun _=>nc aa) (fun _=>cc)<|dx 12 aa aj (fun _=>fa BO aa) (fun _=>cc)<|dH 13 aa aj aj<|cw A7 aa aa (v:=v145) (eU df) bv (by show _ < 7; omega) fun bW bb dI=> ?_
 have c2:TF bY [197] (fun k=>k=H.rb):=TF.eq (dt bv) az
 have dZ:=cG.md bb c2 az fun h=>by obtain ⟨f,cn,_⟩:=cG.cm; exact c2.no (eD cn) az h
 exact eR aj<|bn<|tn<|d0 _ _<|rg aa<|p (ad aa aa<|bX ab)<|p mv<|nl<|tn<|⟨_,ab,i+1,xs++ [q],rest,bV,{G with v12:=v131,rn:=G.rn++ [.slice a3 q.next.length a4]},{aB with vn:=v145},ab,(by rw [show n - (i+1)=n - i - 1 by omega]; exact aS.step ab dn cq),(by rw [bL,fy]; rfl),(by rw [← dD]; exact dZ),(by rw [← dD]; exact du.V0 (q:=q) Y aI e2 bb dI aa fun _=>rfl),(⟨by simp only [bL,fA]; omega,a5.sl,a5.row,a5.kd,a5.al⟩),(em.trans<|Mw.of bb (TF.eq (dt bv) az) fun k hk=>hk ▸ Y.lo.1),(bb.aH cj fun h=>by rw [h,bv] at cj; cases cj),(eL.md bb<|fu bv az),aa,aa,aa,aa,aa,aa⟩
 refine ext<|te _<|te _<|be<|jL<|f0 aa ?_
 rw [show n - i=0 by omega] at aS
 exact ⟨aa,_,rows',bR,QN ac aV aU bA aS.done,⟨G,R',cE,au,a6⟩,cJ⟩
end Go.Hb.nz
end
section
namespace Go.Hb
open Go.Hb.nz Go.Hb.ow
def sQ:cX:=⟨0,0,false,0,0⟩
theorem S1 {x:Nat} :∀ {cs:List cX} {i:Nat},cs.findIdx? (fun c=>decide (c.flag=x))=some i→∃ c,cs[i]? =some c∧dW cs x=some c:=by
 intro cs
 induction cs with
 | nil=>intro i h; simp at h
 | cons a l C=>
   intro i h
   rw [List.findIdx?_cons] at h
   unfold dW
   rw [Na]
   by_cases q:a.flag=x
   · simp only [q,decide_true,if_true] at h ⊢
     cases h
     exact ⟨a,aa,aa⟩
   · simp only [q,decide_false] at h ⊢
     simp only [Bool.false_eq_true,if_false,Option.map_eq_some_iff] at h
     obtain ⟨j,A,rfl⟩:=h
     obtain ⟨c,h1,h2⟩:=C A
     exact ⟨c,by simpa using h1,h2⟩
theorem JT {F:aR} {x:Nat} (h:x=F.sp.getD 0 0):mF F x=true :=by unfold mF; rw [decide_eq_true h]; rfl
theorem JU {F:aR} {x:Nat} (h:(dW F.bw x).isSome=true) (hk:((dW F.bw x).getD sQ).kind=2):mF F x=true :=by
 unfold mF
 obtain ⟨c,a⟩:=o8.1 h
 rw [a] at hk ⊢
 simp only [zO] at hk
 simp [hk]
theorem yE {F:aR} {x:Nat} (a:x≠F.sp.getD 0 0) (h:(dW F.bw x).isSome=true) (hk:((dW F.bw x).getD sQ).kind≠2):mF F x=false :=by
 unfold mF
 obtain ⟨c,i⟩:=o8.1 h
 rw [i] at hk ⊢
 simp only [zO] at hk
 rw [decide_eq_false a]
 simp [hk]
theorem yF {F:aR} {x:Nat} (a:x≠F.sp.getD 0 0) (h:(dW F.bw x).isSome=false):mF F x=false :=by
 unfold mF
 rw [decide_eq_false a]
 cases hc:dW F.bw x with
 | none=>rfl
 | some c=>rw [hc] at h; cases h
theorem qi {F:aR} {q:c7} {j:Nat} (a:j < q.next.length) (h:mF F (q.next.getD j 0)=false):nD F q=true :=by
 unfold nD
 rw [List.any_eq_true]
 exact ⟨_,dU a,by rw [h]; rfl⟩
theorem Fh {F:aR} {q:c7} (h:∀ j,j < q.next.length→mF F (q.next.getD j 0)=true):nD F q=false :=by
 unfold nD
 rw [List.any_eq_false]
 intro x i
 obtain ⟨j,a,rfl⟩:=nU 0 i
 rw [h j a]; simp
theorem qu {p:c7→Bool} {q:c7} :∀ {l:List c7} {i:Nat},(∀ j A,j < i→l[j]? =some A→p A=false)→l[i]? =some q→p q=true→l.find? p=some q:=by
 intro l
 induction l with
 | nil=>intro i _ h; simp at h
 | cons a l G=>
   intro i C hi hp
   rw [Na]
   cases i with
   | zero=>simp only [ud,Option.some.injEq] at hi; subst hi; rw [hp]
   | succ i=>
     rw [C 0 a ab rfl]
     exact G (i:=i) (fun j A I E=>C (j+1) A ab<|by simpa using E) (by simpa using hi) hp
theorem HA {p:c7→Bool} {l:List c7} (h:∀ j i,j < l.length→l[j]? =some i→p i=false):l.find? p=none:=by
 rw [Et]
 intro q A
 obtain ⟨j,a⟩:=wq A
 rw [h j q (fS.1 a).1 a]; simp
theorem S3 {x:Nat} {cs:List cX} (h:cs.findIdx? (fun c=>decide (c.flag=x))=none):dW cs x=none:=by
 rw [Nb] at h
 unfold dW
 rw [Et]
 intro c a
 simpa using h c a
theorem Bq (B fb mc:Nat) (F:aR) (V:e6) (x:Nat) (w:World) (q:dS w B fb mc F V) (aK:F.bw.length≤70000):
 bm ay 137 (bf [aQ fb,bg x]) w (fun v w'=>v= .tuple #[.agg (nI<|(dW F.bw x).getD sQ).toArray,.bool (dW F.bw x).isSome]∧Wk w w'):=by
 obtain ⟨ai,ky,O⟩:=cB q.ep
 have J:=q.ep
 rw [O] at J
 have ap:Hb.aO w.heap fb 11=some (.slice ai F.bw.length ky):=by rw [← O]; exact (aX q.cells).trans rfl
 obtain ⟨f,av,ax⟩:=q.cm
 obtain ⟨iv,ob,az,aD,G⟩:∃ (iv:Nat) (ob:Bool),(f<|bg x).getD (.int .i64 0)=au iv∧(f<|bg x).isSome=ob∧((ob=false∧dW F.bw x=none)∨(ob=true∧∃ c,F.bw[iv]? =some c∧dW F.bw x=some c)):=by
  rw [ax x]
  cases hfi:F.bw.findIdx? (fun c=>decide (c.flag=x)) with
  | none=>exact ⟨0,false,rfl,rfl,.inl ⟨rfl,S3 hfi⟩⟩
  | some i=>exact ⟨i,true,rfl,rfl,.inr ⟨rfl,S1 hfi⟩⟩
 refine enter func137 aa ntmps137 aa<|ag fun U=>e<|al tP fun aG aL aH a E=>aw<|U<|aB fun Y=>aB fun Z=>rg aa<|ak (aQ fb)<|p (kT vM aa aa)<|nl<|Z<|cf (aa)<|aM<|Y<|ag fun ac=>ak (aQ fb)<|p (nc aa)<|p (fa HX aa)<|p (ld ur aa<|Wk.aO a.md<|(aX q.cells).trans aa)<|ak (bg x)<|p (Jm rY oW rJ (av.wk a.md) aa aa (⟨_,aa⟩) (az)<|aD)<|p mv<|p (xt aa aa)<|p (xt aa aa)<|p aA<|aw<|ac<|aB fun ae=>ag fun ah=>p mv<|p (no aa)<|nl<|ah<|cb aa (fun C=> ?_) fun C=> ?_
 have aE:ob=false :=by simpa using C
 have ar:dW F.bw x=none:=by rcases G with ⟨_,h⟩ | ⟨h,_⟩; exact h; rw [aE] at h; cases h
 exact ag fun A=>p (cQ (ps:= []) (L:= [.int .u16 0,.int .i64 0,.bool false,.int .i64 0,.int .i64 0]) Dx aa<|aa)<|e<|cW rC aa aa aa aa (E) (by simp) fun aN an aj=>aw<|A<|rt<|tr<|ew aa (dN (cs:=nI sQ) aa uu aa fun j aC=>aj.bG j) eb<|⟨by rw [ar]; rfl,a.md.trans' an fun k hk h=>by omega⟩
 have aF:ob=true :=by simpa using C
 obtain ⟨c,I,aq⟩:∃ c,F.bw[iv]? =some c∧dW F.bw x=some c:=by rcases G with ⟨h,_⟩ | ⟨_,h⟩; rw [aF] at h; cases h; exact h
 have aI:=(fS.1 I).1
 have M:=aW J a.md
 exact aM<|ae<|ag fun A=>ak (aQ fb)<|p (nc aa)<|p (fa gG aa)<|p (fa th aa)<|p (ld xf aa<|Wk.aO a.md ap)<|p mv<|p (a8 SP aa aa ab<|aJ.ok ((a7 M).2) fun h=>by have :=congrArg jz h; rw [show (m7 F.bw).length=F.bw.length*5 from oG (f:=nI) (m:=5) (fun _=>rfl) _] at this; simp at this; omega)<|p (da uu aa (aa)<|fG (f:=nI) (m:=5) (fun _=>rfl) (a7 M).2 I)<|e<|cW rC aa aa aa aa (E) (by simp) fun aP ao am=>aw<|A<|rt<|ew aa (dN (cs:=nI c) aa uu aa fun j aC=>am.bG j) eb<|⟨by rw [aq]; rfl,a.md.trans' ao fun k hk h=>by omega⟩
theorem QG (B:Nat) (H:dm) (F:aR) (rows:List Rw) (ln:Nat) (seen:List Tx) (w:World) (bA:St w B H F rows ln seen) (bL:∀ q∈F.rules,q.next.length≤64):
 fD ay 86 (bf [.pointer (some ⟨H.rb,0,none⟩)]) w (fun v w'=>v= .tuple #[]∧F.rules.find? (nD F)=none∧(∃ V R' ar,dS w' B H.fb H.mc F V∧du w' B H F R' rows ar seen)∧fC B H w w') (fun c w'=> ∃ q,F.rules.find? (nD F)=some q∧c=jh 47 q.line 118∧fC B H w w'):=by
 obtain ⟨V,R,M,ao,a2⟩:=bA
 obtain ⟨a12,kz,aL⟩:=cB M.dB
 have bM:=M.dB
 rw [aL] at bM
 have bE:Hb.aO w.heap H.fb 12=some (.slice a12 F.rules.length kz):=by rw [← aL]; exact (aX M.cells).trans rfl
 obtain ⟨vr,vs,vn⟩:=R
 obtain ⟨ak,cv,b4⟩:=cB ao.on
 obtain rfl :vn= .slice ak F.rules.length cv:=b4
 have cq:=a2.len
 have cr:=ao.lo
 refine kf func86 aa ntmps86 aa<|sq fun b8 bc=>rg aa<|p (aT (.pointer<|some ⟨H.rb,0,none⟩) aa)<|p (nc aa)<|p (fa ij aa)<|p (ld gn aa<|(aX ao.cells).trans aa)<|p (nc aa)<|p (fa gG aa)<|p (fa nP aa)<|p (ld lX aa<|bE)<|p (bK vL aa aa)<|p mv<|nl<|tn<|bc _ _<|aH<|lp (fun Z aj ai=> ∃ (i ar:Nat),(i≤F.rules.length)∧(∀ j q,j < i→F.rules[j]? =some q→nD F q=false)∧(dS ai B H.fb H.mc F V)∧(du ai B H F ⟨vr,vs,.slice ak F.rules.length cv⟩ rows ar seen)∧(fC B H w ai)∧(aj 0= .pointer (some ⟨H.rb,0,none⟩))∧(aj 15= .slice a12 F.rules.length kz)∧(aj 16= .int .i64 (F.rules.length:Nat))∧(aj 17= .int .i64 (i:Nat))∧(F.rules.length - i=Z)) _ ⟨0,ln,ab,(fun j q aV=>by omega),M,ao,(Md.refl _ _),aa,aa,aa,aa,aa⟩ ?_
 rintro Z aj ai ⟨i,ar,hi,I,an,aD,aP,bP,bQ,bR,bT,rfl⟩
 refine fx 0 bP<|fx 15 bQ<|fx 16 bR<|fx 17 bT<|sq fun cc bi=>rg aa<|p (lt aa aa)<|nl<|tn<|bi _ _<|sq fun ce bj=>cd aa (fun bF=> ?_) fun bF=> ?_
 refine aM<|tn<|bj _ _<|sq fun cf bk=>aH<|sq fun cg bl=> ?_
 have aG:=an.dB
 rw [aL] at aG
 have aU:i < F.rules.length:=ab
 obtain ⟨vn,b3,aF⟩:=eu.get an.nx (i:=i)<|by rw [fM]; exact aU
 obtain ⟨q,A⟩:∃ q,F.rules[i]? =some q:=⟨_,cC aU⟩
 have bO:(F.rules.map (·.next)).getD i []=q.next:=by rw [cR,ir,A]; rfl
 rw [bO] at aF
 have ct:=bL q<|iN A
 obtain ⟨av,aw,rfl⟩:=aF.slice
 have aW:(F.rules.zip V.rn)[i]? =some (q,.slice av q.next.length aw):=by rw [jy]; exact ⟨A,b3⟩
 have aY:(iS<|F.rules.zip V.rn).length=(F.rules.zip V.rn).length*7:=oG (f:=fz) (m:=7) (fun _=>rfl) _
 have bI:(F.rules.map fun r=>je .i64 (r.line:Nat))[i]? =some (.int .i64 (q.line:Nat)):=by rw [ir,A]; rfl
 refine rg aa<|p (aT (.int .i64 (i:Nat)) aa)<|p (a8 na aa aa ab<|aJ.ok ((a7 aG).2) (fun h=>by rw [h] at aY; have h2:0=(F.rules.zip V.rn).length*7:=aY; have h3:=(fS.1 aW).1; omega)) ?_
 refine p (da m3 aa (aa)<|fG (f:=fz) (m:=7) (fun _=>rfl) (a7 aG).2 aW)<|e<|al r7 fun cm cz co aS a4=> ?_
 skip
 refine p (cJ (.int .i64 (i:Nat)) aa)<|e<|cW pE aa aa aa aa (a4) (by simp) fun b7 bs a3=> ?_
 have am:Wk ai b7:=aS.md.trans' bs fun k hk h=>by omega
 have ba:=an.wk am
 have C:=aD.wk am
 have cu:=aS.size
 have cs:=(cU.1 aD.cells).1
 refine nl<|tn<|bl _ _<|sq fun ch bm=>rg aa<|p (aT (.pointer<|some ⟨H.rb,0,none⟩) aa)<|p (aT (.pointer<|some ⟨H.rb,0,none⟩) aa)<|p (nc aa)<|p (fa BO aa)<|p (ld pz aa<|(aX C.cells).trans aa)<|p (aT (.int .i64 (i:Nat)) aa)<|p (a8 kg aa aa ab<|aJ.ok ((a7 C.on).2)<|by simp; intro h; rw [h] at A; simp at A)<|p (ld bu aa<|aJ.gK (a7 C.on).2 bI)<|p (nc aa)<|p (fa uV aa)<|e<|cw eZ aa aa (v:= .int .i64 (q.line:Nat)) aa C.cells (by show _ < 7; decide) fun cE ae a9=> ?_
 have bz:=C.dy (R':=⟨vr,vs,.slice ak F.rules.length cv⟩) (ln':=q.line) ae a9 rfl C.rws C.rt
 have bb:=ba.rb C ae
 have bD:=ae.B a3 fun h=>by omega
 have bC:=(aF.wk am).md ae<|fu C.cells az
 have bv:=(aP.trans<|Wk.mw am).trans<|fC.rb C ae
 refine nl<|tn<|bm _ _<|sq fun ci bo=>rg aa<|p (fa qw aa)<|p (ld mZ aa<|(bD.aO 6).trans aa)<|p (bK oR aa aa)<|p mv<|nl<|tn<|bo _ _<|aH<|lp (fun Z J Y=> ∃ (j:Nat),(j≤q.next.length)∧(∀ ah,ah < j→mF F (q.next.getD ah 0)=true)∧(dS Y B H.fb H.mc F V)∧(du Y B H F ⟨vr,vs,.slice ak F.rules.length cv⟩ rows q.line seen)∧(fC B H w Y)∧(Tg Y B 51 q.next.length (.slice av q.next.length aw)<|q.next.map bg)∧(J 0= .pointer (some ⟨H.rb,0,none⟩))∧(J 15= .slice a12 F.rules.length kz)∧(J 16= .int .i64 (F.rules.length:Nat))∧(J 17= .int .i64 (i:Nat))∧(J 33= .slice av q.next.length aw)∧(J 34= .int .i64 (q.next.length:Nat))∧(J 35= .int .i64 (j:Nat))∧(q.next.length - j=Z)) _ ⟨0,ab,(fun ah bH=>by omega),bb,bz,bv,bC,aa,aa,aa,aa,aa,aa,aa,aa⟩ ?_
 rintro Z J Y ⟨j,aV,aI,aB,aE,aQ,ap,bU,bV,bW,bZ,b0,b1,b2,rfl⟩
 refine fx 0 bU<|fx 15 bV<|fx 16 bW<|fx 17 bZ<|fx 33 b0<|fx 34 b1<|fx 35 b2<|sq fun cj bq=>rg aa<|p (lt aa aa)<|nl<|tn<|bq _ _<|sq fun ck br=>cd aa (fun bG=> ?_) fun bG=> ?_
 refine aM<|tn<|br _ _<|sq fun b9 aC=>aH<|sq fun ca bd=> ?_
 have b5:(q.next.map bg)[j]? =some (bg<|q.next.getD j 0):=by rw [ir,cR,cC (by omega :j < q.next.length)]; rfl
 refine rg aa<|p (a8 bY aa aa ab<|aJ.ok (ap.cI.2)<|bS ab)<|p (ld cV aa<|aJ.gK ap.cI.2 b5)<|p aA<|nl<|tn<|bd _ _<|sq fun cb bh=>rg aa<|p (aT (.pointer<|some ⟨H.rb,0,none⟩) aa)<|p (nc aa)<|p (fa ij aa)<|p (ld gn aa<|(aX aE.cells).trans aa)<|p mv<|e<|cl Ap (Bq B H.fb H.mc F V (q.next.getD j 0) _ aB ab) aa fun cy cA bx=> ?_
 obtain ⟨rfl,aN⟩:=bx
 have cx:=aN.size
 refine p mv<|p (xt aa aa)<|p (xt aa aa)<|e<|al tP fun cn cD cp bw a5=>e<|cW rC aa aa aa aa (a5) (by simp) fun au bt a6=> ?_
 have ac:Wk Y au:=(aN.trans bw.md).trans' bt fun k hk h=>by omega
 have ax:=aB.wk ac
 have U:=aE.wk ac
 have E:=aQ.trans<|Wk.mw ac
 refine p aA<|nl<|tn<|bh _ _<|rg aa<|p (aT (.pointer<|some ⟨H.rb,0,none⟩) aa)<|p mv<|p (aT (.pointer<|some ⟨H.rb,0,none⟩) aa)<|p (nc aa)<|p (fa ij aa)<|p (ld gn aa<|(aX U.cells).trans aa)<|p (nc aa)<|p (fa gG aa)<|p (fa x8 aa)<|p (kh uy aa aa ab)<|p (ld cV aa<|(aX ax.cells).trans aa)<|p (bJ aa aa)<|p mv<|gs (t:=60) aa (fun O=> ?_) fun O=> ?_
 refine sk aa aa aa aa<|sk aa aa aa aa<|yQ aa aa aa<|yQ aa aa aa<|yQ aa aa aa<|sk aa aa aa aa<|p (bB aa) ?_
 refine eP aa (dQ iy (iJ H.rb q.line _ 118 au U.dj az) aa fun aZ a0 ag=> ?_) (fun c w' a a1 M=>by
  first
   | exact absurd a.2.1 az
   | exact ⟨q,qu I A (qi (j:=j) ab<|yE (fun h=>O<|by rw [h]) G<|by have :=of_decide_eq_false a.2.1; omega),a.1,by rw [a.2.2]; exact E⟩
   | exact ⟨q,qu I A (qi (j:=j) ab<|yF (fun h=>O<|by rw [h])<|by simpa using G),a.1,by rw [a.2.2]; exact E⟩)
 obtain ⟨rfl,aq,rfl⟩:=ag
 exact nl<|bn<|tn<|aC _ _<|rg aa<|p (ad aa aa<|bX ab)<|p mv<|nl<|tn<|⟨_,ab,j+1,ab,(fun k hk=>by rcases fi k j with h | h <;> first | exact aI k h | (rw [show k=j by omega]; exact JT ab)),ax,U,E,(ap.wk ac),aa,aa,aa,aa,aa,aa,aa,aa⟩
 refine pg aa aa aa mv<|pg aa aa aa mv<|gb (t:=62) aa (fun G=> ?_) fun G=> ?_
 refine pg aa aa aa (fa uO aa)<|pg aa aa aa (ld bu aa<|(a6.aO 1).trans aa)<|pg aa aa aa (bJ aa aa)<|pg aa aa aa (bB aa)<|p (bp aa) ?_
 refine eP aa (dQ iy (iJ H.rb q.line _ 118 au U.dj az) aa fun aZ a0 ag=> ?_) (fun c w' a a1 M=>by
  first
   | exact absurd a.2.1 az
   | exact ⟨q,qu I A (qi (j:=j) ab<|yE (fun h=>O<|by rw [h]) G<|by have :=of_decide_eq_false a.2.1; omega),a.1,by rw [a.2.2]; exact E⟩
   | exact ⟨q,qu I A (qi (j:=j) ab<|yF (fun h=>O<|by rw [h])<|by simpa using G),a.1,by rw [a.2.2]; exact E⟩)
 obtain ⟨rfl,aq,rfl⟩:=ag
 exact nl<|bn<|tn<|aC _ _<|rg aa<|p (ad aa aa<|bX ab)<|p mv<|nl<|tn<|⟨_,ab,j+1,ab,(fun k hk=>by rcases fi k j with h | h <;> first | exact aI k h | (rw [show k=j by omega]; exact JU G<|by have :=of_decide_eq_true aq; omega)),ax,U,E,(ap.wk ac),aa,aa,aa,aa,aa,aa,aa,aa⟩
 refine sk aa aa aa aa<|sk aa aa aa aa<|sk aa aa aa aa<|pg aa aa aa (bp aa)<|p (bp aa) ?_
 refine eP aa (dQ iy (iJ H.rb q.line _ 118 au U.dj az) aa fun aZ a0 ag=> ?_) (fun c w' a a1 M=>by
  first
   | exact absurd a.2.1 az
   | exact ⟨q,qu I A (qi (j:=j) ab<|yE (fun h=>O<|by rw [h]) G<|by have :=of_decide_eq_false a.2.1; omega),a.1,by rw [a.2.2]; exact E⟩
   | exact ⟨q,qu I A (qi (j:=j) ab<|yF (fun h=>O<|by rw [h])<|by simpa using G),a.1,by rw [a.2.2]; exact E⟩)
 obtain ⟨rfl,aq,rfl⟩:=ag
 exact nl<|bn<|tn<|aC _ _<|rg aa<|p (ad aa aa<|bX ab)<|p mv<|nl<|tn<|absurd aq az
 exact ext<|te _<|te _<|be<|bn<|tn<|bk _ _<|rg aa<|p (ad aa aa<|bX ab)<|p mv<|nl<|tn<|⟨_,ab,i+1,q.line,ab,(fun k b6 hk aK=>by rcases fi k i with h | h <;> first | exact I k b6 h aK | (rw [show k=i by omega,A] at aK; cases aK; exact Fh fun ah bH=>aI ah ab)),aB,aE,aQ,aa,aa,aa,aa,aa⟩
 refine ext<|te _<|te _<|be<|jL<|f0 aa ?_
 exact ⟨aa,HA (fun j q aV bN=>I j q ab bN),⟨V,_,_,an,aD⟩,aP⟩
end Go.Hb
end
namespace Go.Hb
def Nx (F:aR):Prop :=(∀ l∈F.aliases,l.length≤64)∧∀ q∈F.rules,q.next.length≤64
theorem Cf {α:Type} {hd:List Tx} {rd:Nat→List Tx→Except Nat α} {eof:Nat} :∀ (n:Nat) (rows:List Rw) (r:List α×List Rw),group hd rd eof n rows= .ok r→∀ x∈r.1,∃ ln row,rd ln row= .ok x:=by
 intro n
 induction n with
 | zero=>intro rows r h; simp only [group,r8] at h; subst h; intro x a; cases a
 | succ n i=>
   intro rows r h
   cases rows with
   | nil=>simp [group] at h
   | cons q rows=>
     obtain ⟨ln,row⟩:=q
     simp only [group] at h
     split at h
     · cases h
     · cases hr:rd ln row with
       | error e=>rw [hr] at h; cases h
       | ok y=>
         rw [hr] at h
         simp only at h
         cases hg:group hd rd eof n rows with
         | error e=>rw [hg] at h; cases h
         | ok A=>
           rw [hg] at h
           simp only [r8] at h
           subst h
           intro x a
           rcases gu.1 a with a | a
           · exact ⟨ln,row,by rw [a]; exact hr⟩
           · exact i rows A hg x a
theorem Ig {kind:Nat} {s:Tx} {l:List Nat} (h:kU kind s= .ok l):l.length≤64:=by
 unfold kU at h
 split at h
 · cases h
 · rename_i a
   cases h
   exact (Ie<|jk.1 a).1
theorem N4 {kind ln:Nat} {row:List Tx} {l:List Nat} (h:ku kind ln row= .ok l):l.length≤64:=by
 unfold ku at h
 split at h
 · cases h
 · exact Ig h
theorem xV {kind:Nat} {al:List (List Nat)} {s:Tx} {l:List Nat} (a:∀ l∈al,l.length≤64) (h:fV kind al s= .ok l):l.length≤64:=by
 unfold fV at h
 split at h
 · exact Ig h
 · split at h
   · cases h
   · split at h
     · cases h
     · cases h
       rename_i n _ _
       rw [cR]
       cases hg:al[n - 1]? with
       | none=>simp
       | some x=>exact a x<|iN hg
theorem XB {kind ln:Nat} {al:List (List Nat)} {c:cX} {row:List Tx} {q:c7} (i:∀ l∈al,l.length≤64) (h:fI kind al c ln row= .ok q):q.next.length≤64:=by
 unfold fI at h
 split at h
 · cases h
 · split at h
   · cases h
   · split at h
     · cases h
     · split at h
       · cases h
       · rename_i nx a
         split at h
         · cases h
         · cases h
           unfold kY at a
           split at a
           · split at a
             · cases a
             · exact xV i a
           · cases a; simp
theorem yi {eof ln:Nat} {F F':aR} {hs:List Tx} {rows rows':List Rw} {row:List Tx} (h:Nx F) (a:cg eof F hs rows ln row= .ok (F',rows')):Nx F':=by
 unfold cg at a
 split at a
 · unfold ko at a
   split at a
   · cases a
   · cases a; exact h
 · split at a
   · unfold kH at a
     split at a
     · cases a
     · split at a
       · cases a
       · cases a; exact h
   · split at a
     · unfold mK at a
       split at a
       · cases a
       · cases a; exact h
     · split at a
       · unfold mO at a
         split at a
         · cases a
         · cases a; exact h
       · split at a
         · unfold kX at a
           split at a
           · cases a
           · split at a
             · cases a
             · cases a; exact h
         · split at a
           · unfold kn at a
             split at a
             · cases a
             · split at a
               · cases a
               · cases a; exact h
           · split at a
             · unfold jS at a
               split at a
               · cases a
               · split at a
                 · cases a
                 · split at a
                   · cases a
                   · rename_i r C
                     cases a
                     refine ⟨fun l i=> ?_,h.2⟩
                     rcases jD.1 i with i | i
                     · exact h.1 l i
                     · obtain ⟨_,_,h2⟩:=Cf _ _ _ C l i
                       exact N4 h2
             · unfold gM at a
               split at a
               · cases a
               · split at a
                 · cases a
                 · split at a
                   · cases a
                   · split at a
                     · cases a
                     · split at a
                       · cases a
                       · rename_i r C
                         cases a
                         refine ⟨h.1,fun q A=> ?_⟩
                         rcases jD.1 A with A | A
                         · exact h.2 q A
                         · obtain ⟨_,_,h2⟩:=Cf _ _ _ C q A
                           exact XB h.1 h2
theorem Uu {eof ln:Nat} {F F':aR} {hs:List Tx} {rows rows':List Rw} {row:List Tx} (i:row.getD 0 []∉ea) (a:cg eof F hs rows ln row= .ok (F',rows')):F'.sp=F.sp:=by
 unfold cg at a
 rw [if_neg i] at a
 unfold kH mK mO kX kn jS gM at a
 repeat' split at a
 all_goals first
  | (cases a; done)
  | (cases a; rfl)
theorem IT {eof ln:Nat} {F F':aR} {seen:List Tx} {rows rows':List Rw} {row:List Tx} (h:ks F seen) (i:cg eof F seen rows ln row= .ok (F',rows')):ks F' (seen++ [row.getD 0 []]):=by
 intro k hk A
 rw [jD,List.mem_singleton] at A
 have E:k∉seen:=fun h=>A<|.inl h
 have G:k≠row.getD 0 []:=fun h=>A<|.inr h
 by_cases q:row.getD 0 []∈ea
 · unfold cg at i
   rw [if_pos q] at i
   unfold ko at i
   split at i
   · cases i
   · cases i
     show (F.sp.set (ea.idxOf<|row.getD 0 []) _).getD (ea.idxOf k) 0=0
     rw [cR,k6,if_neg,← cR]
     · exact h k hk E
     · intro he
       have C:∀ a∈ea,ea.getD (ea.idxOf a) []=a:=az
       have h1:=C _ q
       have h2:=C _ hk
       rw [he] at h1
       exact G<|h2.symm.trans h1
 · rw [Uu q i]; exact h k hk E
def iG (s:Tx):Option Value:=if s=di then some (bM #[.int .i64 (4:Nat),.func (.func 135) #[] #[]]) else if s=fH then some (bM #[.int .i64 (4:Nat),.func (.func 135) #[] #[]]) else if s=eI then some (bM #[.int .i64 (2:Nat),.func (.func 134) #[] #[]]) else if s=ff then some (bM #[.int .i64 (2:Nat),.func (.func 133) #[] #[]]) else if s=ki then some (bM #[.int .i64 (2:Nat),.func (.func 132) #[] #[]]) else if s=lP then some (bM #[.int .i64 (2:Nat),.func (.func 131) #[] #[]]) else if s=lu then some (bM #[.int .i64 (2:Nat),.func (.func 131) #[] #[]]) else if s=kV then some (bM #[.int .i64 (2:Nat),.func (.func 131) #[] #[]]) else if s=kG then some (bM #[.int .i64 (2:Nat),.func (.func 131) #[] #[]]) else if s=kj then some (bM #[.int .i64 (2:Nat),.func (.func 131) #[] #[]]) else if s=iR then some (bM #[.int .i64 (2:Nat),.func (.func 130) #[] #[]]) else if s=iH then some (bM #[.int .i64 (2:Nat),.func (.func 129) #[] #[]]) else if s=ik then some (bM #[.int .i64 (2:Nat),.func (.func 128) #[] #[]]) else none
def zF:Value→Option Value:=fun _=>none
def zG:Tx→Option Value:=fun _=>none
theorem str_inj {a b:Tx} :str a=str b↔a=b:=⟨fun h=>by unfold str at h; cases h; rfl,fun h=>by rw [h]⟩
theorem mI {f:Value→Option Value} {g:Tx→Option Value} {k:Tx} {v:Value} (h:∀ s,f (str s)=g s) (s:Tx):bU f (str k) v (str s)=if s=k then some v else g s:=by
 by_cases hs:s=k
 · subst hs; rw [vq,if_pos rfl]
 · rw [tx (fun h2=>hs<|str_inj.1 h2),if_neg hs,h s]
theorem Uv (w:World):
 bm ay 83 (bf []) w (fun v w'=> ∃ b,v= .map (some b)∧b=w.heap.size∧(∃ f,dp w'.heap b ji f∧∀ s,f (str s)=iG s)∧Wk w w'):=by
 refine enter func83 aa ntmps83 aa<|ag fun ab=>aw<|ab<|ag fun ac=>e<|vg fun a i bi aN ae=> ?_
 have aO:dp i.heap a ji zF:=dp.nil ae
 have bj:∀ s:Tx,zF (str s)=zG s:=fun _=>rfl
 have ah:Wk w i:=aN.md
 refine p (cQ (ps:= [(0,au 2),(1,.func (.func 128) #[] #[])]) (L:= [au 2,.func (.func 128) #[] #[]]) mM aa<|aa)<|e<|mD mh iZ (aO) aa aa aa (⟨_,aa⟩) fun I aF aU=> ?_
 have a3:dp I.heap a ji (bU zF (str ik)<|bM #[au 2,.func (.func 128) #[] #[]]):=aU
 have bk:=mI (k:=ik) (v:=bM #[au 2,.func (.func 128) #[] #[]]) bj
 have ai:Wk w I:=ah.trans' aF fun k hk h=>by omega
 refine p (cQ (ps:= [(0,au 2),(1,.func (.func 129) #[] #[])]) (L:= [au 2,.func (.func 129) #[] #[]]) mM aa<|aa)<|e<|mD mh iZ (a3) aa aa aa (⟨_,aa⟩) fun V aK a0=> ?_
 have a4:dp V.heap a ji (bU (bU zF (str ik)<|bM #[au 2,.func (.func 128) #[] #[]]) (str iH)<|bM #[au 2,.func (.func 129) #[] #[]]):=a0
 have bq:=mI (k:=iH) (v:=bM #[au 2,.func (.func 129) #[] #[]]) bk
 have an:Wk w V:=ai.trans' aK fun k hk h=>by omega
 refine p (cQ (ps:= [(0,au 2),(1,.func (.func 130) #[] #[])]) (L:= [au 2,.func (.func 130) #[] #[]]) mM aa<|aa)<|e<|mD mh iZ (a4) aa aa aa (⟨_,aa⟩) fun Y aL a1=> ?_
 have a8:dp Y.heap a ji (bU (bU (bU zF (str ik)<|bM #[au 2,.func (.func 128) #[] #[]]) (str iH)<|bM #[au 2,.func (.func 129) #[] #[]]) (str iR)<|bM #[au 2,.func (.func 130) #[] #[]]):=a1
 have br:=mI (k:=iR) (v:=bM #[au 2,.func (.func 130) #[] #[]]) bq
 have ao:Wk w Y:=an.trans' aL fun k hk h=>by omega
 refine p (cQ (ps:= [(0,au 2),(1,.func (.func 131) #[] #[])]) (L:= [au 2,.func (.func 131) #[] #[]]) mM aa<|aa)<|e<|mD mh iZ (a8) aa aa aa (⟨_,aa⟩) fun Z aM a2=> ?_
 have a9:dp Z.heap a ji (bU (bU (bU (bU zF (str ik)<|bM #[au 2,.func (.func 128) #[] #[]]) (str iH)<|bM #[au 2,.func (.func 129) #[] #[]]) (str iR)<|bM #[au 2,.func (.func 130) #[] #[]]) (str kj)<|bM #[au 2,.func (.func 131) #[] #[]]):=a2
 have bs:=mI (k:=kj) (v:=bM #[au 2,.func (.func 131) #[] #[]]) br
 have ap:Wk w Z:=ao.trans' aM fun k hk h=>by omega
 refine p (cQ (ps:= [(0,au 2),(1,.func (.func 131) #[] #[])]) (L:= [au 2,.func (.func 131) #[] #[]]) mM aa<|aa)<|e<|mD mh iZ (a9) aa aa aa (⟨_,aa⟩) fun q aA aP=> ?_
 have ba:dp q.heap a ji (bU (bU (bU (bU (bU zF (str ik)<|bM #[au 2,.func (.func 128) #[] #[]]) (str iH)<|bM #[au 2,.func (.func 129) #[] #[]]) (str iR)<|bM #[au 2,.func (.func 130) #[] #[]]) (str kj)<|bM #[au 2,.func (.func 131) #[] #[]]) (str kG)<|bM #[au 2,.func (.func 131) #[] #[]]):=aP
 have bt:=mI (k:=kG) (v:=bM #[au 2,.func (.func 131) #[] #[]]) bs
 have aq:Wk w q:=ap.trans' aA fun k hk h=>by omega
 refine p (cQ (ps:= [(0,au 2),(1,.func (.func 131) #[] #[])]) (L:= [au 2,.func (.func 131) #[] #[]]) mM aa<|aa)<|e<|mD mh iZ (ba) aa aa aa (⟨_,aa⟩) fun A aB aQ=> ?_
 have bb:dp A.heap a ji (bU (bU (bU (bU (bU (bU zF (str ik)<|bM #[au 2,.func (.func 128) #[] #[]]) (str iH)<|bM #[au 2,.func (.func 129) #[] #[]]) (str iR)<|bM #[au 2,.func (.func 130) #[] #[]]) (str kj)<|bM #[au 2,.func (.func 131) #[] #[]]) (str kG)<|bM #[au 2,.func (.func 131) #[] #[]]) (str kV)<|bM #[au 2,.func (.func 131) #[] #[]]):=aQ
 have bu:=mI (k:=kV) (v:=bM #[au 2,.func (.func 131) #[] #[]]) bt
 have ar:Wk w A:=aq.trans' aB fun k hk h=>by omega
 refine p (cQ (ps:= [(0,au 2),(1,.func (.func 131) #[] #[])]) (L:= [au 2,.func (.func 131) #[] #[]]) mM aa<|aa)<|e<|mD mh iZ (bb) aa aa aa (⟨_,aa⟩) fun C aC aR=> ?_
 have bc:dp C.heap a ji (bU (bU (bU (bU (bU (bU (bU zF (str ik)<|bM #[au 2,.func (.func 128) #[] #[]]) (str iH)<|bM #[au 2,.func (.func 129) #[] #[]]) (str iR)<|bM #[au 2,.func (.func 130) #[] #[]]) (str kj)<|bM #[au 2,.func (.func 131) #[] #[]]) (str kG)<|bM #[au 2,.func (.func 131) #[] #[]]) (str kV)<|bM #[au 2,.func (.func 131) #[] #[]]) (str lu)<|bM #[au 2,.func (.func 131) #[] #[]]):=aR
 have bv:=mI (k:=lu) (v:=bM #[au 2,.func (.func 131) #[] #[]]) bu
 have av:Wk w C:=ar.trans' aC fun k hk h=>by omega
 refine p (cQ (ps:= [(0,au 2),(1,.func (.func 131) #[] #[])]) (L:= [au 2,.func (.func 131) #[] #[]]) mM aa<|aa)<|e<|mD mh iZ (bc) aa aa aa (⟨_,aa⟩) fun E aD aS=> ?_
 have bd:dp E.heap a ji (bU (bU (bU (bU (bU (bU (bU (bU zF (str ik)<|bM #[au 2,.func (.func 128) #[] #[]]) (str iH)<|bM #[au 2,.func (.func 129) #[] #[]]) (str iR)<|bM #[au 2,.func (.func 130) #[] #[]]) (str kj)<|bM #[au 2,.func (.func 131) #[] #[]]) (str kG)<|bM #[au 2,.func (.func 131) #[] #[]]) (str kV)<|bM #[au 2,.func (.func 131) #[] #[]]) (str lu)<|bM #[au 2,.func (.func 131) #[] #[]]) (str lP)<|bM #[au 2,.func (.func 131) #[] #[]]):=aS
 have bw:=mI (k:=lP) (v:=bM #[au 2,.func (.func 131) #[] #[]]) bv
 have ax:Wk w E:=av.trans' aD fun k hk h=>by omega
 refine p (cQ (ps:= [(0,au 2),(1,.func (.func 132) #[] #[])]) (L:= [au 2,.func (.func 132) #[] #[]]) mM aa<|aa)<|e<|mD mh iZ (bd) aa aa aa (⟨_,aa⟩) fun G aE aT=> ?_
 have bg:dp G.heap a ji (bU (bU (bU (bU (bU (bU (bU (bU (bU zF (str ik)<|bM #[au 2,.func (.func 128) #[] #[]]) (str iH)<|bM #[au 2,.func (.func 129) #[] #[]]) (str iR)<|bM #[au 2,.func (.func 130) #[] #[]]) (str kj)<|bM #[au 2,.func (.func 131) #[] #[]]) (str kG)<|bM #[au 2,.func (.func 131) #[] #[]]) (str kV)<|bM #[au 2,.func (.func 131) #[] #[]]) (str lu)<|bM #[au 2,.func (.func 131) #[] #[]]) (str lP)<|bM #[au 2,.func (.func 131) #[] #[]]) (str ki)<|bM #[au 2,.func (.func 132) #[] #[]]):=aT
 have bx:=mI (k:=ki) (v:=bM #[au 2,.func (.func 132) #[] #[]]) bw
 have az:Wk w G:=ax.trans' aE fun k hk h=>by omega
 refine p (cQ (ps:= [(0,au 2),(1,.func (.func 133) #[] #[])]) (L:= [au 2,.func (.func 133) #[] #[]]) mM aa<|aa)<|e<|mD mh iZ (bg) aa aa aa (⟨_,aa⟩) fun J aG aW=> ?_
 have bh:dp J.heap a ji (bU (bU (bU (bU (bU (bU (bU (bU (bU (bU zF (str ik)<|bM #[au 2,.func (.func 128) #[] #[]]) (str iH)<|bM #[au 2,.func (.func 129) #[] #[]]) (str iR)<|bM #[au 2,.func (.func 130) #[] #[]]) (str kj)<|bM #[au 2,.func (.func 131) #[] #[]]) (str kG)<|bM #[au 2,.func (.func 131) #[] #[]]) (str kV)<|bM #[au 2,.func (.func 131) #[] #[]]) (str lu)<|bM #[au 2,.func (.func 131) #[] #[]]) (str lP)<|bM #[au 2,.func (.func 131) #[] #[]]) (str ki)<|bM #[au 2,.func (.func 132) #[] #[]]) (str ff)<|bM #[au 2,.func (.func 133) #[] #[]]):=aW
 have bl:=mI (k:=ff) (v:=bM #[au 2,.func (.func 133) #[] #[]]) bx
 have aj:Wk w J:=az.trans' aG fun k hk h=>by omega
 refine p (cQ (ps:= [(0,au 2),(1,.func (.func 134) #[] #[])]) (L:= [au 2,.func (.func 134) #[] #[]]) mM aa<|aa)<|e<|mD mh iZ (bh) aa aa aa (⟨_,aa⟩) fun M aH aX=> ?_
 have a5:dp M.heap a ji (bU (bU (bU (bU (bU (bU (bU (bU (bU (bU (bU zF (str ik)<|bM #[au 2,.func (.func 128) #[] #[]]) (str iH)<|bM #[au 2,.func (.func 129) #[] #[]]) (str iR)<|bM #[au 2,.func (.func 130) #[] #[]]) (str kj)<|bM #[au 2,.func (.func 131) #[] #[]]) (str kG)<|bM #[au 2,.func (.func 131) #[] #[]]) (str kV)<|bM #[au 2,.func (.func 131) #[] #[]]) (str lu)<|bM #[au 2,.func (.func 131) #[] #[]]) (str lP)<|bM #[au 2,.func (.func 131) #[] #[]]) (str ki)<|bM #[au 2,.func (.func 132) #[] #[]]) (str ff)<|bM #[au 2,.func (.func 133) #[] #[]]) (str eI)<|bM #[au 2,.func (.func 134) #[] #[]]):=aX
 have bn:=mI (k:=eI) (v:=bM #[au 2,.func (.func 134) #[] #[]]) bl
 have ak:Wk w M:=aj.trans' aH fun k hk h=>by omega
 refine p (cQ (ps:= [(0,au 4),(1,.func (.func 135) #[] #[])]) (L:= [au 4,.func (.func 135) #[] #[]]) mM aa<|aa)<|e<|mD mh iZ (a5) aa aa aa (⟨_,aa⟩) fun O aI aY=> ?_
 have a6:dp O.heap a ji (bU (bU (bU (bU (bU (bU (bU (bU (bU (bU (bU (bU zF (str ik)<|bM #[au 2,.func (.func 128) #[] #[]]) (str iH)<|bM #[au 2,.func (.func 129) #[] #[]]) (str iR)<|bM #[au 2,.func (.func 130) #[] #[]]) (str kj)<|bM #[au 2,.func (.func 131) #[] #[]]) (str kG)<|bM #[au 2,.func (.func 131) #[] #[]]) (str kV)<|bM #[au 2,.func (.func 131) #[] #[]]) (str lu)<|bM #[au 2,.func (.func 131) #[] #[]]) (str lP)<|bM #[au 2,.func (.func 131) #[] #[]]) (str ki)<|bM #[au 2,.func (.func 132) #[] #[]]) (str ff)<|bM #[au 2,.func (.func 133) #[] #[]]) (str eI)<|bM #[au 2,.func (.func 134) #[] #[]]) (str fH)<|bM #[au 4,.func (.func 135) #[] #[]]):=aY
 have bo:=mI (k:=fH) (v:=bM #[au 4,.func (.func 135) #[] #[]]) bn
 have al:Wk w O:=ak.trans' aI fun k hk h=>by omega
 refine p (cQ (ps:= [(0,au 4),(1,.func (.func 135) #[] #[])]) (L:= [au 4,.func (.func 135) #[] #[]]) mM aa<|aa)<|e<|mD mh iZ (a6) aa aa aa (⟨_,aa⟩) fun U aJ aZ=> ?_
 have a7:dp U.heap a ji (bU (bU (bU (bU (bU (bU (bU (bU (bU (bU (bU (bU (bU zF (str ik)<|bM #[au 2,.func (.func 128) #[] #[]]) (str iH)<|bM #[au 2,.func (.func 129) #[] #[]]) (str iR)<|bM #[au 2,.func (.func 130) #[] #[]]) (str kj)<|bM #[au 2,.func (.func 131) #[] #[]]) (str kG)<|bM #[au 2,.func (.func 131) #[] #[]]) (str kV)<|bM #[au 2,.func (.func 131) #[] #[]]) (str lu)<|bM #[au 2,.func (.func 131) #[] #[]]) (str lP)<|bM #[au 2,.func (.func 131) #[] #[]]) (str ki)<|bM #[au 2,.func (.func 132) #[] #[]]) (str ff)<|bM #[au 2,.func (.func 133) #[] #[]]) (str eI)<|bM #[au 2,.func (.func 134) #[] #[]]) (str fH)<|bM #[au 4,.func (.func 135) #[] #[]]) (str di)<|bM #[au 4,.func (.func 135) #[] #[]]):=aZ
 have bp:=mI (k:=di) (v:=bM #[au 4,.func (.func 135) #[] #[]]) bo
 have am:Wk w U:=al.trans' aJ fun k hk h=>by omega
 exact p mv<|aw<|ac<|rt<|aV aa<|⟨a,aa,bi,⟨_,a7,fun s=>bp s⟩,am⟩
theorem WV (E G:Nat) (w:World):
 CallsD ay 82 (bf [.pointer (some ⟨E,0,none⟩),.pointer (some ⟨G,0,none⟩)]) .returning w (fun en I w'=> ∃ v,en= .returned v∧I= .returning∧(fun w'=>Wk w w') w'):=by
 refine Gn (v:= .nilIface) func82 aa ntmps82 aa (fun O cs C=> .inr ⟨by simp [recoverD,C],aa,aa⟩) ?_
 refine p (Yw CG ZG aa)<|p mv<|p (xt aa aa)<|p (xt aa aa)<|e<|al p4 fun M Y V A a=>e<|cW jT aa aa aa aa (a) (by simp) fun Z q U=>p aA<|nl<|tn<|sq fun J i=>rg aa<|p mv<|nl<|tn<|i _ _<|cf (aa)<|aM<|f0 aa ?_
 exact A.md.trans' q fun k hk h=>by omega
theorem WU (a i:Nat) (ln:Nat) (er:Int) (w:World) (h2:∃ v:Value,w.heap[a]? =some (.cells [v].toArray 60 (0,0))) (h3:∃ L:List Value,L.length=3∧w.heap[i]? =some (.cells L.toArray 47 (0,0))) (U:a≠i):
 CallsD ay 82 (bf [.pointer (some ⟨a,0,none⟩),.pointer (some ⟨i,0,none⟩)]) (.panicking<|jh 47 ln er) w (fun en ao w'=> ∃ v,en= .returned v∧ao=(.panicking [{v:= .iface 47 (.agg [.int .i64 1,.int .i64 (ln:Nat),.int .i64 er].toArray),recovered:=true}])∧(fun w'=>w'.heap[a]? =some (.cells [.pointer none].toArray 60 (0,0))∧w'.heap[i]? =some (.cells [.int .i64 1,.int .i64 (ln:Nat),.int .i64 er].toArray 47 (0,0))∧Md (fun k=>k=a∨k=i) w w') w'):=by
 obtain ⟨v2,h2⟩:=h2
 obtain ⟨J,ah,h3⟩:=h3
 have ax:=(cU.1 h2).1
 have az:=(cU.1 h3).1
 refine Gn (v:= .iface 47<|.agg [.int .i64 1,.int .i64 (ln:Nat),.int .i64 er].toArray) func82 aa ntmps82 aa (fun au cs am=> .inl<|by simp [recoverD,am,jh]) ?_
 refine p (Yv CG aa)<|p mv<|p (xt aa aa)<|p (xt aa aa)<|e<|al p4 fun V aB av G Z=>e<|cW jT aa aa aa aa (Z) (by simp) fun q A Y=> ?_
 have ae:bO q.heap V [.int .i64 1,.int .i64 (ln:Nat),.int .i64 er]:=Y
 refine p aA<|nl<|tn<|sq fun ar ag=>rg aa<|p mv<|nl<|tn<|ag _ _<|ct (aa) ?_
 have I:(fun w'=>Md (fun k=>k=a∨k=i) q w') q.drew:=(Md.refl _ _).drew
 refine bI (fun w'=>Md (fun k=>k=a∨k=i) q w') aa wide I<|hp 0 aa aj (fun w' ai=>da lj aa (aa) fun j aw=>bO.bG (Md.B ai ae fun h=>by omega) j) I<|he 1 aa aj<|cw A6 aa aa (v:= .pointer none) aa (A.aH (Wk.aH G.md h2) fun h=>by omega) (by show 0 < 1; decide) fun ap C ac=> ?_
 have O:(fun w'=>Md (fun k=>k=a∨k=i) q w') ap:=I.trans' C fun _ _ h=> .inl h
 refine ⟨O,?_⟩
 refine he 2 aa aj<|gj jT aa aa aa aa (C.aH (A.aH (Wk.aH G.md h3) fun h=>by omega) fun h=>U h.symm) (by rw [ah]; decide) fun aq E M=> ?_
 have ak:(fun w'=>Md (fun k=>k=a∨k=i) q w') aq:=O.trans' E fun _ _ h=> .inr h
 refine ⟨ak,?_⟩
 refine hn aj<|f0 aa ?_
 have an:J.take 0 ++ [je .i64 1,.int .i64 (ln:Nat),.int .i64 er]++J.drop (0 +3)= [je .i64 1,.int .i64 (ln:Nat),.int .i64 er]:=by rw [gU ab]; rfl
 rw [an] at M
 exact ⟨E.aH ac U,M,(((G.md.mono fun _ _ h=>h.elim).trans' A fun k hk h=>by omega).trans' (iq C) fun _ _ h=> .inl h).trans' E fun _ _ h=> .inr h⟩
theorem Kn (a i:Nat) (w:World):(invoke (.fn (.func 82) #[aQ a,aQ i]) #[]).run ay w= .ok (.enter 82 #[aQ a,aQ i]) w:=by
 have h:=Qs #[aQ a,aQ i] w
 simp [invoke,h]
theorem xO {n:Nat} {D:List Deferred} {G:List Nat} {σ:Nat→Value} {t:Nat} (h:t < n):ev ⟨n,D,G,none⟩ σ (.tmp t)=σ t:=by
 show cond (Nat.blt t n) (σ t) undef=_
 rw [show Nat.blt t n=true from by simpa using h]; rfl
theorem WY {n:Nat} {G:List Nat} {fn:Func} {R:Value→World→Prop} {σ:Nat→Value} {w:World} {a i ln:Nat} {er:Int} (I:fn.results= #[.cell 2 60,.cell 3 47]) (O:3 < n) (J:σ 2= .pointer (some ⟨a,0,none⟩)) (M:σ 3= .pointer (some ⟨i,0,none⟩)) (h2:∃ v:Value,w.heap[a]? =some (.cells [v].toArray 60 (0,0))) (h3:∃ L:List Value,L.length=3∧w.heap[i]? =some (.cells L.toArray 47 (0,0))) (E:a≠i)
 (q:∀ w',Md (fun k=>k=a∨k=i) w w'→R (.tuple #[.pointer none,.agg [.int .i64 1,.int .i64 (ln:Nat),.int .i64 er].toArray]) w'):qb ⟨n,[{target:= .fn (.func 82) #[.pointer (some ⟨a,0,none⟩),.pointer (some ⟨i,0,none⟩)],args:= #[]}],G,none⟩ (qa ay fn R) (.panic<|jh 47 ln er) σ w:=by
 refine SX (Kn a i w) (WU a i ln er w h2 h3 E) ?_
 rintro w' ⟨A,C,hm⟩
 exact ⟨_,yL I (kK<|jN ((xO ab).trans J) gn<|(aX A).trans aa) (kK<|dN (cs:= [.int .i64 1,.int .i64 (ln:Nat),.int .i64 er]) ((xO ab).trans M) lj aa fun j _=>by rw [gV,aX C]; simp),q w' hm⟩
theorem WZ {n:Nat} {G:List Nat} {fn:Func} {R:Value→World→Prop} {σ:Nat→Value} {w:World} {a i:Nat} {v:Value} {L:List Value} (I:fn.results= #[.cell 2 60,.cell 3 47]) (O:3 < n) (J:σ 2= .pointer (some ⟨a,0,none⟩)) (M:σ 3= .pointer (some ⟨i,0,none⟩)) (h2:w.heap[a]? =some (.cells [v].toArray 60 (0,0))) (h3:w.heap[i]? =some (.cells L.toArray 47 (0,0))) (q:L.length=3)
 (A:∀ w',Wk w w'→R (.tuple #[v,.agg L.toArray]) w'):qb ⟨n,[{target:= .fn (.func 82) #[.pointer (some ⟨a,0,none⟩),.pointer (some ⟨i,0,none⟩)],args:= #[]}],G,none⟩ (qa ay fn R) .ret σ w:=by
 refine SW (Kn a i w) (WV a i w) ?_
 intro w' hm
 have C:=Wk.aH hm h2
 have E:=Wk.aH hm h3
 exact ⟨_,yL I (kK<|jN ((xO ab).trans J) gn<|(aX C).trans aa) (kK<|dN (cs:=L) ((xO ab).trans M) lj q fun j _=>by rw [gV,aX E]; simp),A w' hm⟩
end Go.Hb
section
namespace Go.Hb
open Go.Hb.nz
theorem Ud (B:Nat) (H:dm) (F:aR) (rows:List Rw) (ln:Nat) (seen:List Tx) (r:List Tx) (a:Nat) (ar:Option Addr) (cr:Nat) (w:World) (i:St w B H F rows ln seen) (q:Tg w a 9 r.length (.slice ar r.length cr) (r.map str)) (A:∀ x∈r,x.length≤70000) (hw:r.length=width (r.getD 0 [])) (G:ks F seen) (E:width (r.getD 0 [])=2→r.getD 0 []∉seen) (C:F.dd.length+F.aliases.length+F.bw.length+F.rules.length+rows.length < 70000) (hk:r.getD 0 []=ik):fD ay 128 (bf [.pointer (some ⟨H.rb,0,none⟩),.slice ar r.length cr]) w (jq B H seen (cg H.eof F seen rows ln r) w) (jo B H (cg H.eof F seen rows ln r) w):=by
 have h:=Ve B H F rows ln seen r a ar cr w i q (by rw [hw,hk]; decide) A
 rw [show cg H.eof F seen rows ln r=kH F seen rows ln r from by unfold cg; rw [hk]; rfl]
 exact h
theorem Ul (B:Nat) (H:dm) (F:aR) (rows:List Rw) (ln:Nat) (seen:List Tx) (r:List Tx) (a:Nat) (ar:Option Addr) (cr:Nat) (w:World) (i:St w B H F rows ln seen) (q:Tg w a 9 r.length (.slice ar r.length cr) (r.map str)) (A:∀ x∈r,x.length≤70000) (hw:r.length=width (r.getD 0 [])) (G:ks F seen) (E:width (r.getD 0 [])=2→r.getD 0 []∉seen) (C:F.dd.length+F.aliases.length+F.bw.length+F.rules.length+rows.length < 70000) (hk:r.getD 0 []=iH):fD ay 129 (bf [.pointer (some ⟨H.rb,0,none⟩),.slice ar r.length cr]) w (jq B H seen (cg H.eof F seen rows ln r) w) (jo B H (cg H.eof F seen rows ln r) w):=by
 have h:=QD B H F rows ln seen r a ar cr w i q (by rw [hw,hk]; decide) A
 rw [show cg H.eof F seen rows ln r=mK F rows ln r from by unfold cg; rw [hk]; rfl]
 exact h
theorem Un (B:Nat) (H:dm) (F:aR) (rows:List Rw) (ln:Nat) (seen:List Tx) (r:List Tx) (a:Nat) (ar:Option Addr) (cr:Nat) (w:World) (i:St w B H F rows ln seen) (q:Tg w a 9 r.length (.slice ar r.length cr) (r.map str)) (A:∀ x∈r,x.length≤70000) (hw:r.length=width (r.getD 0 [])) (G:ks F seen) (E:width (r.getD 0 [])=2→r.getD 0 []∉seen) (C:F.dd.length+F.aliases.length+F.bw.length+F.rules.length+rows.length < 70000) (hk:r.getD 0 []=iR):fD ay 130 (bf [.pointer (some ⟨H.rb,0,none⟩),.slice ar r.length cr]) w (jq B H seen (cg H.eof F seen rows ln r) w) (jo B H (cg H.eof F seen rows ln r) w):=by
 have h:=YR B H F rows ln seen r a ar cr w i q (by rw [hw,hk]; decide) A
 rw [show cg H.eof F seen rows ln r=mO F rows ln r from by unfold cg; rw [hk]; rfl]
 exact h
theorem Uh (B:Nat) (H:dm) (F:aR) (rows:List Rw) (ln:Nat) (seen:List Tx) (r:List Tx) (a:Nat) (ar:Option Addr) (cr:Nat) (w:World) (i:St w B H F rows ln seen) (q:Tg w a 9 r.length (.slice ar r.length cr) (r.map str)) (C:∀ x∈r,x.length≤70000) (hw:r.length=width (r.getD 0 [])) (E:ks F seen) (A:width (r.getD 0 [])=2→r.getD 0 []∉seen) (G:F.dd.length+F.aliases.length+F.bw.length+F.rules.length+rows.length < 70000) (hk:r.getD 0 []=kj):fD ay 131 (bf [.pointer (some ⟨H.rb,0,none⟩),.slice ar r.length cr]) w (jq B H seen (cg H.eof F seen rows ln r) w) (jo B H (cg H.eof F seen rows ln r) w):=by
 have h:=vH B H F rows ln seen r a ar cr w i q (by rw [hw,hk]; decide) C (by rw [hk]; decide)<|E _ (by rw [hk]; decide)<|A<|by rw [hk]; decide
 rw [show cg H.eof F seen rows ln r=ko F rows ln r from by unfold cg; rw [hk]; rfl]
 exact h
theorem Ue (B:Nat) (H:dm) (F:aR) (rows:List Rw) (ln:Nat) (seen:List Tx) (r:List Tx) (a:Nat) (ar:Option Addr) (cr:Nat) (w:World) (i:St w B H F rows ln seen) (q:Tg w a 9 r.length (.slice ar r.length cr) (r.map str)) (C:∀ x∈r,x.length≤70000) (hw:r.length=width (r.getD 0 [])) (E:ks F seen) (A:width (r.getD 0 [])=2→r.getD 0 []∉seen) (G:F.dd.length+F.aliases.length+F.bw.length+F.rules.length+rows.length < 70000) (hk:r.getD 0 []=kG):fD ay 131 (bf [.pointer (some ⟨H.rb,0,none⟩),.slice ar r.length cr]) w (jq B H seen (cg H.eof F seen rows ln r) w) (jo B H (cg H.eof F seen rows ln r) w):=by
 have h:=vH B H F rows ln seen r a ar cr w i q (by rw [hw,hk]; decide) C (by rw [hk]; decide)<|E _ (by rw [hk]; decide)<|A<|by rw [hk]; decide
 rw [show cg H.eof F seen rows ln r=ko F rows ln r from by unfold cg; rw [hk]; rfl]
 exact h
theorem Uf (B:Nat) (H:dm) (F:aR) (rows:List Rw) (ln:Nat) (seen:List Tx) (r:List Tx) (a:Nat) (ar:Option Addr) (cr:Nat) (w:World) (i:St w B H F rows ln seen) (q:Tg w a 9 r.length (.slice ar r.length cr) (r.map str)) (C:∀ x∈r,x.length≤70000) (hw:r.length=width (r.getD 0 [])) (E:ks F seen) (A:width (r.getD 0 [])=2→r.getD 0 []∉seen) (G:F.dd.length+F.aliases.length+F.bw.length+F.rules.length+rows.length < 70000) (hk:r.getD 0 []=kV):fD ay 131 (bf [.pointer (some ⟨H.rb,0,none⟩),.slice ar r.length cr]) w (jq B H seen (cg H.eof F seen rows ln r) w) (jo B H (cg H.eof F seen rows ln r) w):=by
 have h:=vH B H F rows ln seen r a ar cr w i q (by rw [hw,hk]; decide) C (by rw [hk]; decide)<|E _ (by rw [hk]; decide)<|A<|by rw [hk]; decide
 rw [show cg H.eof F seen rows ln r=ko F rows ln r from by unfold cg; rw [hk]; rfl]
 exact h
theorem Uc (B:Nat) (H:dm) (F:aR) (rows:List Rw) (ln:Nat) (seen:List Tx) (r:List Tx) (a:Nat) (ar:Option Addr) (cr:Nat) (w:World) (i:St w B H F rows ln seen) (q:Tg w a 9 r.length (.slice ar r.length cr) (r.map str)) (C:∀ x∈r,x.length≤70000) (hw:r.length=width (r.getD 0 [])) (E:ks F seen) (A:width (r.getD 0 [])=2→r.getD 0 []∉seen) (G:F.dd.length+F.aliases.length+F.bw.length+F.rules.length+rows.length < 70000) (hk:r.getD 0 []=lu):fD ay 131 (bf [.pointer (some ⟨H.rb,0,none⟩),.slice ar r.length cr]) w (jq B H seen (cg H.eof F seen rows ln r) w) (jo B H (cg H.eof F seen rows ln r) w):=by
 have h:=vH B H F rows ln seen r a ar cr w i q (by rw [hw,hk]; decide) C (by rw [hk]; decide)<|E _ (by rw [hk]; decide)<|A<|by rw [hk]; decide
 rw [show cg H.eof F seen rows ln r=ko F rows ln r from by unfold cg; rw [hk]; rfl]
 exact h
theorem Ui (B:Nat) (H:dm) (F:aR) (rows:List Rw) (ln:Nat) (seen:List Tx) (r:List Tx) (a:Nat) (ar:Option Addr) (cr:Nat) (w:World) (i:St w B H F rows ln seen) (q:Tg w a 9 r.length (.slice ar r.length cr) (r.map str)) (C:∀ x∈r,x.length≤70000) (hw:r.length=width (r.getD 0 [])) (E:ks F seen) (A:width (r.getD 0 [])=2→r.getD 0 []∉seen) (G:F.dd.length+F.aliases.length+F.bw.length+F.rules.length+rows.length < 70000) (hk:r.getD 0 []=lP):fD ay 131 (bf [.pointer (some ⟨H.rb,0,none⟩),.slice ar r.length cr]) w (jq B H seen (cg H.eof F seen rows ln r) w) (jo B H (cg H.eof F seen rows ln r) w):=by
 have h:=vH B H F rows ln seen r a ar cr w i q (by rw [hw,hk]; decide) C (by rw [hk]; decide)<|E _ (by rw [hk]; decide)<|A<|by rw [hk]; decide
 rw [show cg H.eof F seen rows ln r=ko F rows ln r from by unfold cg; rw [hk]; rfl]
 exact h
theorem Ug (B:Nat) (H:dm) (F:aR) (rows:List Rw) (ln:Nat) (seen:List Tx) (r:List Tx) (a:Nat) (ar:Option Addr) (cr:Nat) (w:World) (i:St w B H F rows ln seen) (q:Tg w a 9 r.length (.slice ar r.length cr) (r.map str)) (A:∀ x∈r,x.length≤70000) (hw:r.length=width (r.getD 0 [])) (G:ks F seen) (E:width (r.getD 0 [])=2→r.getD 0 []∉seen) (C:F.dd.length+F.aliases.length+F.bw.length+F.rules.length+rows.length < 70000) (hk:r.getD 0 []=ki):fD ay 132 (bf [.pointer (some ⟨H.rb,0,none⟩),.slice ar r.length cr]) w (jq B H seen (cg H.eof F seen rows ln r) w) (jo B H (cg H.eof F seen rows ln r) w):=by
 have h:=Vi B H F rows ln seen r a ar cr w i q (by rw [hw,hk]; decide) A
 rw [show cg H.eof F seen rows ln r=kX F rows ln r from by unfold cg; rw [hk]; rfl]
 exact h
theorem Uk (B:Nat) (H:dm) (F:aR) (rows:List Rw) (ln:Nat) (seen:List Tx) (r:List Tx) (a:Nat) (ar:Option Addr) (cr:Nat) (w:World) (i:St w B H F rows ln seen) (q:Tg w a 9 r.length (.slice ar r.length cr) (r.map str)) (A:∀ x∈r,x.length≤70000) (hw:r.length=width (r.getD 0 [])) (G:ks F seen) (E:width (r.getD 0 [])=2→r.getD 0 []∉seen) (C:F.dd.length+F.aliases.length+F.bw.length+F.rules.length+rows.length < 70000) (hk:r.getD 0 []=ff):fD ay 133 (bf [.pointer (some ⟨H.rb,0,none⟩),.slice ar r.length cr]) w (jq B H seen (cg H.eof F seen rows ln r) w) (jo B H (cg H.eof F seen rows ln r) w):=by
 have h:=W8 B H F rows ln seen r a ar cr w i q (by rw [hw,hk]; decide) A
 rw [show cg H.eof F seen rows ln r=kn H.eof F rows ln r from by unfold cg; rw [hk]; rfl]
 exact h
theorem Ub (B:Nat) (H:dm) (F:aR) (rows:List Rw) (ln:Nat) (seen:List Tx) (r:List Tx) (a:Nat) (ar:Option Addr) (cr:Nat) (w:World) (i:St w B H F rows ln seen) (q:Tg w a 9 r.length (.slice ar r.length cr) (r.map str)) (A:∀ x∈r,x.length≤70000) (hw:r.length=width (r.getD 0 [])) (G:ks F seen) (E:width (r.getD 0 [])=2→r.getD 0 []∉seen) (C:F.dd.length+F.aliases.length+F.bw.length+F.rules.length+rows.length < 70000) (hk:r.getD 0 []=eI):fD ay 134 (bf [.pointer (some ⟨H.rb,0,none⟩),.slice ar r.length cr]) w (jq B H seen (cg H.eof F seen rows ln r) w) (jo B H (cg H.eof F seen rows ln r) w):=by
 have h:=N6 B H F rows ln seen r a ar cr w i q (by rw [hw,hk]; decide) A
 rw [show cg H.eof F seen rows ln r=jS H.eof F seen rows ln r from by unfold cg; rw [hk]; rfl]
 exact h
theorem Uj (B:Nat) (H:dm) (F:aR) (rows:List Rw) (ln:Nat) (seen:List Tx) (r:List Tx) (a:Nat) (ar:Option Addr) (cr:Nat) (w:World) (i:St w B H F rows ln seen) (q:Tg w a 9 r.length (.slice ar r.length cr) (r.map str)) (C:∀ x∈r,x.length≤70000) (hw:r.length=width (r.getD 0 [])) (G:ks F seen) (E:width (r.getD 0 [])=2→r.getD 0 []∉seen) (A:F.dd.length+F.aliases.length+F.bw.length+F.rules.length+rows.length < 70000) (hk:r.getD 0 []=fH):fD ay 135 (bf [.pointer (some ⟨H.rb,0,none⟩),.slice ar r.length cr]) w (jq B H seen (cg H.eof F seen rows ln r) w) (jo B H (cg H.eof F seen rows ln r) w):=by
 have h:=Gs B H F rows ln seen r a ar cr w i q (by rw [hw,hk]; decide) C A
 rw [show cg H.eof F seen rows ln r=gM H.eof F rows ln r from by unfold cg; rw [hk]; rfl]
 exact h
theorem Um (B:Nat) (H:dm) (F:aR) (rows:List Rw) (ln:Nat) (seen:List Tx) (r:List Tx) (a:Nat) (ar:Option Addr) (cr:Nat) (w:World) (i:St w B H F rows ln seen) (q:Tg w a 9 r.length (.slice ar r.length cr) (r.map str)) (C:∀ x∈r,x.length≤70000) (hw:r.length=width (r.getD 0 [])) (G:ks F seen) (E:width (r.getD 0 [])=2→r.getD 0 []∉seen) (A:F.dd.length+F.aliases.length+F.bw.length+F.rules.length+rows.length < 70000) (hk:r.getD 0 []=di):fD ay 135 (bf [.pointer (some ⟨H.rb,0,none⟩),.slice ar r.length cr]) w (jq B H seen (cg H.eof F seen rows ln r) w) (jo B H (cg H.eof F seen rows ln r) w):=by
 have h:=Gs B H F rows ln seen r a ar cr w i q (by rw [hw,hk]; decide) C A
 rw [show cg H.eof F seen rows ln r=gM H.eof F rows ln r from by unfold cg; rw [hk]; rfl]
 exact h
theorem IU (B:Nat) (H:dm) (F:aR) (rows:List Rw) (ln:Nat) (seen:List Tx) (r:List Tx) (i:Nat) (ar:Option Addr) (cr:Nat) (w:World) (q:St w B H F rows ln seen) (A:Tg w i 9 r.length (.slice ar r.length cr) (r.map str)) (G:∀ x∈r,x.length≤70000) (hw:r.length=width (r.getD 0 [])) (I:ks F seen) (E:width (r.getD 0 [])=2→r.getD 0 []∉seen) (C:F.dd.length+F.aliases.length+F.bw.length+F.rules.length+rows.length < 70000) {v:Value} (a:iG (r.getD 0 [])=some v):∃ f:Nat,v= .agg [.int .i64 (width (r.getD 0 []):Nat),.func (.func f) #[] #[]].toArray∧bl ay f∧fD ay f (bf [.pointer (some ⟨H.rb,0,none⟩),.slice ar r.length cr]) w (jq B H seen (cg H.eof F seen rows ln r) w) (jo B H (cg H.eof F seen rows ln r) w):=by
 unfold iG at a
 by_cases hk:r.getD 0 []=di
 · rw [if_pos hk] at a; cases a; exact ⟨_,by rw [hk]; rfl,FB,Um B H F rows ln seen r i ar cr w q A G hw I E C hk⟩
 · rw [if_neg hk] at a; clear hk
   by_cases hk:r.getD 0 []=fH
   · rw [if_pos hk] at a; cases a; exact ⟨_,by rw [hk]; rfl,FB,Uj B H F rows ln seen r i ar cr w q A G hw I E C hk⟩
   · rw [if_neg hk] at a; clear hk
     by_cases hk:r.getD 0 []=eI
     · rw [if_pos hk] at a; cases a; exact ⟨_,by rw [hk]; rfl,O0,Ub B H F rows ln seen r i ar cr w q A G hw I E C hk⟩
     · rw [if_neg hk] at a; clear hk
       by_cases hk:r.getD 0 []=ff
       · rw [if_pos hk] at a; cases a; exact ⟨_,by rw [hk]; rfl,OZ,Uk B H F rows ln seen r i ar cr w q A G hw I E C hk⟩
       · rw [if_neg hk] at a; clear hk
         by_cases hk:r.getD 0 []=ki
         · rw [if_pos hk] at a; cases a; exact ⟨_,by rw [hk]; rfl,OY,Ug B H F rows ln seen r i ar cr w q A G hw I E C hk⟩
         · rw [if_neg hk] at a; clear hk
           by_cases hk:r.getD 0 []=lP
           · rw [if_pos hk] at a; cases a; exact ⟨_,by rw [hk]; rfl,uB,Ui B H F rows ln seen r i ar cr w q A G hw I E C hk⟩
           · rw [if_neg hk] at a; clear hk
             by_cases hk:r.getD 0 []=lu
             · rw [if_pos hk] at a; cases a; exact ⟨_,by rw [hk]; rfl,uB,Uc B H F rows ln seen r i ar cr w q A G hw I E C hk⟩
             · rw [if_neg hk] at a; clear hk
               by_cases hk:r.getD 0 []=kV
               · rw [if_pos hk] at a; cases a; exact ⟨_,by rw [hk]; rfl,uB,Uf B H F rows ln seen r i ar cr w q A G hw I E C hk⟩
               · rw [if_neg hk] at a; clear hk
                 by_cases hk:r.getD 0 []=kG
                 · rw [if_pos hk] at a; cases a; exact ⟨_,by rw [hk]; rfl,uB,Ue B H F rows ln seen r i ar cr w q A G hw I E C hk⟩
                 · rw [if_neg hk] at a; clear hk
                   by_cases hk:r.getD 0 []=kj
                   · rw [if_pos hk] at a; cases a; exact ⟨_,by rw [hk]; rfl,uB,Uh B H F rows ln seen r i ar cr w q A G hw I E C hk⟩
                   · rw [if_neg hk] at a; clear hk
                     by_cases hk:r.getD 0 []=iR
                     · rw [if_pos hk] at a; cases a; exact ⟨_,by rw [hk]; rfl,OX,Un B H F rows ln seen r i ar cr w q A G hw I E C hk⟩
                     · rw [if_neg hk] at a; clear hk
                       by_cases hk:r.getD 0 []=iH
                       · rw [if_pos hk] at a; cases a; exact ⟨_,by rw [hk]; rfl,OV,Ul B H F rows ln seen r i ar cr w q A G hw I E C hk⟩
                       · rw [if_neg hk] at a; clear hk
                         by_cases hk:r.getD 0 []=ik
                         · rw [if_pos hk] at a; cases a; exact ⟨_,by rw [hk]; rfl,OU,Ud B H F rows ln seen r i ar cr w q A G hw I E C hk⟩
                         · rw [if_neg hk] at a; clear hk
                           cases a
theorem IQ {s:Tx} (a:iG s=none):width s=0:=by
 unfold iG at a
 by_cases V:s=di
 · rw [if_pos V] at a; cases a
 · rw [if_neg V] at a
   by_cases M:s=fH
   · rw [if_pos M] at a; cases a
   · rw [if_neg M] at a
     by_cases i:s=eI
     · rw [if_pos i] at a; cases a
     · rw [if_neg i] at a
       by_cases O:s=ff
       · rw [if_pos O] at a; cases a
       · rw [if_neg O] at a
         by_cases G:s=ki
         · rw [if_pos G] at a; cases a
         · rw [if_neg G] at a
           by_cases J:s=lP
           · rw [if_pos J] at a; cases a
           · rw [if_neg J] at a
             by_cases q:s=lu
             · rw [if_pos q] at a; cases a
             · rw [if_neg q] at a
               by_cases E:s=kV
               · rw [if_pos E] at a; cases a
               · rw [if_neg E] at a
                 by_cases C:s=kG
                 · rw [if_pos C] at a; cases a
                 · rw [if_neg C] at a
                   by_cases I:s=kj
                   · rw [if_pos I] at a; cases a
                   · rw [if_neg I] at a
                     by_cases Y:s=iR
                     · rw [if_pos Y] at a; cases a
                     · rw [if_neg Y] at a
                       by_cases U:s=iH
                       · rw [if_pos U] at a; cases a
                       · rw [if_neg U] at a
                         by_cases A:s=ik
                         · rw [if_pos A] at a; cases a
                         · rw [if_neg A] at a
                           unfold width ea; simp [A,U,Y,I,C,E,q,J,G,O,i,M,V]
theorem Cl (s:Tx):iG s=none∨∃ (wd f:Nat),iG s=some (bM #[.int .i64 (wd:Nat),.func (.func f) #[] #[]])∧width s=wd∧wd≠0:=by
 by_cases a:s=di
 · exact .inr ⟨4,135,by unfold iG; rw [if_pos a],by rw [a]; decide,az⟩
 by_cases i:s=fH
 · exact .inr ⟨4,135,by unfold iG; rw [if_neg a,if_pos i],by rw [i]; decide,az⟩
 by_cases q:s=eI
 · exact .inr ⟨2,134,by unfold iG; rw [if_neg a,if_neg i,if_pos q],by rw [q]; decide,az⟩
 by_cases A:s=ff
 · exact .inr ⟨2,133,by unfold iG; rw [if_neg a,if_neg i,if_neg q,if_pos A],by rw [A]; decide,az⟩
 by_cases C:s=ki
 · exact .inr ⟨2,132,by unfold iG; rw [if_neg a,if_neg i,if_neg q,if_neg A,if_pos C],by rw [C]; decide,az⟩
 by_cases E:s=lP
 · exact .inr ⟨2,131,by unfold iG; rw [if_neg a,if_neg i,if_neg q,if_neg A,if_neg C,if_pos E],by rw [E]; decide,az⟩
 by_cases G:s=lu
 · exact .inr ⟨2,131,by unfold iG; rw [if_neg a,if_neg i,if_neg q,if_neg A,if_neg C,if_neg E,if_pos G],by rw [G]; decide,az⟩
 by_cases I:s=kV
 · exact .inr ⟨2,131,by unfold iG; rw [if_neg a,if_neg i,if_neg q,if_neg A,if_neg C,if_neg E,if_neg G,if_pos I],by rw [I]; decide,az⟩
 by_cases J:s=kG
 · exact .inr ⟨2,131,by unfold iG; rw [if_neg a,if_neg i,if_neg q,if_neg A,if_neg C,if_neg E,if_neg G,if_neg I,if_pos J],by rw [J]; decide,az⟩
 by_cases M:s=kj
 · exact .inr ⟨2,131,by unfold iG; rw [if_neg a,if_neg i,if_neg q,if_neg A,if_neg C,if_neg E,if_neg G,if_neg I,if_neg J,if_pos M],by rw [M]; decide,az⟩
 by_cases O:s=iR
 · exact .inr ⟨2,130,by unfold iG; rw [if_neg a,if_neg i,if_neg q,if_neg A,if_neg C,if_neg E,if_neg G,if_neg I,if_neg J,if_neg M,if_pos O],by rw [O]; decide,az⟩
 by_cases U:s=iH
 · exact .inr ⟨2,129,by unfold iG; rw [if_neg a,if_neg i,if_neg q,if_neg A,if_neg C,if_neg E,if_neg G,if_neg I,if_neg J,if_neg M,if_neg O,if_pos U],by rw [U]; decide,az⟩
 by_cases V:s=ik
 · exact .inr ⟨2,128,by unfold iG; rw [if_neg a,if_neg i,if_neg q,if_neg A,if_neg C,if_neg E,if_neg G,if_neg I,if_neg J,if_neg M,if_neg O,if_neg U,if_pos V],by rw [V]; decide,az⟩
 refine .inl ?_
 unfold iG
 rw [if_neg a,if_neg i,if_neg q,if_neg A,if_neg C,if_neg E,if_neg G,if_neg I,if_neg J,if_neg M,if_neg O,if_neg U,if_neg V]
end Go.Hb
end
namespace Go.Hb.wT
theorem TL {α:Type} {l:List α} {i:Nat} {d:α} (h:i < l.length):l.getD i d∈l:=by
 rw [cR,cC h]; exact List.getElem_mem h
def jX (n:Nat) (a:List (List UInt8)):List (Nat×List UInt8):=(a.zipIdx n).map fun q=>(q.2,q.1)
theorem Wa (n:Nat) (l:List UInt8) (a:List (List UInt8)):jX n (l::a)=(n,l)::jX (n+1) a:=by simp [jX,List.zipIdx_cons]
theorem Wb (n:Nat):jX n []= []:=rfl
theorem CL (n:Nat) (a:List (List UInt8)):(jX n a).map ny=a:=by
 unfold jX; rw [List.map_map]; exact List.zipIdx_map_fst n a
theorem JR (n:Nat) (a:List (List UInt8)):(jX n a).length=a.length:=by simp [jX]
def xI (x:Nat×List UInt8):Array Value:= #[.int .i64 x.1,str x.2]
theorem CK {a:List (List UInt8)} {n:Nat} {pre:List (Nat×List UInt8)} {x:Nat×List UInt8} {rest:List (Nat×List UInt8)} (h:jX n a=pre++x::rest):pre.length < a.length∧x.1=n+pre.length∧a=pre.map ny++x.2::rest.map ny:=by
 have h1:=congrArg jz h
 rw [JR,bL,cO] at h1
 have h2:=congrArg (List.map ny) h
 rw [CL,iu,List.map_cons] at h2
 refine ⟨ab,?_,h2⟩
 have h3:=congrArg (fun l=>l[pre.length]?) h
 simp only [jX,ir,List.getElem?_zipIdx,mS (cA _),Nat.sub_self,ud] at h3
 cases h4:a[pre.length]? with
 | none=>rw [h4] at h3; cases h3
 | some q=>rw [h4] at h3; cases h3; rfl
theorem xH (s:List UInt8) (w:World):
 bm ay 126 (bf [str s]) w (fun v w'=> ∃ b,v= .func (.func 189) #[] #[aQ b]∧w.heap.size≤b∧w'.heap[b]? =some (.cells [str s].toArray 9 (0,0))∧Wk w w'):=by
 exact enter func126 aa ntmps126 aa<|ag fun a=>e<|rv aa aa fun q G E C A=>aw<|a<|ag fun i=>p CF<|aw<|i<|rt<|aV aa<|⟨q,aa,ab,A,C.md⟩
theorem Bg (s:List UInt8) (b:Nat) (hs:s.length≤65536) (l:Nat) (a:List (Nat×List UInt8)→World→Prop) (w:World) (J:a [] w) (aD:∀ pre W,a pre W→W.heap[b]? =some (.cells [str s].toArray 9 (0,0))) (bI:∀ pre i G,a pre i→Wk i G→a pre G) (aJ:∀ pre x rest i,(jX 1<|bH s)=pre++x::rest→a pre i→YieldAt Fence.wide 0 ay l (xI x) i fun e W'=>e= .returned (.bool true)∧a (pre++ [x]) W'):
 bm ay 189 (bf [.func (.yield l) #[] #[],aQ b]) w (fun v w'=>a (jX 1<|bH s) w'):=by
 have O:=aD _ _ J
 refine enter func189 aa ntmps189 aa<|aB fun V=>ag fun Z=>p (ld bT aa<|(aX O).trans aa)<|p (cz u9 aa aa)<|p (gt aa aa)<|nl<|Z<|cd aa (fun h=>absurd h ab) fun aL=> ?_
 refine aM<|V<|ag fun ac=>p (ld bT aa<|(aX O).trans aa)<|e<|cl Gl (Lz s qG _ ab az) aa fun v12 aU ar=> ?_
 obtain ⟨rfl,an⟩:=ar
 refine aw<|ac<|ag fun ae=>aw<|ae<|aH<|lp (fun I A E=> ∃ (r:List UInt8) (pre:List (Nat×List UInt8)),(r.length≤s.length)∧((jX 1<|bH s)=pre++jX (pre.length+1) (gh [] r))∧(a pre E)∧(pre.length≤s.length)∧(A 0= .func (.yield l) #[] #[])∧(A 3=str r)∧(A 4=au (pre.length+1))∧(r.length=I)) _ ⟨k0 s,[],(zd s),aa,(bI _ _ _ J an),(Nat.zero_le _),aa,aa,(iv<|by first | rfl | (rw [bL]; rfl)),aa⟩ ?_
 rintro I A E ⟨r,pre,aP,U,M,aN,aF,aG,aI,rfl⟩
 refine fx 0 aF<|fx 3 aG<|fx 4 aI<|aB fun ah=>ag fun ai=>ak (str r)<|p (oO aa aa)<|nl<|ai<|cd aa (fun q=> ?_) fun q=> ?_
 have C:(jX 1<|bH s)=pre++(pre.length+1,jJ (my 10 r))::jX (pre.length+2) (gh []<|nJ 10 r):=by rw [U,Vw q,Wa]
 have aO:=RG (c:=10) q
 have aK:=RC 10 r
 refine aM<|ah<|aB fun aj=>aH<|ag fun al=>ak (str r)<|e<|cl Pj (RH r 10 _ ab) aa fun aR aV av=> ?_
 obtain ⟨rfl,ao⟩:=av
 refine p mv<|p (xt aa aa)<|p (xt aa aa)<|p (xt aa aa)<|p aA<|p aA<|p aA<|nl<|al<|ag fun am=>p mv<|aw<|am<|aB fun Y=> ?_
 refine Xg ?_
 refine py aa (aT (.func (.yield l) #[] #[]) aa)<|py aa (aT (au<|pre.length+1) aa)<|py aa mv<|ey aa<|cl Gk (YQ (my 10 r) _ ab) aa fun aS aW ax=> ?_
 obtain ⟨rfl,ap⟩:=ax
 have aq:=bI _ _ _ M<|Md.trans ao ap
 refine Zt aa aa (aJ pre (pre.length+1,jJ (my 10 r)) _ _ C aq) fun aY aC=> ?_
 refine py aa (no aa)<|V1 ?_
 refine Y<|cf (aa)<|aM<|bn<|aj<|rg aa<|ak (au<|pre.length+1)<|p (bE ((pre.length+2:Nat):Int) aa aa<|bj ab ab) ?_
 exact p aA<|nl<|tn<|⟨_,ab,nJ 10 r,pre++ [(pre.length+1,jJ (my 10 r))],ab,(by rw [C,dD,bL]; rfl),aC,(by have h1:=CK C; have h2:=nT s; rw [bL,fA]; omega),aa,aa,(iv<|by first | rfl | (rw [bL]; rfl)),aa⟩
 refine ext<|ba<|ba<|be<|f0 aa ?_
 show a (jX 1<|bH s) E
 have aE:r= []:=Decidable.of_not_not q
 rw [U,aE,CC,Wb,eh]
 exact M
theorem xG (s:List UInt8) (b:Nat) (hs:s.length≤65536):EE ay 189 #[.pointer (some ⟨b,0,none⟩)] xI (jX 1<|bH s) (fun W=>W.heap[b]? =some (.cells [str s].toArray 9 (0,0))):=
 fun l a W i q bI C=>Calls.mono (Bg s b hs l a W i q bI C) fun e w' ⟨v,he,A⟩=>⟨⟨v,he⟩,A⟩
theorem Le (s:List UInt8) (w:World) (hs:s.length≤1048576):
 bm ay 81 (bf [str s]) w (fun v w'=>(∃ a,v= .tuple #[a,.int .i64 (if 65536 < s.length then 10 else 0)]∧(if 65536 < s.length then a= .slice none 0 0 else bq w' w.heap.size 9 1 (a) (bH s).length ((bH s).map str)))∧Wk w w'):=by
 refine uI [] func81 aa ntmps81 aa ?_
 refine et<|eW<|rg aa<|p aA<|p aA<|nl<|eo<|et<|et<|eW<|rg aa<|p (aT (str s) aa)<|p (cz u9 aa aa)<|p (gt aa aa)<|nl<|eo<|eW<|cd aa (fun aF=> ?_) fun aF=> ?_
 refine sq fun aO ax=>rg aa<|p aA<|p aA<|nl<|tn<|ax _ _<|rt<|prt<|Hq aa aa aa ?_
 have G:65536 < s.length:=ab
 exact ⟨⟨.slice none 0 0,by show gz #[.slice none 0 0,.int .i64 10]=_; rw [if_pos G],by rw [if_pos G]⟩,Md.refl _ _⟩
 refine aM<|eo<|et<|eW<|rg aa<|e<|fk ZC fun al aL aU aB an=>nl<|eo<|et<|et<|eW<|rg aa<|p (aT (str s) aa)<|e<|cl FA (xH s _) aa fun v11 ak aC=> ?_
 obtain ⟨Y,rfl,aR,am,ao⟩:=aC
 have I:Wk w ak:=Md.trans aB.md ao
 have aD:=ao.aH an
 have aS:=(cU.1 am).1
 have a1:al < aL.heap.size:=(cU.1 an).1
 have G:s.length≤65536:=ab
 refine nl<|eo ?_
 apply KA (xI) (jX 1<|bH s) (fun W=>W.heap[Y]? =some (.cells [str s].toArray 9 (0,0))) (fun pre E=> ∃ v,E.heap[al]? =some (.cells [v].toArray 87 (0,0))∧bq E ak.heap.size 9 1 v pre.length ((pre.map ny).map str)∧E.heap[Y]? =some (.cells [str s].toArray 9 (0,0))∧ak.heap.size≤E.heap.size∧Wk w E) rfl FM (fun _=>rfl) (xG s Y G) (⟨.slice none 0 0,aD,dz _ _ _ _,am,cA _,I⟩) (fun _ _ ⟨_,_,_,h,_⟩=>h) (fun pre A C F ⟨v,h1,h2,h3,h5,h4⟩ hm U=>⟨v,y0 h1 hm U,Lk h2 hm U,y0 h3 hm U,gk h5 hm.size,Ll h4 hm I.size U⟩)
 intro l x E K J
 exact rg aa<|p (cJ (str x.2) aa)<|nl<|tn<|J
 intro l pre x rest E aG ac
 obtain ⟨v,V,q,ah,aj,Z⟩:=ac
 obtain ⟨a0,a3,a4⟩:=CK aG
 have aY:=nT s
 have a2:=(cU.1 ah).1
 refine aH<|rg aa<|p (ld jR aa<|(aX V).trans aa)<|p mv<|e<|fZ fQ aa aa fun aP aK ae i aq=> ?_
 have au:Wk w aK:=Md.trans Z i.md
 have ae:=i.md.aH V
 refine e<|ap fQ (aW q i.md) aa (gk aj i.md.size) aa (aJ.dX aq) (aa) (aa) ab ab fun aI a6 ai M a5 aV=> ?_
 have av:=Wk.own au (aW q i.md) M I.size
 have aE:=M.aH (i.md.aH ah) fun h=>by have :=dM (aW q i.md) h; omega
 have ag:=M.aH ae fun h=>dC (aW q i.md) ae az h
 refine e<|cw GX aa aa (eU ai) ag (by simp) fun aN O ar=> ?_
 have aw:Wk w aN:=Md.trans' av O fun k hk h=>by omega
 exact nl<|bn<|⟨(fO.wk i.md).trans ((fO.md M<|pQ<|aW q i.md).trans<|fO.md O fun k hk=>⟨_,_,_,hk ▸ ag⟩),aI,ar,dq (by rw [iu,iu,bL]; exact ai) O (fun k hk h=>dC ai ag az<|h ▸ hk),O.aH aE (fun h=>by omega),gk aj (gk i.md.size<|gk M.size O.size),aw⟩
 intro D E aQ ac J
 obtain ⟨v,V,q,ah,aj,Z⟩:=ac
 have aZ:=(cU.1 J).1
 refine eo<|et<|eW<|rg aa<|p (ld jR aa<|(aX V).trans aa)<|p aA<|p aA<|nl<|eo<|rT<|Hr aa aa aa J ?_
 have G:¬65536 < s.length:=ab
 rw [CL,JR] at q
 exact ⟨⟨v,by show gz #[v,.int .i64 0]=_; rw [if_neg G],by rw [if_neg G]; exact ez (dq q (lz _ _ _) fun k hk h=>by obtain ⟨c,e,z,h1⟩:=pQ q k hk; rw [h,J] at h1; cases h1) I.size⟩,Md.trans' Z (lz _ _ _) fun k hk h=>by have :=I.size; omega⟩
end Go.Hb.wT
section
namespace Go.Hb
open Go.Hb.wT
set_option maxHeartbeats 1000000 in
theorem KB (s:List UInt8) (w:World) (hs:s.length≤1048576):
 bm ay 80 (bf [str s]) w (fun v w'=>(∃ a,v= .tuple #[a,.int .i64 (if 65536 < s.length then 10 else 0)]∧(if 65536 < s.length then a= .slice none 0 0 else ∃ vs,bq w' w.heap.size 209 2 a (bP s).length (kL vs)∧gZ w' w.heap.size 9 vs (bP s)))∧Wk w w'):=by
 refine uI [] func80 aa ntmps80 aa ?_
 refine et<|eW<|rg aa<|p aA<|p aA<|nl<|eo<|et<|et<|eW<|rg aa<|p (aT (str s) aa)<|p (cz u9 aa aa)<|p (gt aa aa)<|nl<|eo<|eW<|cd aa (fun bx=> ?_) fun bx=> ?_
 refine sq fun aN ah=>rg aa<|p aA<|p aA<|nl<|tn<|ah _ _<|rt<|prt<|Hq aa aa aa ?_
 have U:65536 < s.length:=ab
 exact ⟨⟨.slice none 0 0,by show gz #[.slice none 0 0,.int .i64 10]=_; rw [if_pos U],by rw [if_pos U]⟩,Md.refl _ _⟩
 refine aM<|eo<|et<|eW<|rg aa<|e<|fk Zw fun am b4 ch bs aQ=>nl<|eo<|et<|et<|eW<|rg aa<|p (aT (str s) aa)<|e<|cl FA (xH s _) aa fun ct ar bt=> ?_
 obtain ⟨aw,rfl,cf,aP,aS⟩:=bt
 have Z:Wk w ar:=Md.trans bs.md aS
 have co:am < b4.heap.size:=(cU.1 aQ).1
 have bv:=aS.aH aQ
 have cg:=(cU.1 aP).1
 have U:s.length≤65536:=ab
 refine nl<|eo ?_
 apply KA (xI) (jX 1<|bH s) (fun W=>W.heap[aw]? =some (.cells [str s].toArray 9 (0,0))) (fun pre J=> ∃ v vs,J.heap[am]? =some (.cells [v].toArray 187 (0,0))∧bq J ar.heap.size 209 2 v (lC 1<|pre.map ny).length (kL vs)∧gZ J ar.heap.size 9 vs (lC 1<|pre.map ny)∧J.heap[aw]? =some (.cells [str s].toArray 9 (0,0))∧ar.heap.size≤J.heap.size∧Wk w J) rfl FM (fun _=>rfl) (xG s aw U) (⟨.slice none 0 0,[],bv,dz _ _ _ _,gZ.nil _ _ _,aP,cA _,Z⟩) (fun _ _ ⟨_,_,_,_,_,h,_⟩=>h) (fun pre A C F ⟨v,vs,h1,h2,a9,h3,h5,h4⟩ hm ag=>⟨v,vs,y0 h1 hm ag,Lk h2 hm ag,a9.md hm (fun k hk cur z=>(ag k hk).2 cur _ z),y0 h3 hm ag,gk h5 hm.size,Ll h4 hm Z.size ag⟩)
 intro l x J K ac
 exact sq fun aN ah=>rg aa<|p (cJ (.int .i64 x.1) aa)<|nl<|tn<|ah _ _<|rg aa<|p (cJ (str x.2) aa)<|nl<|tn<|ac
 intro l pre x rest J b0 aC
 obtain ⟨v,vs,aI,ak,ao,aG,aq,aB⟩:=aC
 obtain ⟨cn,b1,b2⟩:=CK b0
 have ck:=nT s
 have cq:=(cU.1 aG).1
 have cr:x.2.length≤s.length:=Cz<|by rw [b2]; simp
 have cj:=uN x.2 []
 have bF:=Dg (pre.map ny) 1
 rw [fM] at bF
 refine aH<|sq fun aN ah=>rg aa<|p mv<|e<|cl OT (SY x.2 _ ab) aa fun cu a2 bu=> ?_
 obtain ⟨aj,bd⟩:=bu
 obtain ⟨E,an,rfl⟩:=cB aj
 have aU:=(a7 aj).2
 have bz:=(a7 aj).1
 refine p aA<|nl<|tn<|ah _ _ ?_
 refine ed (fun av au=> ∃ (n cp:Nat),(n≤(cE [] x.2).length)∧(n≤cp)∧(nS (cE [] x.2)=(cE [] x.2).take n)∧(Wk a2 au)∧(av 4= .pointer (some ⟨am,0,none⟩))∧(av 5= .int .i64 x.1)∧(av 7= .slice E n cp)) ?_ ?_
 refine sq fun a5 aD=>rg aa<|p mv<|p (bK eV aa aa)<|p mv<|nl<|tn<|aD _ _<|aH<|lp (fun aO Y a4=> ∃ (i:Nat),(i≤(cE [] x.2).length)∧(∀ q,q < i→vz ((cE [] x.2).getD q [])=false)∧(Wk a2 a4)∧(Y 4= .pointer (some ⟨am,0,none⟩))∧(Y 5= .int .i64 x.1)∧(Y 7= .slice E (cE [] x.2).length an)∧(Y 19= .slice E (cE [] x.2).length an)∧(Y 20= .int .i64 (cE [] x.2).length)∧(Y 21= .int .i64 i)∧((cE [] x.2).length - i=aO)) _ ⟨0,ab,(fun q bE=>by omega),(Md.refl _ _),aa,aa,aa,aa,aa,aa,aa⟩ ?_
 rintro aO Y a4 ⟨i,hi,aL,ae,bW,bY,bZ,bR,bU,bV,rfl⟩
 refine fx 4 bW<|fx 5 bY<|fx 7 bZ<|fx 19 bR<|fx 20 bU<|fx 21 bV<|sq fun b6 bj=>rg aa<|p (lt aa aa)<|nl<|tn<|bj _ _<|sq fun b7 bk=>cd aa (fun bA=> ?_) fun bA=> ?_
 refine aM<|tn<|bk _ _<|sq fun b8 bl=>aH<|sq fun b9 bo=>rg aa<|p (aT (.int .i64 i) aa)<|p (a8 cH aa aa ab<|aJ.ok (aU.wk ae)<|bS ab)<|p (ld bT aa<|ca.get (i:=i) (aU.wk ae) ab)<|p (cJ (.int .i64 i) aa)<|p aA<|nl<|tn<|bo _ _<|sq fun cb bp=>rg aa<|p mv<|p (iY 0 u9 aa aa<|lG.2 (BD _ _ _<|TL ab).1)<|p (bJ aa aa)<|nl<|tn<|bp _ _<|cd aa (fun bB=> ?_) fun bB=> ?_
 exact sq fun cc br=>rg aa<|p (aT (.slice E (cE [] x.2).length an) aa)<|p (aT (.int .i64 i) aa)<|p (aT (.int .i64 i) aa)<|p (QP cH aa aa aa ab)<|p aA<|nl<|tn<|br _ _<|ext<|nE az<|te _<|te _<|be<|tn<|⟨i,i,hi,(cA _),(yr hi aL<|.inr<|decide_eq_true ab),ae,aa,aa,aa⟩
 exact aM<|bn<|tn<|bl _ _<|rg aa<|p (ad aa aa<|bX ab)<|p mv<|nl<|tn<|⟨_,ab,i+1,ab,(fun q bE=>by rcases fi q i with h | h <;> first | exact aL q h | (rw [show q=i by omega]; exact decide_eq_false ab)),ae,aa,aa,aa,aa,aa,aa,aa⟩
 exact ext<|te _<|te _<|be<|tn<|⟨(cE [] x.2).length,an,(cA _),bz,(by have h:=yr hi aL (.inl ab); rwa [show i=(cE [] x.2).length from by omega] at h),ae,aa,aa,aa⟩
 rintro av au ⟨n,cp,hn,bD,aY,ax,bM,bN,bQ⟩
 refine fx 4 bM<|fx 5 bN<|fx 7 bQ ?_
 have G:Wk J au:=Md.trans bd ax
 have aF:=G.aH aI
 have a0:=aW ak G
 have a1:=ao.wk G
 have aV:=G.aH aG
 have aR:Wk w au:=Md.trans aB G
 refine sq fun a5 aD=>rg aa<|p (aT (.slice E n cp) aa)<|p (bK eV aa aa)<|p (gt aa aa)<|nl<|tn<|aD _ _<|cd aa (fun bC=> ?_) fun bC=> ?_
 have al:lx x.2 (1 +pre.length)= [(x.1,(cE [] x.2).take n)]:=by unfold lx; rw [aY,if_neg (fun h=>by have h:=congrArg jz h; rw [dR,gC] at h; omega),← b1]
 refine rg aa<|p (ld sA aa<|(aX aF).trans aa)<|p (aT (.int .i64 x.1) aa)<|p (aT (.slice E n cp) aa)<|p (cQ (ps:= [(0,.int .i64 x.1),(1,.slice E n cp)]) (L:= [.int .i64 x.1,.slice E n cp]) Yk aa<|aa)<|e<|kQ KX aa aa aa fun a6 a3 aE I ba=> ?_
 have bb:bO a3.heap a6 [.int .i64 x.1,.slice E n cp]:=ba
 have bg:Wk w a3:=Md.trans aR I.md
 have V:=aW a0 I.md
 have aE:=I.md.aH aF
 refine e<|ap KX (V) aa (by have :=I.size; have :=G.size; omega) aa (aJ.dX bb) (aa) (aa) ab ab fun b3 cv aK M cs ci=> ?_
 have bh:=Wk.own bg V M Z.size
 have bw:=M.aH (I.md.aH aV) fun h=>by have :=dM V h; omega
 have ai:=M.aH aE fun h=>dC V aE az h
 have bG:=(a1.wk I.md).md M<|il V az
 have aZ:=dq (aW (aW aj ax) I.md) M fun k hk=>mG (aW (aW aj ax) I.md) V az hk
 refine e<|cw GN aa aa (eU aK) ai (by simp) fun b5 O bc=> ?_
 have bi:Wk w b5:=Md.trans' bh O fun k hk h=>by omega
 have bI:=(bG.md O<|fu ai az).snoc (n:=x.1) (r:=(cE [] x.2).take n) (v:= .slice E n cp)<|by rw [dR,Nat.min_eq_left hn,List.map_take]; exact (Tg.jM<|ez (dq aZ O fun k hk h=>dC aZ ai az<|h ▸ hk) aq).clip bD
 exact nl<|bn<|⟨(fO.wk G).trans ((fO.wk I.md).trans<|(fO.md M<|pQ V).trans<|fO.md O fun k hk=>⟨_,_,_,hk ▸ ai⟩),b3,vs++ [(x.1,.slice E n cp)],bc,(by rw [iu,show [x].map ny= [x.2] from aa,nk,fM,al]; rw [bL,Dm]; exact dq aK O fun k hk h=>dC aK ai az<|h ▸ hk),(by rw [iu,show [x].map ny= [x.2] from aa,nk,fM,al]; exact bI),O.aH bw (fun h=>by omega),gk aq (gk G.size<|gk I.md.size<|gk M.size O.size),bi⟩
 have al:lx x.2 (1 +pre.length)= []:=by unfold lx; rw [aY,if_pos (by rw [show n=0 by omega]; rfl)]
 exact aM<|bn<|⟨fO.wk G,v,vs,aF,(by rw [iu,show [x].map ny= [x.2] from aa,nk,fM,al]; rw [eh]; exact a0),(by rw [iu,show [x].map ny= [x.2] from aa,nk,fM,al]; rw [eh]; exact a1),aV,gk aq G.size,aR⟩
 intro D J ce aC ac
 obtain ⟨v,vs,aI,ak,ao,aG,aq,aB⟩:=aC
 have cm:=(cU.1 ac).1
 refine eo<|et<|eW<|rg aa<|p (ld sA aa<|(aX aI).trans aa)<|p aA<|p aA<|nl<|eo<|rT<|Hr aa aa aa ac ?_
 have U:¬65536 < s.length:=ab
 rw [CL] at ak ao
 exact ⟨⟨v,by show gz #[v,.int .i64 0]=_; rw [if_neg U],by rw [if_neg U]; exact ⟨vs,ez (dq ak (lz _ _ _) fun k hk h=>by obtain ⟨c,e,z,h1⟩:=pQ ak k hk; rw [h,ac] at h1; cases h1) Z.size,(ao.md (lz _ _ _) fun k hk cur z=>by rw [hk,ac]; simp).mono Z.size⟩⟩,Md.trans' aB (lz _ _ _) fun k hk h=>by have :=Z.size; omega⟩
end Go.Hb
end
section
namespace Go.Hb.j9
open Go.Hb.nz Go.Hb.wT
theorem qB {eof ln:Nat} {F F':aR} {hs:List Tx} {rows rows':List Rw} {row:List Tx} (a:cg eof F hs rows ln row= .ok (F',rows')):rows'.length≤rows.length:=by
 unfold cg at a
 repeat' split at a
 · unfold ko at a; split at a; cases a; cases a; exact cA _
 · unfold kH at a; repeat' split at a
   all_goals first | (cases a; done) | (cases a; exact cA _)
 · unfold mK at a; split at a; cases a; cases a; exact cA _
 · unfold mO at a; split at a; cases a; cases a; exact cA _
 · unfold kX at a; repeat' split at a
   all_goals first | (cases a; done) | (cases a; exact cA _)
 · unfold kn at a; repeat' split at a
   all_goals first | (cases a; done) | (cases a; exact (yg _ _ _<|by assumption).1)
 · unfold jS at a; repeat' split at a
   all_goals first | (cases a; done) | (cases a; exact (yg _ _ _<|by assumption).1)
 · unfold gM at a; repeat' split at a
   all_goals first | (cases a; done) | (cases a; exact (yg _ _ _<|by assumption).1)
theorem vy {eof k:Nat} {F:aR} {hs:List Tx} :gJ eof k F hs []= .ok F:=by cases k <;> simp [gJ]
section
variable {eof k n:Nat} {F:aR} {hs:List Tx} {r:List Tx} {rest:List Rw} {T:Except (Nat×Nat) aR} (h:gJ eof k F hs ((n,r)::rest)=T) (hk:rest.length+1≤k)
include h hk
theorem Kq (a:width (r.getD 0 [])=0):T= .error (n,110):=by
 obtain ⟨m,rfl⟩:∃ m,k=m+1:=⟨k - 1,ab⟩
 rw [← h,gJ,if_pos a]
theorem Kr (a:width (r.getD 0 [])≠0) (h1:r.length≠width (r.getD 0 [])):T= .error (n,111):=by
 obtain ⟨m,rfl⟩:∃ m,k=m+1:=⟨k - 1,ab⟩
 rw [← h,gJ,if_neg a,if_pos h1]
theorem C9 (a:width (r.getD 0 [])≠0) (h1:r.length=width (r.getD 0 [])) (h2:width (r.getD 0 [])≠4) (h3:r.getD 0 []∈hs):T= .error (n,112):=by
 obtain ⟨m,rfl⟩:∃ m,k=m+1:=⟨k - 1,ab⟩
 have hw:width (r.getD 0 [])=2:=by
  unfold width at a h2 ⊢
  split
  · rfl
  · rename_i hn
    rw [if_neg hn] at a h2
    split at h2
    · exact absurd aa h2
    · rename_i i; rw [if_neg i] at a; exact absurd rfl a
 rw [← h,gJ,if_neg a,if_neg (fun h4=>h4 h1),if_pos ⟨hw,h3⟩]
theorem Da {e:Nat×Nat} (a:width (r.getD 0 [])≠0) (h1:r.length=width (r.getD 0 [])) (h2:width (r.getD 0 [])=2→r.getD 0 []∉hs) (h3:cg eof F hs rest n r= .error e):T= .error e:=by
 obtain ⟨m,rfl⟩:∃ m,k=m+1:=⟨k - 1,ab⟩
 rw [← h,gJ,if_neg a,if_neg (fun h4=>h4 h1),if_neg (fun h4=>h2 h4.1 h4.2),h3]
theorem Db {F':aR} {rows':List Rw} (a:width (r.getD 0 [])≠0) (h1:r.length=width (r.getD 0 [])) (h2:width (r.getD 0 [])=2→r.getD 0 []∉hs) (h3:cg eof F hs rest n r= .ok (F',rows')):gJ eof (k - 1) F' (hs++ [r.getD 0 []]) rows'=T∧rows'.length≤k - 1:=by
 obtain ⟨m,rfl⟩:∃ m,k=m+1:=⟨k - 1,ab⟩
 refine ⟨?_,by have :=qB h3; omega⟩
 rw [← h,gJ,if_neg a,if_neg (fun h4=>h4 h1),if_neg (fun h4=>h2 h4.1 h4.2),h3]; rfl
end
theorem ER {s:Tx} (h:65536 < s.length):fq s= .error (0,10):=by unfold fq; rw [if_pos h]
theorem oz {s:Tx} {e:Nat×Nat} (h:¬65536 < s.length) (h1:gJ ((bH s).length+1) (bP s).length ic [] (bP s)= .error e):fq s= .error e:=by unfold fq; rw [if_neg h,h1]
theorem zR {s:Tx} {F:aR} {q:c7} (h:¬65536 < s.length) (h1:gJ ((bH s).length+1) (bP s).length ic [] (bP s)= .ok F) (h2:F.rules.find? (nD F)=some q):fq s= .error (q.line,118):=by unfold fq; rw [if_neg h,h1]; simp only; rw [h2]
theorem ET {s:Tx} {F:aR} (h:¬65536 < s.length) (h1:gJ ((bH s).length+1) (bP s).length ic [] (bP s)= .ok F) (h2:F.rules.find? (nD F)=none):fq s= .ok F:=by unfold fq; rw [if_neg h,h1]; simp only; rw [h2]
def qD (s:Tx):Value:=match iG s with | some (.agg cs)=>cs.getD 1 .nilFunc | _=> .nilFunc
theorem Ur (s:Tx):(iG s).getD (.agg #[.int .i64 0,.nilFunc])= .agg [.int .i64 (width s:Nat),qD s].toArray∧(iG s).isSome=decide (width s≠0):=by
 rcases Cl s with h | ⟨wd,f,h,hw,a⟩
 · have a:=IQ h
   unfold qD
   rw [h,a]; exact ⟨rfl,rfl⟩
 · unfold qD
   rw [h,hw,decide_eq_true a]; exact ⟨rfl,rfl⟩
theorem Ux (s:Tx):[je .i64 (width s:Nat),qD s].all gB=true :=by
 rcases Cl s with h | ⟨wd,f,h,hw,a⟩ <;> unfold qD <;> rw [h] <;> rfl
theorem IP {s:Tx} (h:width s≠0):∃ v,iG s=some v∧∀ (wd:Nat) (f:Nat),v= .agg [.int .i64 (wd:Nat),.func (.func f) #[] #[]].toArray→qD s= .func (.func f) #[] #[]:=by
 rcases Cl s with h1 | ⟨wd,f,h1,hw,i⟩
 · exact absurd (IQ h1) h
 · refine ⟨_,h1,fun q a he=> ?_⟩
   unfold qD
   rw [h1,he]; rfl
theorem KK {f:Value→Option Value} {seen:List Tx} (k:Tx) (a:∀ s:Tx,(f<|str s).getD (.int .i64 0)= .int .i64 (seen.count s:Nat)) (s:Tx):(bU f (str k) (.int .i64 (seen.count k+1:Nat))<|str s).getD (.int .i64 0)= .int .i64 ((seen++ [k]).count s:Nat):=by
 rw [List.count_append]
 by_cases h:s=k
 · subst h; rw [vq]; simp
 · rw [tx (fun h2=>h<|str_inj.1 h2),a s,List.count_singleton,show (k==s)=false from by simpa using fun h2=>h h2.symm]; rfl
theorem du.KJ {w w':World} {B:Nat} {H:dm} {F:aR} {R:gW} {rows:List Rw} {ln:Nat} {seen q:List Tx} {f:Value→Option Value} (h:du w B H F R rows ln seen) (hm:Md (fun k=>k=H.ms) w w') (A:dp w'.heap H.ms ji f) (hd:∀ s:Tx,(f<|str s).getD (.int .i64 0)= .int .i64 (q.count s:Nat)):du w' B H F R rows ln q:=by
 obtain ⟨g,E,G⟩:=h.tm
 obtain ⟨f0,C,_⟩:=h.sm
 have a:TF w [1] (fun k=>k=H.ms):=TF.eq (eD C) az
 exact ⟨hm.gL a h.cells az,h.rws.md hm (fun k hk cur z i=>a.no (dt i) az hk),h.rt.md hm (fun k hk cur z i=>a.no (dt i) az hk),⟨f,A,hd⟩,⟨g,E.md hm (fun h2=>h.ne.1 h2.symm),G⟩,cj h.on hm a az,h.lo,h.ne⟩
theorem dS.ms {w w':World} {B:Nat} {H:dm} {F a:aR} {V:e6} {R:gW} {rows:List Rw} {ln:Nat} {seen:List Tx} (h:dS w B H.fb H.mc a V) (i:du w B H F R rows ln seen) (hm:Md (fun k=>k=H.ms) w w'):dS w' B H.fb H.mc a V:=by
 obtain ⟨g,q,_⟩:=i.sm
 exact h.md (L:= [1]) hm (TF.eq (eD q) az) az fun h=>i.ne.2.1 h.symm
theorem fC.ms {w w':World} {B:Nat} {H:dm} {F:aR} {R:gW} {rows:List Rw} {ln:Nat} {seen:List Tx} (a:du w B H F R rows ln seen) (hm:Md (fun k=>k=H.ms) w w'):fC B H w w':=hm.mono fun k _ hk=>⟨hk ▸ a.lo.2.1,.inl hk⟩
structure pj (w0 w:World) (H:dm) (b2 b3 bt:Nat):Prop where
 c2:w.heap[b2]? =some (.cells [.pointer none].toArray 60 (0,0))
 c3:w.heap[b3]? =some (.cells [.int .i64 0,.int .i64 0,.int .i64 0].toArray 47 (0,0))
 lo:w0.heap.size≤b2∧w0.heap.size≤b3∧b2≠b3
 tb:∃ f,dp w.heap bt ji f∧∀ s,f (str s)=iG s
 ne:bt≠H.ms∧bt≠H.mt∧bt≠H.mc
 wk:Wk w0 w
theorem pj.md {A w w':World} {H:dm} {a i q:Nat} (h:pj A w H a i q) (hm:Wk w w'):pj A w' H a i q:=by
 obtain ⟨f,C,E⟩:=h.tb
 exact ⟨Wk.aH hm h.c2,Wk.aH hm h.c3,h.lo,⟨f,C.wk hm,E⟩,h.ne,h.wk.trans hm⟩
theorem pj.mw {a w w':World} {H:dm} {i q A:Nat} {F:aR} {R:gW} {V:e6} {rows:List Rw} {ln:Nat} {seen:List Tx} (h:pj a w H i q A) (G:dS w a.heap.size H.fb H.mc F V) (C:du w a.heap.size H F R rows ln seen) (hm:fC a.heap.size H w w'):pj a w' H i q A:=by
 obtain ⟨f,E,J⟩:=h.tb
 obtain ⟨f1,I,_⟩:=C.sm
 obtain ⟨f2,M,_⟩:=C.tm
 obtain ⟨f3,O,_⟩:=G.cm
 have hn:=fun e (U:([197,127,130,72,133,79,5]:List Nat).contains (e+2)=false)=>Wr.ne (B:=a.heap.size) (eD I) (eD M) (eD O) U
 refine ⟨hm.aH h.c2 (fun hk=>hn 60 az _ hk _ _ h.c2),hm.aH h.c3 (fun hk=>hn 47 az _ hk _ _ h.c3),h.lo,⟨f,E.md hm ?_,J⟩,h.ne,hm.wk h.wk<|cA _⟩
 rintro ⟨_,h1 | h1 | h1 | h1⟩
 · exact h.ne.1 h1
 · exact h.ne.2.1 h1
 · exact h.ne.2.2 h1
 · rw [eD E] at h1; exact absurd h1 az
def NL (w':World) (B:Nat) (F:aR) (v:Value):Prop := ∃ fb mc V,v= .tuple #[.pointer (some ⟨fb,0,none⟩),.agg [.int .i64 0,.int .i64 0,.int .i64 0].toArray]∧dS w' B fb mc F V∧(∃ seen,kM F [] seen)∧Nx F
def NK (e:Nat×Nat) (v:Value):Prop :=v= .tuple #[.pointer none,.agg [.int .i64 1,.int .i64 (e.1:Nat),.int .i64 (e.2:Nat)].toArray]
def po (s:Tx) (w:World) (v:Value) (w':World):Prop :=(match fq s with | .ok F=>NL w' w.heap.size F v | .error e=>NK e v)∧Wk w w'
theorem po.no {s:Tx} {w w':World} {l e:Nat} (h:fq s= .error (l,e)) (hm:Wk w w'):po s w (.tuple #[.pointer none,.agg [.int .i64 1,.int .i64 (l:Nat),.int .i64 (e:Nat)].toArray]) w':=by
 unfold po; rw [h]; exact ⟨rfl,hm⟩
theorem rR {n:Nat} {G:List Nat} {fn:Func} {σ:Nat→Value} {s:Tx} {w W:World} {H:dm} {i q A l e:Nat} (E:fn.results= #[.cell 2 60,.cell 3 47]) (C:3 < n) (I:σ 2= .pointer (some ⟨i,0,none⟩)) (J:σ 3= .pointer (some ⟨q,0,none⟩)) (a:pj w W H i q A) (M:fq s= .error (l,e)):qb ⟨n,[{target:= .fn (.func 82) #[.pointer (some ⟨i,0,none⟩),.pointer (some ⟨q,0,none⟩)],args:= #[]}],G,none⟩ (qa ay fn<|po s w) (.panic<|jh 47 l (e:Nat)) σ W:=
 WY E C I J ⟨_,a.c2⟩ ⟨_,rfl,a.c3⟩ a.lo.2.2 (fun w' hm=>po.no M<|a.wk.trans' hm fun k hk h=>by rcases h with rfl | rfl; have :=a.lo.1; omega; have :=a.lo.2.1; omega)
theorem RY {x:Nat} (h:x≠0):eG ic x=false :=by
 unfold eG ic dW
 simp [h]
theorem Wk.dr {w:World} :Wk w w.drew:=(Md.refl _ _).drew
theorem N0 (s:Tx) (w:World) (hs:s.length≤1048576):
 bm ay 45 (bf [str s]) w (po s w):=by
 refine Sz [2,3] func45 aa ntmps45 aa ?_
 refine et<|eW<|rg aa<|e<|fk ZB fun aK fo eI cu cX=>e<|fk p4 fun aL en eL bw c4=> ?_
 have e4:=cu.size
 have e8:=bw.size
 have dd:Wk w en:=cu.md.trans bw.md
 have d3:=Wk.aH bw.md cX
 refine nl<|eo<|et<|eW<|rg aa<|p (aT (str s) aa)<|e<|cl Gh (KB s _ hs) aa fun fh fm dD=> ?_
 obtain ⟨⟨eE,rfl,cz⟩,hE15⟩:=dD
 have ch:=dd.trans hE15
 have cG:=Wk.aH hE15 d3
 have cJ:=Wk.aH hE15 c4
 have e3:=hE15.size
 refine p mv<|p (xt aa aa)<|p (xt aa aa)<|p aA<|p aA<|nl<|eo<|et<|et<|eW<|rg aa<|p mv<|p (db aa aa)<|nl<|eo<|eW<|cd aa (fun bG=> ?_) fun bG=> ?_
 have cy:65536 < s.length:=Classical.byContradiction fun h=>bG<|by rw [if_neg h]
 exact sq fun cN bq=>rg aa<|p mv<|p (cQ (ps:= [(0,.int .i64 1),(2,.int .i64 (if 65536 < s.length then 10 else 0))]) (L:= [.int .i64 1,.int .i64 0,.int .i64 (if 65536 < s.length then 10 else 0)]) tB aa<|aa)<|e<|cw A6 aa aa (v:= .pointer none) aa cG az fun fw cs c7=>e<|gj jT aa aa aa aa (cs.aH cJ fun h=>by omega) az fun fy ct c8=>nl<|tn<|bq _ _<|rt<|prt<|SS (yL aa (kK<|jN aa aa<|(aX<|ct.aH c7 fun h=>by omega).trans aa)<|kK<|dN aa aa aa fun j eT=>by rw [gV,aX c8,if_pos cy]; simp)<|po.no (ER cy)<|(ch.trans' cs fun k hk h=>by omega).trans' ct fun k hk h=>by omega
 have an:¬65536 < s.length:=fun h=>bG<|by rw [if_pos h]; decide
 rw [if_neg an] at cz
 obtain ⟨vs,cF,d4⟩:=cz
 obtain ⟨ar,cr,rfl⟩:=cB cF
 refine aM<|eo<|et<|eW<|rg aa<|p (aT (str s) aa)<|e<|cl Gi (Le s _ hs) aa fun v24 cM dE=> ?_
 obtain ⟨⟨a24,rfl,cC⟩,hE24⟩:=dE
 rw [if_neg an] at cC
 obtain ⟨fd,qm,rfl⟩:=cB cC
 have dc:=ch.trans hE24
 have eU:=nT s
 have e5:=hE24.size
 refine p mv<|p (xt aa aa)<|p (xt aa aa)<|p aA<|p aA<|nl<|eo<|et<|eW<|rg aa<|e<|vg fun M fr eJ cv c0=> ?_
 have e6:=cv.size
 refine p (cQ (ps:= [(1,.map (some M))]) (L:= [.int .i64 0,.string ⟨⟨[]⟩⟩,.string ⟨⟨[]⟩⟩,.int .u16 0,.int .u16 0,.int .u16 0,.int .u16 0,.int .u16 0,.int .i64 0,.slice none 0 0,.slice none 0 0,.slice none 0 0,.slice none 0 0,.map (some M)]) Ye aa<|aa)<|e<|oB aa fun I ft eK bv c1=> ?_
 have e7:=bv.size
 refine p mv<|p mv<|p (bK eV aa aa)<|p (bE (((bH s).length+1:Nat):Int) aa aa<|bj ab ab)<|e<|vg fun U fu eM bd c5=> ?_
 have e9:=bd.size
 refine e<|vg fun Y fv eN aZ c6=> ?_
 have fb:=aZ.size
 refine p (cQ (ps:= [(0,.pointer (some ⟨I,0,none⟩)),(1,.slice ar (bP s).length cr),(3,.int .i64 ((bH s).length+1:Nat)),(4,.map (some U)),(5,.map (some Y))]) (L:= [.pointer (some ⟨I,0,none⟩),.slice ar (bP s).length cr,.int .i64 0,.int .i64 ((bH s).length+1:Nat),.map (some U),.map (some Y),.slice none 0 0]) Yj aa<|aa)<|e<|oB aa fun A aG eO aQ bl=> ?_
 have fc:=aQ.size
 have dU:=Wk.aH (bd.md.trans<|aZ.md.trans aQ.md) c1
 refine p aA<|nl<|eo<|et<|eW ?_
 have ah:(fun w'=>Md (fun k=>k=I) aG w') aG.drew:=(Md.refl _ _).drew
 refine bI (fun w'=>Md (fun k=>k=I) aG w') aa wide ah<|hp 0 aa aj (fun _ _=>mv) ah<|hp 1 aa aj (fun _ _=>nc aa) ah<|hp 2 aa aj (fun _ _=>fa ij aa) ah<|hp 3 aa aj (fun w' J=>ld gn aa<|Md.aO J ((aX bl).trans aa) fun h=>by omega) ah<|hp 4 aa aj (fun _ _=>mv) ah<|hp 5 aa aj (fun _ _=>nc aa) ah<|hp 6 aa aj (fun _ _=>fa ij aa) ah<|hp 7 aa aj (fun w' J=>ld gn aa<|Md.aO J ((aX bl).trans aa) fun h=>by omega) ah<|hp 8 aa aj (fun _ _=>nc aa) ah<|hp 9 aa aj (fun _ _=>fa gG aa) ah<|hp 10 aa aj (fun _ _=>fa tg aa) ah<|he 11 aa aj<|cw eZ aa aa (v:= .int .i64 (1:Nat)) aa dU (by show 0 +0 +0 < 14; decide) fun es dw c9=> ?_
 have a0:(fun w'=>Md (fun k=>k=I) aG w') es:=ah.trans' dw fun _ _ h=>h
 refine ⟨a0,?_⟩
 refine hp 12 aa aj (fun _ _=>nc aa) a0<|hp 13 aa aj (fun _ _=>fa gG aa) a0<|hp 14 aa aj (fun _ _=>fa BV aa) a0<|he 15 aa aj<|cw eZ aa aa (v:= .int .i64 (3:Nat)) aa c9 (by show _ < 14; decide) fun ev dx da=> ?_
 have bF:(fun w'=>Md (fun k=>k=I) aG w') ev:=a0.trans' dx fun _ _ h=>h
 refine ⟨bF,?_⟩
 refine hn aj<|eo<|et<|Se Vl #[.pointer (some ⟨aK,0,none⟩),.pointer (some ⟨aL,0,none⟩)] aa az ?_
 refine et<|eW<|rg aa<|e<|cl Qt (Uv _) aa fun v53 am dG=> ?_
 obtain ⟨aC,rfl,eQ,ee,ci⟩:=dG
 have de:Wk cM aG:=cv.md.trans<|bv.md.trans<|bd.md.trans<|aZ.md.trans aQ.md
 have aP:Md (fun k=>k=I) aG am:=bF.trans' ci fun _ _ h=>h.elim
 have aY:Wk cM am:=Md.trans' de aP fun k hk h=>by omega
 have e1:=aP.size
 have df:=dc.trans aY
 have dP:am.heap[I]? =some (.cells (oF ic ⟨.slice none 0 0,.slice none 0 0,.slice none 0 0,.slice none 0 0,[],[]⟩ M).toArray 125 (0,0)):=Wk.aH ci da
 have dT:am.heap[A]? =some (.cells (vw (⟨A,I,U,Y,M,(bH s).length+1⟩:dm) ⟨.slice ar (bP s).length cr,vs,.slice none 0 0⟩ 0).toArray 195 (0,0)):=aP.aH bl fun h=>by omega
 have dY:dp am.heap M (pM .u16) (fun _=>none):=dp.md (dp.wk (dp.nil c0)<|bv.md.trans<|bd.md.trans<|aZ.md.trans aQ.md) aP fun h=>by omega
 have dZ:dp am.heap U ji (fun _=>none):=dp.md (dp.wk (dp.nil c5)<|aZ.md.trans aQ.md) aP fun h=>by omega
 have d0:dp am.heap Y (pM .u16) (fun _=>none):=dp.md (dp.wk (dp.nil c6) aQ.md) aP fun h=>by omega
 have dg:dS am w.heap.size I M ic ⟨.slice none 0 0,.slice none 0 0,.slice none 0 0,.slice none 0 0,[],[]⟩:=⟨dP,dz _ _ _ _,dz _ _ _ _,eu.nil _ _ _,dz _ _ _ _,dz _ _ _ _,eu.nil _ _ _,⟨_,dY,fun _=>rfl⟩,⟨ab,ab⟩,rfl⟩
 have dA:du am w.heap.size (⟨A,I,U,Y,M,(bH s).length+1⟩:dm) ic ⟨.slice ar (bP s).length cr,vs,.slice none 0 0⟩ (bP s) 0 []:=⟨dT,(((Tg.jM cF).mono ab).wk<|hE24.trans aY).YH,(d4.mono ab).wk (hE24.trans aY),⟨_,dZ,fun _=>rfl⟩,⟨_,d0,fun x b6=>by rw [RY b6]; rfl⟩,dz _ _ _ _,⟨by show w.heap.size≤A; omega,by show w.heap.size≤U; omega,by show w.heap.size≤Y; omega⟩,⟨by show U≠Y; omega,by show U≠M; omega,by show Y≠M; omega⟩⟩
 have e0:=yJ s
 have dL:St am w.heap.size (⟨A,I,U,Y,M,(bH s).length+1⟩:dm) ic (bP s) 0 []:=⟨_,_,dg,dA,⟨by show 0 +0 +0 +0 +(bP s).length≤70000; omega,by show 0 +(bP s).length≤70000; omega,fun q bZ=>by have h:=yK bZ; exact ⟨h.2.2.1,ab,fun x b6=>by have :=(h.2.2.2.2 x b6).2; omega⟩,.inl rfl,fun l a6=>by cases a6⟩⟩
 have ed:ks ic []:=fun k hk _=>by have h:∀ k∈ea,ic.sp.getD (ea.idxOf k) 0=0:=az
                                  exact h k hk
 have d1:Nx ic:=⟨fun l a6=>(by cases a6),fun l a6=>by cases a6⟩
 have e2:=bF.size
 have d2:pj w am (⟨A,I,U,Y,M,(bH s).length+1⟩:dm) aK aL aC:=⟨Wk.aH (hE24.trans aY) cG,Wk.aH (hE24.trans aY) cJ,⟨ab,ab,ab⟩,ee,⟨by show aC≠U; omega,by show aC≠Y; omega,by show aC≠M; omega⟩,df⟩
 refine p aA<|nl<|eo<|et<|eW<|aH<|lp (fun cf bb a9=> ∃ (k:Nat) (F:aR) (rows:List Rw) (ln:Nat) (seen:List Tx),(gJ (⟨A,I,U,Y,M,(bH s).length+1⟩:dm).eof k F seen rows=gJ ((bH s).length+1) (bP s).length ic [] (bP s))∧(rows.length≤k)∧(St a9 w.heap.size (⟨A,I,U,Y,M,(bH s).length+1⟩:dm) F rows ln seen)∧(ks F seen)∧(Nx F)∧(pj w a9 (⟨A,I,U,Y,M,(bH s).length+1⟩:dm) aK aL aC)∧(bb 2= .pointer (some ⟨aK,0,none⟩))∧(bb 3= .pointer (some ⟨aL,0,none⟩))∧(bb 8= .pointer (some ⟨A,0,none⟩))∧(bb 9= .map (some aC))∧(rows.length=cf)) _ ⟨(bP s).length,ic,bP s,0,[],aa,(cA _),dL,ed,d1,d2,aa,aa,aa,aa,aa⟩ ?_
 rintro cf bb a9 ⟨k,F,rows,ln,seen,ai,hk,J,bi,bh,bW,d6,d7,d8,d9,rfl⟩
 refine fx 2 d6<|fx 3 d7<|fx 8 d8<|fx 9 d9 ?_
 obtain ⟨V,R,O,au,aN⟩:=J
 obtain ⟨vr,vs,vn⟩:=R
 obtain ⟨cb,ce,ef⟩:=au.rws.slice
 obtain rfl :vr= .slice cb rows.length ce:=ef
 refine sq fun cN bq=>sq fun ew dk=>rg aa<|p (aT (.pointer<|some ⟨A,0,none⟩) aa)<|p (nc aa)<|p (fa uU aa)<|p (ld sA aa<|(aX au.cells).trans aa)<|p (bK y5 aa aa)<|p (gt aa aa)<|nl<|tn<|dk _ _<|cd aa (fun bM=> ?_) fun bM=> ?_
 obtain ⟨⟨n,r⟩,rest,rfl⟩:∃ q rest,rows=q::rest:=by
  cases rows with
  | nil=>exact absurd bM<|by simp
  | cons q rest=>exact ⟨q,rest,rfl⟩
 have b3:=aN.row (n,r)<|List.mem_cons_self ..
 have dM:=aN.len
 have dO:=aN.sl
 simp only [cO] at dM dO hk
 refine aM<|tn<|bq _ _<|aH<|sq fun ex dl=>rg aa<|p (aT (.pointer<|some ⟨A,0,none⟩) aa)<|e<|cl Gj (Lu w.heap.size (⟨A,I,U,Y,M,(bH s).length+1⟩:dm) F ⟨.slice cb (rest.length+1) ce,vs,vn⟩ n r rest ln seen a9 au) aa fun fi ep dI=> ?_
 obtain ⟨⟨R1,dB⟩,hT1,hM1⟩:=dI
 obtain ⟨b9,cc,rfl⟩:=hT1.slice
 have dh:=O.rb au hM1
 have cE:=bW.mw O au<|fC.rb au hM1
 have eY:0 < r.length:=lG.2 b3.1
 have cg:=kM.pF aN
 have cK:=Ur<|r.getD 0 []
 obtain ⟨eG,dX,cD⟩:=cE.tb
 refine p aA<|nl<|tn<|dl _ _<|sq fun ey dn=>rg aa<|p (aT (.map<|some aC) aa)<|p mv<|p (a8 cH aa aa ab<|aJ.ok (hT1.cI.2)<|bS ab)<|p (ld bT aa<|ca.get (i:=0) hT1.cI.2 ab)<|p (Jm mh ZF iZ (dX) aa aa (⟨_,aa⟩) ((congrArg (fun o=>Option.getD o _)<|cD<|r.getD 0 []).trans cK.1)<|(congrArg Option.isSome<|cD<|r.getD 0 []).trans cK.2)<|p mv<|p (xt aa aa)<|p (xt aa aa)<|e<|fk Zx fun cT fl eH dy cV=>e<|gj RQ aa aa aa (Ux _) cV az fun b8 dv cW=> ?_
 have bc:Wk ep b8:=dy.md.trans' dv fun k hk h=>by omega
 have bg:b8.heap[cT]? =some (.cells [.int .i64 (width (r.getD 0 []):Nat),qD (r.getD 0 [])].toArray 202 (0,0)):=cW
 have ax:=dh.wk bc
 have Z:=dB.wk bc
 have aS:=hT1.wk bc
 have aB:=cE.md bc
 refine p aA<|nl<|tn<|dn _ _<|sq fun ez dq=>rg aa<|p (aT (.pointer<|some ⟨A,0,none⟩) aa)<|p mv ?_
 refine eP aa (dQ iy (iJ A n _ 110 b8 Z.dj az) aa fun v72 er dJ=> ?_) (fun c w' ae aV O=>by
  obtain ⟨rfl,av,rfl⟩:=ae
  exact rR aa az ((O 2<|.head _).trans aa) ((O 3<|.tail _<|.head _).trans aa) aB (oz an<|Kq ai hk<|jk.1<|of_decide_eq_false av))
 obtain ⟨rfl,ak,rfl⟩:=dJ
 have ak:width (r.getD 0 [])≠0:=of_decide_eq_true ak
 refine nl<|tn<|dq _ _<|sq fun eA ds=>rg aa<|p (aT (.pointer<|some ⟨A,0,none⟩) aa)<|p mv<|p (bK eV aa aa)<|p (fa H6 aa)<|p (ld bu aa<|(aX bg).trans aa)<|p (bJ aa aa) ?_
 refine eP aa (dQ iy (iJ A n _ 111 er Z.dj az) aa fun fj aw dK=> ?_) (fun c w' ae aV O=>by
  obtain ⟨rfl,av,rfl⟩:=ae
  exact rR aa az ((O 2<|.head _).trans aa) ((O 3<|.tail _<|.head _).trans aa) aB (oz an<|Kr ai hk ak fun h=>of_decide_eq_false av<|by rw [h]))
 obtain ⟨rfl,ao,rfl⟩:=dK
 have ao:r.length=width (r.getD 0 []):=by have :=of_decide_eq_true ao; omega
 refine nl<|tn<|ds _ _<|sq fun eB cn=> ?_
 obtain ⟨ff,eb,ec⟩:=Z.sm
 have C:(fun w'=>Wk aw w') aw.drew:=(Md.refl _ _).drew
 refine bI (fun w'=>Wk aw w') aa wide C<|hp 0 aa aj (fun _ _=>aT (.pointer<|some ⟨A,0,none⟩) aa) C<|hp 1 aa aj (fun _ _=>fa H6 aa) C<|hp 2 aa aj (fun w' J=>ld bu aa<|Wk.aO J<|(aX bg).trans aa) C<|hp 3 aa aj (fun _ _=>bJ aa aa) C<|hp 4 aa aj (fun _ _=>mv) C<|iQ (t:=84) aa (fun a5=> ?_) fun a5=> ?_
 refine oJ 5 aa aj aa aa aa aa C<|oJ 6 aa aj aa aa aa aa C<|oJ 7 aa aj aa aa aa aa C<|oJ 8 aa aj aa aa aa aa C<|oJ 9 aa aj aa aa aa aa C<|oJ 10 aa aj aa aa aa aa C<|oJ 11 aa aj aa aa aa aa C<|oJ 12 aa aj aa aa aa aa C<|oJ 13 aa aj aa aa aa aa C<|hp 14 aa aj (fun _ _=>bB aa) C ?_
 refine tj 15 aa aj aa (dQ iy (iJ A n _ 112 aw.drew (Wk.aO C Z.dj) az) aa fun el aI bC=> ?_) (fun c w' ae aV O=>by
  obtain ⟨rfl,av,rfl⟩:=ae
  first
   | exact absurd av az
   | exact rR rfl az ((O 2<|.head _).trans rfl) ((O 3<|.tail _<|.head _).trans rfl) (aB.md Wk.dr) (oz an<|C9 ai hk ak ao (fun h=>a5<|by rw [h]; rfl)<|jk.1 fun h=>of_decide_eq_false av<|by rw [q6.2 h]; rfl))
 obtain ⟨rfl,b7,a7⟩:=bC
 have aE:width (r.getD 0 [])=2→r.getD 0 []∉seen:=by
  first
   | exact fun h=>absurd a5 ab
   | exact fun _=>q6.1<|by have :=of_decide_eq_true b7; omega
 have E:Wk aw aI:=by rw [a7]; exact Wk.dr
 obtain ⟨eg,bU,bQ⟩:=IP ak
 obtain ⟨cU,b5,bN,bO⟩:=IU w.heap.size (⟨A,I,U,Y,M,(bH s).length+1⟩:dm) F rest n seen r w.heap.size b9 cc aI ⟨_,_,ax.wk E,Z.wk E,cg⟩ (aS.wk E) b3.2.2 ao bi aE ab bU
 have bR:=bQ _ _ b5
 have bD:(fun w'=>Wk aw w') aI:=by rw [a7]; exact C
 refine ⟨bD,?_⟩
 refine hn aj<|tn<|cn _ _<|sq fun cP br=>rg aa<|p (fa H7 aa)<|p (ld EX aa<|(aX<|Wk.aH E bg).trans<|congrArg some bR)<|p (aT (.pointer<|some ⟨A,0,none⟩) aa)<|p mv ?_
 refine eP aa (L9 bN aa bO aa fun ek aF bz=> ?_) (fun c w' ae aV O=>by
  obtain ⟨l,e,ac,rfl,aq⟩:=ae
  exact rR aa az ((O 2<|.head _).trans aa) ((O 3<|.tail _<|.head _).trans aa) ((aB.md E).mw (ax.wk E) (Z.wk E) aq) (oz an<|Da ai hk ak ao aE ac))
 obtain ⟨rfl,F',rows',ln',ac,⟨cR,bk,aW,ag,ap⟩,aq⟩:=bz
 have bY:=(aB.md E).mw (ax.wk E) (Z.wk E) aq
 obtain ⟨eh,b0,_⟩:=Z.sm
 obtain ⟨ei,b1,_⟩:=Z.tm
 obtain ⟨ej,b2,_⟩:=ax.cm
 have a1:=(aS.wk E).md aq<|Wr.ne (eD<|b0.wk E) (eD<|b1.wk E) (eD<|b2.wk E) az
 obtain ⟨fs,a3,a4⟩:=ag.sm
 have dR:=uc (a:=r.getD 0 []) (l:=seen)
 have a2:=Db ai hk ak ao aE ac
 refine nl<|tn<|br _ _ ?_
 have G:(fun w'=>Wk aF w') aF.drew:=(Md.refl _ _).drew
 refine eS (fun w'=>Wk aF w') 9 aa wide G<|lq 0 aa aj (fun _ _=>aT (.pointer<|some ⟨A,0,none⟩) aa) G<|lq 1 aa aj (fun _ _=>nc aa) G<|lq 2 aa aj (fun _ _=>fa s8 aa) G<|lq 3 aa aj (fun w' J=>ld sB aa<|Wk.aO J<|(aX ag.cells).trans aa) G<|lq 4 aa aj (fun _ _=>mv) G<|lq 5 aa aj (fun _ _=>a8 cH aa aa ab<|aJ.ok (aJ.wk a1.cI.2 G)<|bS ab) G<|lq 6 aa aj (fun w' J=>ld bT aa<|Wk.aO J<|ca.get (i:=0) a1.cI.2 ab) G<|lq 7 aa aj (fun w' J=>oL qR oW iZ (dp.md (a3) J id) aa aa (⟨_,aa⟩)<|a4<|r.getD 0 []) G<|lq 8 aa aj (fun _ _=>bE ((seen.count (r.getD 0 [])+1:Nat):Int) aa aa<|bj ab ab) G<|dH 9 aa aj aj<|tJ qR iZ (a3.wk G) aa aa aa (⟨_,aa⟩) fun ba bs bx=> ?_
 have aD:=iq bs
 have bA:du ba w.heap.size (⟨A,I,U,Y,M,(bH s).length+1⟩:dm) F' bk rows' ln' (seen++ [r.getD 0 []]):=du.KJ ag aD bx<|KK _ a4
 have bo:=dS.ms aW ag aD
 have bX:=bY.mw aW ag<|fC.ms ag aD
 have d5:=qB ac
 have G:St ba w.heap.size (⟨A,I,U,Y,M,(bH s).length+1⟩:dm) F' rows' ln' (seen++ [r.getD 0 []]):=⟨_,_,bo,bA,⟨ap.len,by rw [bL,fA]; omega,ap.row,ap.kd,ap.al⟩⟩
 have b4:=IT bi ac
 have bV:=yi bh ac
 exact eR aj<|bn<|tn<|⟨_,by simp only [cO]; have :=qB ac; omega,k - 1,F',rows',ln',seen++ [r.getD 0 []],a2.1,a2.2,G,b4,bV,bX,aa,aa,aa,aa,aa⟩
 refine oI 5 aa aj aa aa aa (fun _ _=>aT (.pointer<|some ⟨A,0,none⟩) aa) C<|oI 6 aa aj aa aa aa (fun _ _=>nc aa) C<|oI 7 aa aj aa aa aa (fun _ _=>fa s8 aa) C<|oI 8 aa aj aa aa aa (fun w' J=>ld sB aa<|Wk.aO J<|(aX Z.cells).trans aa) C<|oI 9 aa aj aa aa aa (fun _ _=>mv) C<|oI 10 aa aj aa aa aa (fun _ _=>a8 cH aa aa ab<|aJ.ok (aJ.wk aS.cI.2 C)<|bS ab) C<|oI 11 aa aj aa aa aa (fun w' J=>ld bT aa<|Wk.aO J<|ca.get (i:=0) aS.cI.2 ab) C<|oI 12 aa aj aa aa aa (fun w' J=>oL qR oW iZ (dp.md (eb) J id) aa aa (⟨_,aa⟩)<|ec<|r.getD 0 []) C<|oI 13 aa aj aa aa aa (fun _ _=>bJ aa aa) C<|hp 14 aa aj (fun _ _=>bp aa) C ?_
 refine tj 15 aa aj aa (dQ iy (iJ A n _ 112 aw.drew (Wk.aO C Z.dj) az) aa fun el aI bC=> ?_) (fun c w' ae aV O=>by
  obtain ⟨rfl,av,rfl⟩:=ae
  first
   | exact absurd av az
   | exact rR rfl az ((O 2<|.head _).trans rfl) ((O 3<|.tail _<|.head _).trans rfl) (aB.md Wk.dr) (oz an<|C9 ai hk ak ao (fun h=>a5<|by rw [h]; rfl)<|jk.1 fun h=>of_decide_eq_false av<|by rw [q6.2 h]; rfl))
 obtain ⟨rfl,b7,a7⟩:=bC
 have aE:width (r.getD 0 [])=2→r.getD 0 []∉seen:=by
  first
   | exact fun h=>absurd a5 ab
   | exact fun _=>q6.1<|by have :=of_decide_eq_true b7; omega
 have E:Wk aw aI:=by rw [a7]; exact Wk.dr
 obtain ⟨eg,bU,bQ⟩:=IP ak
 obtain ⟨cU,b5,bN,bO⟩:=IU w.heap.size (⟨A,I,U,Y,M,(bH s).length+1⟩:dm) F rest n seen r w.heap.size b9 cc aI ⟨_,_,ax.wk E,Z.wk E,cg⟩ (aS.wk E) b3.2.2 ao bi aE ab bU
 have bR:=bQ _ _ b5
 have bD:(fun w'=>Wk aw w') aI:=by rw [a7]; exact C
 refine ⟨bD,?_⟩
 refine hn aj<|tn<|cn _ _<|sq fun cP br=>rg aa<|p (fa H7 aa)<|p (ld EX aa<|(aX<|Wk.aH E bg).trans<|congrArg some bR)<|p (aT (.pointer<|some ⟨A,0,none⟩) aa)<|p mv ?_
 refine eP aa (L9 bN aa bO aa fun ek aF bz=> ?_) (fun c w' ae aV O=>by
  obtain ⟨l,e,ac,rfl,aq⟩:=ae
  exact rR aa az ((O 2<|.head _).trans aa) ((O 3<|.tail _<|.head _).trans aa) ((aB.md E).mw (ax.wk E) (Z.wk E) aq) (oz an<|Da ai hk ak ao aE ac))
 obtain ⟨rfl,F',rows',ln',ac,⟨cR,bk,aW,ag,ap⟩,aq⟩:=bz
 have bY:=(aB.md E).mw (ax.wk E) (Z.wk E) aq
 obtain ⟨eh,b0,_⟩:=Z.sm
 obtain ⟨ei,b1,_⟩:=Z.tm
 obtain ⟨ej,b2,_⟩:=ax.cm
 have a1:=(aS.wk E).md aq<|Wr.ne (eD<|b0.wk E) (eD<|b1.wk E) (eD<|b2.wk E) az
 obtain ⟨fs,a3,a4⟩:=ag.sm
 have dR:=uc (a:=r.getD 0 []) (l:=seen)
 have a2:=Db ai hk ak ao aE ac
 refine nl<|tn<|br _ _ ?_
 have G:(fun w'=>Wk aF w') aF.drew:=(Md.refl _ _).drew
 refine eS (fun w'=>Wk aF w') 9 aa wide G<|lq 0 aa aj (fun _ _=>aT (.pointer<|some ⟨A,0,none⟩) aa) G<|lq 1 aa aj (fun _ _=>nc aa) G<|lq 2 aa aj (fun _ _=>fa s8 aa) G<|lq 3 aa aj (fun w' J=>ld sB aa<|Wk.aO J<|(aX ag.cells).trans aa) G<|lq 4 aa aj (fun _ _=>mv) G<|lq 5 aa aj (fun _ _=>a8 cH aa aa ab<|aJ.ok (aJ.wk a1.cI.2 G)<|bS ab) G<|lq 6 aa aj (fun w' J=>ld bT aa<|Wk.aO J<|ca.get (i:=0) a1.cI.2 ab) G<|lq 7 aa aj (fun w' J=>oL qR oW iZ (dp.md (a3) J id) aa aa (⟨_,aa⟩)<|a4<|r.getD 0 []) G<|lq 8 aa aj (fun _ _=>bE ((seen.count (r.getD 0 [])+1:Nat):Int) aa aa<|bj ab ab) G<|dH 9 aa aj aj<|tJ qR iZ (a3.wk G) aa aa aa (⟨_,aa⟩) fun ba bs bx=> ?_
 have aD:=iq bs
 have bA:du ba w.heap.size (⟨A,I,U,Y,M,(bH s).length+1⟩:dm) F' bk rows' ln' (seen++ [r.getD 0 []]):=du.KJ ag aD bx<|KK _ a4
 have bo:=dS.ms aW ag aD
 have bX:=bY.mw aW ag<|fC.ms ag aD
 have d5:=qB ac
 have G:St ba w.heap.size (⟨A,I,U,Y,M,(bH s).length+1⟩:dm) F' rows' ln' (seen++ [r.getD 0 []]):=⟨_,_,bo,bA,⟨ap.len,by rw [bL,fA]; omega,ap.row,ap.kd,ap.al⟩⟩
 have b4:=IT bi ac
 have bV:=yi bh ac
 exact eR aj<|bn<|tn<|⟨_,by simp only [cO]; have :=qB ac; omega,k - 1,F',rows',ln',seen++ [r.getD 0 []],a2.1,a2.2,G,b4,bV,bX,aa,aa,aa,aa,aa⟩
 obtain rfl :rows= []:=by
  cases rows with
  | nil=>rfl
  | cons q rest=>exact absurd (by simp only [cO]; omega) bM
 rw [vy] at ai
 refine ext<|te _<|te _<|be<|eo<|et<|eW<|rg aa<|p (aT (.pointer<|some ⟨A,0,none⟩) aa) ?_
 refine eP aa (dQ Qu (QG w.heap.size (⟨A,I,U,Y,M,(bH s).length+1⟩:dm) F [] ln seen a9 ⟨_,_,O,au,aN⟩ bh.2) aa fun fg cL dC=> ?_) (fun c w' ae aV cj=>by
  obtain ⟨q,bZ,rfl,bt⟩:=ae
  exact rR aa az ((cj 2<|.head _).trans aa) ((cj 3<|.tail _<|.head _).trans aa) (bW.mw O au bt) (zR an ai.symm bZ))
 obtain ⟨rfl,dV,⟨cS,eC,fe,ck,dF⟩,bt⟩:=dC
 have aU:=bW.mw O au bt
 have eX:=aU.lo
 refine nl<|eo<|et<|eW<|rg aa<|p (aT (.pointer<|some ⟨A,0,none⟩) aa)<|p (nc aa)<|p (fa ij aa)<|p (ld gn aa<|(aX dF.cells).trans aa)<|p (cQ (ps:= []) (L:= [.int .i64 0,.int .i64 0,.int .i64 0]) tB aa<|aa)<|e<|cw A6 aa aa (v:= .pointer<|some ⟨I,0,none⟩) aa aU.c2 az fun fq co cY=>e<|gj jT aa aa aa aa (co.aH aU.c3 fun h=>by omega) az fun em cp cZ=> ?_
 have cq:Md (fun k=>k=aK∨k=aL) cL em:=(co.mono fun _ _ h=> .inl h).trans' cp fun _ _ h=> .inr h
 refine nl<|eo<|rT ?_
 have cx:TF cL [62,49] (fun k=>k=aK∨k=aL):=TF.or (TF.eq (dt aU.c2) az)<|TF.eq (dt aU.c3) az
 obtain ⟨eF,dW,_⟩:=ck.cm
 have di:=ck.md cq cx az<|cx.no (eD dW) az
 exact WZ aa az aa aa (cp.aH cY fun h=>by omega) cZ aa (fun w' hm=>by
  unfold po
  rw [ET an ai.symm dV]
  exact ⟨⟨I,M,cS,aa,di.wk hm,⟨seen,aN⟩,bh⟩,(aU.wk.trans' cq fun k hk h=>by omega).trans hm⟩)
end Go.Hb.j9
end
namespace Go.Hb.jF
def lL (F:aR) (V:e6):List Value:= [.int .i64 (F.kind:Nat),str F.rB,str F.tr,bg (F.sp.getD 0 0),bg (F.sp.getD 1 0),bg (F.sp.getD 2 0),bg (F.sp.getD 3 0),bg (F.sp.getD 4 0),.int .i64 (F.least:Nat),V.v9,V.v10,V.v11,V.v12]
structure ph (w:World) (B:Nat) (F:aR) (V:e6):Prop where
 o9:bq w B 128 2 V.v9 F.dd.length (kZ F.dd)
 eT:bq w B 70 1 V.v10 F.aliases.length V.sa
 al:eu w B 51 V.sa F.aliases
 ep:bq w B 131 5 V.v11 F.bw.length (m7 F.bw)
 dB:bq w B 77 7 V.v12 F.rules.length (iS<|F.rules.zip V.rn)
 nx:eu w B 51 V.rn (F.rules.map (·.next))
theorem z6 {w:World} {B e:Nat} {vs:List Value} {C:List (List Nat)} (h:eu w B e vs C):vs.all gB=true :=by
 rw [mj]
 intro v A
 obtain ⟨i,hi⟩:=wq A
 have h1:=(fS.1 hi).1
 obtain ⟨u,hu,q⟩:=eu.get h (i:=i)<|by rw [← h.1]; exact h1
 rw [hi] at hu; cases hu
 obtain ⟨a,c,rfl⟩:=q.slice; rfl
theorem Xx {w:World} {B e:Nat} {rs:List c7} {vs:List Value} {A:List (List Nat)} (h:eu w B e vs A):(iS<|rs.zip vs).all gB=true :=by
 rw [mj]
 intro v a
 obtain ⟨q,i,a⟩:=List.mem_flatMap.1 a
 have h1:=mj.1 (z6 h) q.2 (List.of_mem_zip i).2
 simp only [fz,gu,uh,or_false] at a
 rcases a with rfl | rfl | rfl | rfl | rfl | rfl | rfl <;> first | rfl | exact h1
theorem Xy {rs:List c7} {vs:List Value} {i:Nat} {v:Value} (hi:i < rs.length) (E:i < vs.length):(iS<|rs.zip vs).set (i*7 +6) v=iS (rs.zip<|vs.set i v):=by
 obtain ⟨r,C⟩:∃ r,rs[i]? =some r:=⟨_,cC hi⟩
 obtain ⟨u,hu⟩:∃ u,vs[i]? =some u:=⟨_,cC E⟩
 have G:(rs.zip vs)[i]? =some (r,u):=jy.2 ⟨C,hu⟩
 have O:rs.zip (vs.set i v)=(rs.zip vs).set i (r,v):=by
  apply p7
  intro j
  rw [k6]
  by_cases A:i=j
  · subst A
    rw [if_pos rfl,if_pos (fS.1 G).1]
    exact jy.2 ⟨C,by simp [E]⟩
  · rw [if_neg A]
    cases h1:(rs.zip vs)[j]? with
    | none=>
      rw [List.getElem?_eq_none_iff,zH] at h1 ⊢
      rw [wy]; exact h1
    | some q=>
      have h2:=jy.1 h1
      exact jy.2 ⟨h2.1,by rw [k6,if_neg A]; exact h2.2⟩
 have U:(rs.zip vs).length=min rs.length vs.length:=zH
 have a:(iS<|rs.zip vs).length=(rs.zip vs).length*7:=oG (f:=fz) (m:=7) (fun _=>rfl) _
 rw [O,show iS ((rs.zip vs).set i (r,v))=(iS<|rs.zip vs).take (i*7)++fz (r,v)++(iS<|rs.zip vs).drop (i*7 +7) from HT (f:=fz) (m:=7) (fun _=>rfl) _ ab]
 apply p7
 intro j
 have I:=fun c a=>BA (f:=fz) (m:=7) (fun _=>rfl) (c:=c) G a
 have J:∀ c,c < 7→(iS<|rs.zip vs)[i*7 +c]? =(fz (r,u))[c]? :=fun c h=>I c h
 have M:((iS<|rs.zip vs).take<|i*7).length=i*7:=by rw [dR,a]; omega
 rw [k6]
 by_cases h1:j < i*7
 · rw [if_neg ab,dD,ml ab,List.getElem?_take,if_pos h1]
 · rw [dD,mS ab,M]
   by_cases h2:j < i*7 +7
   · rw [ml (by show _ < 7; omega)]
     obtain ⟨c,rfl⟩:∃ c,j=i*7 +c:=⟨j - i*7,ab⟩
     have h3:c < 7:=ab
     rw [J c h3,show i*7 +c - i*7=c by omega]
     match c,h3 with
     | 0,_=>rw [if_neg ab]; rfl
     | 1,_=>rw [if_neg ab]; rfl
     | 2,_=>rw [if_neg ab]; rfl
     | 3,_=>rw [if_neg ab]; rfl
     | 4,_=>rw [if_neg ab]; rfl
     | 5,_=>rw [if_neg ab]; rfl
     | 6,_=>rw [if_pos rfl,if_pos ab]; rfl
   · rw [if_neg ab,mS (by show 7≤_; omega),show (fz (r,v)).length=7 from rfl,List.getElem?_drop]
     congr 1; omega
theorem nY {l:List (c7×Value)} {i:Nat} {q:c7×Value} (h:l[i]? =some q):iS l≠[]:=fun h2=>by
 have h3:(iS l).length=l.length*7:=oG (f:=fz) (m:=7) (fun _=>rfl) _
 have h4:=(fS.1 h).1
 rw [h2] at h3
 have h5:0=l.length*7:=h3
 omega
theorem Ae {F:aR} {V:e6} (C:V.v9.oneCell'=true) (i:V.v10.oneCell'=true) (q:V.v11.oneCell'=true) (A:V.v12.oneCell'=true):(lL F V).all gB=true :=by
 rw [mj]
 intro v a
 simp only [lL,gu,uh,or_false] at a
 rcases a with rfl | rfl | rfl | rfl | rfl | rfl | rfl | rfl | rfl | rfl | rfl | rfl | rfl <;> first | rfl | assumption
theorem Ot {w:World} {B fb mc:Nat} {F:aR} {V:e6} (h:dS w B fb mc F V):(lL F V).all gB=true :=Ae (eU h.o9) (eU h.eT) (eU h.ep)<|eU h.dB
theorem Be {α:Type} {l m:List α} {i:Nat} (h:l.drop i=m.drop i):l[i]? =m[i]? :=by
 have h1:=congrArg (·[0]?) h
 simpa using h1
theorem Dn {α:Type} {l:List α} {i:Nat} {x:α} (h:i < l.length):(l.set i x).take (i+1)=l.take i++ [x]:=by
 rw [List.take_add_one,List.take_set_of_le (cA i)]; simp [h]
theorem set_drop {α:Type} {l m:List α} {i:Nat} {x:α} (h:l.drop i=m.drop i):(l.set i x).drop (i+1)=m.drop (i+1):=by
 rw [List.drop_set_of_lt (Nat.lt_succ_self i),show i.succ=i+1 from rfl]
 simpa [List.drop_drop] using congrArg (List.drop 1) h
theorem E9 {w:World} {B e i:Nat} {vs:List Value} {a:List (List Nat)} {v:Value} (h:eu w B e (vs.take i) (a.take i)) (hi:i < a.length) (A:i < vs.length) (q:Tg w B e (a.getD i []).length v ((a.getD i []).map bg)):eu w B e ((vs.set i v).take<|i+1) (a.take<|i+1):=by
 rw [Dn A,fK a i [] hi]; exact h.snoc q
theorem QV (a:Option Addr) (n c:Nat) (xs:List Value) (w:World) (M:aJ w.heap a xs) (ae:xs.length=n*2) (V:a=none→n=0) (h1:xs.all gB=true) (hn:n≤1048576):
 bm ay 48 (bf [.slice a n c]) w (fun ai w'=>bq w' w.heap.size 128 2 ai n xs∧Wk w w'):=by
 refine enter func48 aa ntmps48 aa<|ag fun E=>aw<|E<|aB fun G=>ag fun I=>ak (.slice a n c)<|p (sW YT aa aa)<|nl<|I<|cb aa (fun A=> ?_) fun A=> ?_
 have Y:a=none:=by simpa using A
 refine ag fun i=>aw<|i<|rt<|tr<|aV aa ?_
 have Z:=V Y
 subst Z
 obtain rfl :=fW (show xs.length=0 by omega)
 exact ⟨dz _ _ _ _,Md.refl _ _⟩
 refine aM<|G<|ag fun i=>e<|m4 yU fun am ar an q J=> ?_
 have C:=J w.heap.size ab
 refine ak (.slice a n c)<|e<|ap yU (C) aa (by have :=q.size; omega) aa (M.wk q.md) (ae) (h1) ab ab fun aj al ac U aq ao=> ?_
 have O:=Wk.own q.md C U<|cA _
 refine aw<|i<|rt<|aV aa ?_
 have ah:bq al w.heap.size 128 2 aj n xs:=by simpa using ac
 exact ⟨ah,O⟩
theorem QU (v:Value) (n:Nat) (xs:List Value) (w:World) (A:Rd w.heap v n 2 xs) (h1:xs.all gB=true) (hn:n≤1048576):bm ay 48 [v].toArray w (fun v w'=>bq w' w.heap.size 128 2 v n xs∧Wk w w'):=by
 obtain ⟨a,c,rfl,i,C,q⟩:=A
 exact QV a n c xs w i C q h1 hn
theorem QR (a:Option Addr) (n c:Nat) (xs:List Value) (w:World) (M:aJ w.heap a xs) (ae:xs.length=n*5) (V:a=none→n=0) (h1:xs.all gB=true) (hn:n≤1048576):
 bm ay 49 (bf [.slice a n c]) w (fun ai w'=>bq w' w.heap.size 131 5 ai n xs∧Wk w w'):=by
 refine enter func49 aa ntmps49 aa<|ag fun E=>aw<|E<|aB fun G=>ag fun I=>ak (.slice a n c)<|p (sW LL aa aa)<|nl<|I<|cb aa (fun A=> ?_) fun A=> ?_
 have Y:a=none:=by simpa using A
 refine ag fun i=>aw<|i<|rt<|tr<|aV aa ?_
 have Z:=V Y
 subst Z
 obtain rfl :=fW (show xs.length=0 by omega)
 exact ⟨dz _ _ _ _,Md.refl _ _⟩
 refine aM<|G<|ag fun i=>e<|m4 yW fun am ar an q J=> ?_
 have C:=J w.heap.size ab
 refine ak (.slice a n c)<|e<|ap yW (C) aa (by have :=q.size; omega) aa (M.wk q.md) (ae) (h1) ab ab fun aj al ac U aq ao=> ?_
 have O:=Wk.own q.md C U<|cA _
 refine aw<|i<|rt<|aV aa ?_
 have ah:bq al w.heap.size 131 5 aj n xs:=by simpa using ac
 exact ⟨ah,O⟩
theorem QQ (v:Value) (n:Nat) (xs:List Value) (w:World) (A:Rd w.heap v n 5 xs) (h1:xs.all gB=true) (hn:n≤1048576):bm ay 49 [v].toArray w (fun v w'=>bq w' w.heap.size 131 5 v n xs∧Wk w w'):=by
 obtain ⟨a,c,rfl,i,C,q⟩:=A
 exact QR a n c xs w i C q h1 hn
theorem QZ (a:Option Addr) (n c:Nat) (xs:List Value) (w:World) (M:aJ w.heap a xs) (ae:xs.length=n*1) (V:a=none→n=0) (h1:xs.all gB=true) (hn:n≤1048576):
 bm ay 50 (bf [.slice a n c]) w (fun ai w'=>bq w' w.heap.size 70 1 ai n xs∧Wk w w'):=by
 refine enter func50 aa ntmps50 aa<|ag fun E=>aw<|E<|aB fun G=>ag fun I=>ak (.slice a n c)<|p (sW y9 aa aa)<|nl<|I<|cb aa (fun A=> ?_) fun A=> ?_
 have Y:a=none:=by simpa using A
 refine ag fun i=>aw<|i<|rt<|tr<|aV aa ?_
 have Z:=V Y
 subst Z
 obtain rfl :=fW (show xs.length=0 by omega)
 exact ⟨dz _ _ _ _,Md.refl _ _⟩
 refine aM<|G<|ag fun i=>e<|m4 yV fun am ar an q J=> ?_
 have C:=J w.heap.size ab
 refine ak (.slice a n c)<|e<|ap yV (C) aa (by have :=q.size; omega) aa (M.wk q.md) (ae) (h1) ab ab fun aj al ac U aq ao=> ?_
 have O:=Wk.own q.md C U<|cA _
 refine aw<|i<|rt<|aV aa ?_
 have ah:bq al w.heap.size 70 1 aj n xs:=by simpa using ac
 exact ⟨ah,O⟩
theorem QY (v:Value) (n:Nat) (xs:List Value) (w:World) (A:Rd w.heap v n 1 xs) (h1:xs.all gB=true) (hn:n≤1048576):bm ay 50 [v].toArray w (fun v w'=>bq w' w.heap.size 70 1 v n xs∧Wk w w'):=by
 obtain ⟨a,c,rfl,i,C,q⟩:=A
 exact QZ a n c xs w i C q h1 hn
theorem QX (a:Option Addr) (n c:Nat) (xs:List Value) (w:World) (M:aJ w.heap a xs) (ae:xs.length=n*7) (V:a=none→n=0) (h1:xs.all gB=true) (hn:n≤1048576):
 bm ay 52 (bf [.slice a n c]) w (fun ai w'=>bq w' w.heap.size 77 7 ai n xs∧Wk w w'):=by
 refine enter func52 aa ntmps52 aa<|ag fun E=>aw<|E<|aB fun G=>ag fun I=>ak (.slice a n c)<|p (sW vL aa aa)<|nl<|I<|cb aa (fun A=> ?_) fun A=> ?_
 have Y:a=none:=by simpa using A
 refine ag fun i=>aw<|i<|rt<|tr<|aV aa ?_
 have Z:=V Y
 subst Z
 obtain rfl :=fW (show xs.length=0 by omega)
 exact ⟨dz _ _ _ _,Md.refl _ _⟩
 refine aM<|G<|ag fun i=>e<|m4 yX fun am ar an q J=> ?_
 have C:=J w.heap.size ab
 refine ak (.slice a n c)<|e<|ap yX (C) aa (by have :=q.size; omega) aa (M.wk q.md) (ae) (h1) ab ab fun aj al ac U aq ao=> ?_
 have O:=Wk.own q.md C U<|cA _
 refine aw<|i<|rt<|aV aa ?_
 have ah:bq al w.heap.size 77 7 aj n xs:=by simpa using ac
 exact ⟨ah,O⟩
theorem QW (v:Value) (n:Nat) (xs:List Value) (w:World) (A:Rd w.heap v n 7 xs) (h1:xs.all gB=true) (hn:n≤1048576):bm ay 52 [v].toArray w (fun v w'=>bq w' w.heap.size 77 7 v n xs∧Wk w w'):=by
 obtain ⟨a,c,rfl,i,C,q⟩:=A
 exact QX a n c xs w i C q h1 hn
theorem QT (a:Option Addr) (n c:Nat) (xs:List Value) (w:World) (M:aJ w.heap a xs) (ae:xs.length=n*2) (V:a=none→n=0) (h1:xs.all gB=true) (hn:n≤1048576):
 bm ay 90 (bf [.slice a n c]) w (fun ai w'=>bq w' w.heap.size 72 2 ai n xs∧Wk w w'):=by
 refine enter func90 aa ntmps90 aa<|ag fun E=>aw<|E<|aB fun G=>ag fun I=>ak (.slice a n c)<|p (sW vN aa aa)<|nl<|I<|cb aa (fun A=> ?_) fun A=> ?_
 have Y:a=none:=by simpa using A
 refine ag fun i=>aw<|i<|rt<|tr<|aV aa ?_
 have Z:=V Y
 subst Z
 obtain rfl :=fW (show xs.length=0 by omega)
 exact ⟨dz _ _ _ _,Md.refl _ _⟩
 refine aM<|G<|ag fun i=>e<|m4 yY fun am ar an q J=> ?_
 have C:=J w.heap.size ab
 refine ak (.slice a n c)<|e<|ap yY (C) aa (by have :=q.size; omega) aa (M.wk q.md) (ae) (h1) ab ab fun aj al ac U aq ao=> ?_
 have O:=Wk.own q.md C U<|cA _
 refine aw<|i<|rt<|aV aa ?_
 have ah:bq al w.heap.size 72 2 aj n xs:=by simpa using ac
 exact ⟨ah,O⟩
theorem QS (v:Value) (n:Nat) (xs:List Value) (w:World) (A:Rd w.heap v n 2 xs) (h1:xs.all gB=true) (hn:n≤1048576):bm ay 90 [v].toArray w (fun v w'=>bq w' w.heap.size 72 2 v n xs∧Wk w w'):=by
 obtain ⟨a,c,rfl,i,C,q⟩:=A
 exact QT a n c xs w i C q h1 hn
theorem zU (B fb mc:Nat) (F:aR) (V:e6) (w:World) (aK:dS w B fb mc F V) (dT:F.dd.length+F.aliases.length+F.bw.length+F.rules.length≤70000) (bV:Nx F):
 bm ay 20 (bf [aQ fb]) w (fun v w'=>(∃ bv,v= .agg (lL F bv).toArray∧ph w' w.heap.size F bv)∧Wk w w'):=by
 refine enter func20 aa ntmps20 aa<|ag fun cn=>e<|fk Ml fun bc ac dV bi bB=> ?_
 have dZ:=bi.size
 have am:=aK.wk bi.md
 refine nl<|cn<|aB fun cv=>ag fun cx=>ak (aQ fb)<|p (kT vM aa aa)<|nl<|cx<|cf (aa)<|aM<|cv<|ag fun cy=>ak (aQ fb)<|p (nc aa) ?_
 refine p (fa gG aa)<|p (da zY aa (aa) (show ∀ j,j < 13→Hb.aO ac.heap fb (0 +j)=(lL F V)[j]? from fun j aU=>(aX am.cells).trans<|by match j,aU with | 0,_=>rfl | 1,_=>rfl | 2,_=>rfl | 3,_=>rfl | 4,_=>rfl | 5,_=>rfl | 6,_=>rfl | 7,_=>rfl | 8,_=>rfl | 9,_=>rfl | 10,_=>rfl | 11,_=>rfl | 12,_=>rfl))<|e<|fk Ml fun Z E dW bM cL=> ?_
 have d2:=bM.size
 refine e<|gj A5 aa aa aa (Ot am) cL az fun a3 bL cM=> ?_
 have bD:Wk ac a3:=bM.md.trans' bL fun q a h=>by omega
 have d3:=bL.size
 have cV:=am.wk bD
 have aP:a3.heap[Z]? =some (.cells (lL F ⟨V.v9,V.v10,V.v11,V.v12,V.sa,V.rn⟩).toArray 58 (0,0)):=cM
 refine nl<|cy<|ag fun cz=>p (fa x9 aa)<|p (ld EZ aa<|(aX aP).trans aa)<|e<|cl Qc (QU V.v9 F.dd.length (kZ F.dd) a3 (Rd.jM cV.o9) (HS (fun _=>rfl) _) ab) aa fun U ch cX=> ?_
 obtain ⟨bZ,bd⟩:=cX
 have dY:=bd.size
 have b1:=ez bZ (show E.heap.size≤a3.heap.size by omega)
 refine p (fa x9 aa)<|e<|cw GQ aa aa (v:=U) (eU bZ) (bd.aH aP) (by show _ < 13; omega) fun a4 bh cN=> ?_
 have bF:Wk ac a4:=(bD.trans bd).trans' bh fun q a h=>by omega
 have d4:=bh.size
 have cW:=am.wk bF
 have b2:=dq b1 bh fun q a h=>by have :=(dM b1 a).1; omega
 have bR:a4.heap[Z]? =some (.cells (lL F ⟨U,V.v10,V.v11,V.v12,V.sa,V.rn⟩).toArray 58 (0,0)):=cN
 refine nl<|cz<|ag fun cA=>p (fa th aa)<|p (ld xf aa<|(aX bR).trans aa)<|e<|cl Qd (QQ V.v11 F.bw.length (m7 F.bw) a4 (Rd.jM cW.ep) (HS (fun _=>rfl) _) ab) aa fun v20 eb cY=> ?_
 obtain ⟨b4,aA⟩:=cY
 have d0:=aA.size
 have b5:=ez b4 (show E.heap.size≤a4.heap.size by omega)
 refine p (fa th aa)<|e<|cw GU aa aa (v:=v20) (eU b4) (aA.aH bR) (by show _ < 13; omega) fun a5 aN cO=> ?_
 have bH:Wk ac a5:=(bF.trans aA).trans' aN fun q a h=>by omega
 have d6:=aN.size
 have bJ:=am.wk bH
 have b3:=dq (aW b2 aA) aN fun q a h=>by have :=(dM (aW b2 aA) a).1; omega
 have b6:=dq b5 aN fun q a h=>by have :=(dM b5 a).1; omega
 have bS:a5.heap[Z]? =some (.cells (lL F ⟨U,V.v10,v20,V.v12,V.sa,V.rn⟩).toArray 58 (0,0)):=cO
 refine nl<|cA<|ag fun cD=>p (fa pK aa)<|p (ld rq aa<|(aX bS).trans aa)<|e<|cl Qe (QY V.v10 F.aliases.length V.sa a5 (Rd.jM bJ.eT) (z6 bJ.al) ab) aa fun v24 ec cZ=> ?_
 obtain ⟨b7,ao⟩:=cZ
 have d1:=ao.size
 have b8:=ez b7 (show E.heap.size≤a5.heap.size by omega)
 refine p (fa pK aa)<|e<|cw GR aa aa (v:=v24) (eU b7) (ao.aH bS) (by show _ < 13; omega) fun ck aD cP=> ?_
 have cU:Wk ac ck:=(bH.trans ao).trans' aD fun q a h=>by omega
 have d7:=aD.size
 have dr:=dq (aW b3 ao) aD fun q a h=>by have :=(dM (aW b3 ao) a).1; omega
 have dj:=dq (aW b6 ao) aD fun q a h=>by have :=(dM (aW b6 ao) a).1; omega
 have bW:=dq b8 aD fun q a h=>by have :=(dM b8 a).1; omega
 have bT:ck.heap[Z]? =some (.cells (lL F ⟨U,v24,v20,V.v12,V.sa,V.rn⟩).toArray 58 (0,0)):=cP
 obtain ⟨ae,ah,rfl⟩:=cB bW
 have dJ:=aK.al.1
 refine nl<|cD<|aB fun cE=>ag fun cF=>p (fa pK aa)<|p (ld rq aa<|(aX bT).trans aa)<|p (bK y9 aa aa)<|p mv<|nl<|cF<|aH<|lp (fun ax av G=> ∃ (i:Nat) (sa:List Value),(i≤F.aliases.length)∧(sa.length=F.aliases.length)∧(sa.drop i=V.sa.drop i)∧(eu G E.heap.size 51 (sa.take i)<|F.aliases.take i)∧(bq G E.heap.size 70 1 (.slice ae F.aliases.length ah) F.aliases.length<|sa)∧(bq G E.heap.size 128 2 (U) F.dd.length<|kZ F.dd)∧(bq G E.heap.size 131 5 (v20) F.bw.length<|m7 F.bw)∧(G.heap[Z]? =some (.cells (lL F ⟨U,.slice ae F.aliases.length ah,v20,V.v12,V.sa,V.rn⟩).toArray 58 (0,0)))∧(Wk ac G)∧(E.heap.size≤G.heap.size)∧(av 2=aQ bc)∧(av 3=aQ Z)∧(av 27= .slice ae F.aliases.length ah)∧(av 28=au (F.aliases.length))∧(av 29=au i)∧(F.aliases.length - i=ax)) _ ⟨0,V.sa,ab,dJ,aa,(eu.nil _ _ _),bW,dr,dj,bT,cU,(ab),aa,aa,aa,aa,aa,aa⟩ ?_
 rintro ax av G ⟨i,sa,hi,aF,cc,bo,O,a1,aZ,aE,aI,d8,dx,dC,dy,dz,dA,rfl⟩
 refine fx 2 dx<|fx 3 dC<|fx 27 dy<|fx 28 dz<|fx 29 dA<|ag fun co=>p (lt aa aa)<|nl<|co<|aB fun cp=>cd aa (fun aP=> ?_) fun aP=> ?_
 refine aM<|cp<|aB fun a6=>aH<|aB fun a9=> ?_
 obtain ⟨ea,dK,bk⟩:=eu.get (am.wk aI).al (show i < F.aliases.length by omega)
 obtain ⟨cG,ci,rfl⟩:=bk.slice
 refine rg aa<|ak (au i)<|p (a8 Bl aa aa ab<|aJ.ok ((a7 O).2) fun h=>by rw [h] at aF; simp at aF; omega)<|p (ld mZ aa<|aJ.gK (a7 O).2<|(Be cc).trans dK)<|p (cJ (au i) aa)<|aw<|a9 ?_
 have an:(fun w'=>Wk G w') G.drew:=(Md.refl _ _).drew
 refine eS (fun w'=>Wk G w') 6 aa wide an<|lq 0 aa aj (fun _ _=>fa pK aa) an<|lq 1 aa aj (fun w' ar=>ld rq aa<|Wk.aO ar<|(aX aE).trans aa) an<|lq 2 aa aj (fun _ _=>aT (au i) aa) an<|lq 3 aa aj (fun _ _=>mv) an<|gP 4 aa aj<|cl rA (sP cG (F.aliases.getD i []).length ci ((F.aliases.getD i []).map bg) G.drew (aJ.wk bk.cI.2 an) (by simp) (fun h=>Tg.tt bk (by simp) h) (sH _)<|by have :=bV.1 _ (dU (d:= []) (show i < F.aliases.length by omega)); omega) aa fun dO cj c0=> ?_
 obtain ⟨br,bE⟩:=c0
 have I:Wk G cj:=an.trans bE
 have c3:=I
 have bN:(fun w'=>Wk G w') cj:=an.trans bE
 refine ⟨bN,?_⟩
 refine lq 5 aa aj (fun _ _=>a8 Bl aa aa ab<|aJ.ok ((a7 O).2) fun h=>by rw [h] at aF; simp at aF; omega) bN<|dH 6 aa aj aj<|tC (j:=i) (aW O I) sS aa aa (eU br) (by simp) ab fun dQ ap de=> ?_
 have cQ:Wk ac dQ:=Wk.own (aI.trans I) (aW O I) ap ab
 have dl:=dq (ez br (show E.heap.size≤G.heap.size by omega)) ap fun q a=>mG br (aW O I) az a
 have c5:=(bo.wk I).md ap<|il (aW O I) az
 have dn:=dq (aW a1 I) ap fun q a=>mG (aW a1 I) (aW O I) az a
 have dh:=dq (aW aZ I) ap fun q a=>mG (aW aZ I) (aW O I) az a
 have c9:=ap.aH (Wk.aH I aE) fun h=>by have :=(dM (aW O I) h).1; omega
 exact eR aj<|bn<|a6<|rg aa<|p (ad aa aa<|bX ab)<|p mv<|nl<|tn<|⟨_,ab,i+1,sa.set i dO,ab,(by rw [wy]; exact aF),(set_drop cc),(E9 c5 ab ab<|Tg.jM dl),de,dn,dh,c9,cQ,(by have :=c3.size; have :=ap.size; omega),aa,aa,aa,aa,aa,aa⟩
 refine ext<|ba<|ba<|be<|cE<|ag fun a6=>p (fa nP aa)<|p (ld lX aa<|(aX aE).trans aa)<|e<|cl Qf (QW V.v12 F.rules.length (iS<|F.rules.zip V.rn) G (Rd.jM (am.wk aI).dB) (Xx aK.nx) ab) aa fun ce ed c1=> ?_
 obtain ⟨b9,Y⟩:=c1
 have d5:=Y.size
 have ca:=ez b9 (show E.heap.size≤G.heap.size by omega)
 rw [eM ab,eM ab] at bo
 refine p (fa nP aa)<|e<|cw GV aa aa (v:=ce) (eU b9) (Wk.aH Y aE) (by show _ < 13; omega) fun cg aq cH=> ?_
 have cS:Wk ac cg:=(aI.trans Y).trans' aq fun q a h=>by omega
 have dX:=aq.size
 have ds:=dq (aW a1 Y) aq fun q a h=>by have :=(dM (aW a1 Y) a).1; omega
 have dg:=dq (aW O Y) aq fun q a h=>by have :=(dM (aW O Y) a).1; omega
 have dk:=dq (aW aZ Y) aq fun q a h=>by have :=(dM (aW aZ Y) a).1; omega
 have bY:=dq ca aq fun q a h=>by have :=(dM ca a).1; omega
 have c7:=(bo.wk Y).md aq<|fu (Wk.aH Y aE) az
 have bQ:cg.heap[Z]? =some (.cells (lL F ⟨U,.slice ae F.aliases.length ah,v20,ce,V.sa,V.rn⟩).toArray 58 (0,0)):=cH
 obtain ⟨a12,kz,rfl⟩:=cB bY
 have dv:V.rn.length=F.rules.length:=by have :=aK.nx.1; rwa [fM] at this
 refine nl<|a6<|aB fun a9=>ag fun cq=>p (fa nP aa)<|p (ld lX aa<|(aX bQ).trans aa)<|p (bK vL aa aa)<|p mv<|nl<|cq<|aH<|lp (fun ax aG C=> ∃ (i:Nat) (rn:List Value),(i≤F.rules.length)∧(rn.length=F.rules.length)∧(rn.drop i=V.rn.drop i)∧(eu C E.heap.size 51 (rn.take i)<|(F.rules.map (·.next)).take i)∧(bq C E.heap.size 77 7 (.slice a12 F.rules.length kz) F.rules.length<|iS<|F.rules.zip rn)∧(bq C E.heap.size 128 2 (U) F.dd.length<|kZ F.dd)∧(bq C E.heap.size 70 1 (.slice ae F.aliases.length ah) F.aliases.length<|sa)∧(eu C E.heap.size 51 sa F.aliases)∧(bq C E.heap.size 131 5 (v20) F.bw.length<|m7 F.bw)∧(C.heap[Z]? =some (.cells (lL F ⟨U,.slice ae F.aliases.length ah,v20,.slice a12 F.rules.length kz,V.sa,V.rn⟩).toArray 58 (0,0)))∧(Wk ac C)∧(E.heap.size≤C.heap.size)∧(aG 2=aQ bc)∧(aG 3=aQ Z)∧(aG 47=au (F.rules.length))∧(aG 48=au i)∧(F.rules.length - i=ax)) _ ⟨0,V.rn,ab,dv,aa,(eu.nil _ _ _),bY,ds,dg,c7,dk,bQ,cS,(ab),aa,aa,aa,aa,aa⟩ ?_
 rintro ax aG C ⟨i,rn,hi,dw,cb,bp,J,a2,aY,bP,a0,aS,aC,d9,dD,dE,dF,dG,rfl⟩
 refine fx 2 dD<|fx 3 dE<|fx 47 dF<|fx 48 dG<|ag fun cr=>p (lt aa aa)<|nl<|cr<|aB fun ct=>cd aa (fun c8=> ?_) fun c8=> ?_
 refine aM<|ct<|aB fun bb=>aH<|aB fun cu=> ?_
 obtain ⟨vn,dL,bl⟩:=eu.get (am.wk aC).nx (show i < (F.rules.map (·.next)).length by rw [fM]; omega)
 obtain ⟨bx,bA,rfl⟩:=bl.slice
 obtain ⟨q,bt⟩:∃ q,F.rules[i]? =some q:=⟨_,cC ab⟩
 have du:(F.rules.map (·.next)).getD i []=q.next:=by rw [cR,ir,bt]; rfl
 have dt:=bV.2 q<|iN bt
 rw [← du] at dt
 have bu:(F.rules.zip rn)[i]? =some (q,.slice bx ((F.rules.map (·.next)).getD i []).length bA):=jy.2 ⟨bt,(Be cb).trans dL⟩
 refine rg aa<|ak (au i)<|p (cJ (au i) aa)<|nl<|cu ?_
 have M:(fun w'=>Wk C w') C.drew:=(Md.refl _ _).drew
 refine eS (fun w'=>Wk C w') 12 aa wide M<|bz 0 aa (fun _=>fa nP aa) (fun _=>M)<|dI 1 aa (fun w' ar=>ld lX aa<|Wk.aO ar<|(aX aS).trans aa) M<|bC 2 aa (au i) M<|bz 3 aa (fun _=>fa nP aa) (fun _=>M)<|dI 4 aa (fun w' ar=>ld lX aa<|Wk.aO ar<|(aX aS).trans aa) M<|bC 5 aa (au i) M<|bz 6 aa (fun _=>a8 na aa aa ab<|aJ.ok ((a7 J).2)<|nY bu) (fun _=>M)<|bz 7 aa (fun _=>fa qw aa) (fun _=>M)<|dI 8 aa (fun w' ar=>ld mZ aa<|Wk.aO ar<|fG (f:=fz) (m:=7) (fun _=>rfl) (a7 J).2 bu 6 az) M<|gP 9 aa aj<|cl rA (sP bx ((F.rules.map (·.next)).getD i []).length bA (((F.rules.map (·.next)).getD i []).map bg) C.drew (aJ.wk bl.cI.2 M) (by simp) (fun h=>Tg.tt bl (by simp) h) (sH _) ab) aa fun dP cm c2=> ?_
 obtain ⟨bs,bI⟩:=c2
 have A:Wk C cm:=M.trans bI
 have c4:=A
 have bj:(fun w'=>Wk C w') cm:=M.trans bI
 refine ⟨bj,?_⟩
 refine bz 10 aa (fun _=>a8 na aa aa ab<|aJ.ok ((a7 J).2)<|nY bu) (fun _=>bj)<|bz 11 aa (fun _=>fa qw aa) (fun _=>bj)<|dH 12 aa aj aj<|tC (j:=i*7 +6) (aW J A) sS aa aa (eU bs) (by rw [Int.toNat_natCast]; omega) ab fun ch ai b0=> ?_
 rw [Xy ab ab] at b0
 have cT:Wk ac ch:=Wk.own (aC.trans A) (aW J A) ai ab
 have dm:=dq (ez bs (show E.heap.size≤C.heap.size by omega)) ai fun q a=>mG bs (aW J A) az a
 have dc:=(bp.wk A).md ai<|il (aW J A) az
 have c6:=(bP.wk A).md ai<|il (aW J A) az
 have dp:=dq (aW a2 A) ai fun q a=>mG (aW a2 A) (aW J A) az a
 have df:=dq (aW aY A) ai fun q a=>mG (aW aY A) (aW J A) az a
 have di:=dq (aW a0 A) ai fun q a=>mG (aW a0 A) (aW J A) az a
 have db:=ai.aH (Wk.aH A aS) fun h=>by have :=(dM (aW J A) h).1; omega
 exact eR aj<|bn<|bb<|rg aa<|p (ad aa aa<|bX ab)<|p mv<|nl<|tn<|⟨_,ab,i+1,rn.set i dP,ab,(by rw [wy]; exact dw),(set_drop cb),(E9 dc (by rw [fM]; omega) ab<|Tg.jM dm),b0,dp,df,c6,di,db,cT,(by have :=c4.size; have :=ai.size; omega),aa,aa,aa,aa,aa⟩
 refine ext<|ba<|ba<|be<|a9<|ag fun bb=>p (da zY aa (aa) (show ∀ j,j < 13→Hb.aO C.heap Z (0 +j)=(lL F ⟨U,.slice ae F.aliases.length ah,v20,.slice a12 F.rules.length kz,V.sa,V.rn⟩)[j]? from fun j aU=>(aX aS).trans<|by match j,aU with | 0,_=>rfl | 1,_=>rfl | 2,_=>rfl | 3,_=>rfl | 4,_=>rfl | 5,_=>rfl | 6,_=>rfl | 7,_=>rfl | 8,_=>rfl | 9,_=>rfl | 10,_=>rfl | 11,_=>rfl | 12,_=>rfl))<|e<|gj A5 aa aa aa (Ae (eU a2) (eU aY) (eU a0)<|eU J) (Wk.aH aC bB) az fun dR aL cK=>nl<|bb<|rt<|uK aa (dN (cs:=lL F ⟨U,.slice ae F.aliases.length ah,v20,.slice a12 F.rules.length kz,V.sa,V.rn⟩) aa zY aa fun j aU=>(bO.bG ⟨_,cK⟩ j).trans aa) ?_
 have aV:∀ {t s n:Nat} {v:Value} {xs:List Value},bq C E.heap.size t s v n xs→bq dR w.heap.size t s v n xs:=fun h=>ez (dq h aL fun q a h2=>by have :=(dM h a).1; omega) ab
 rw [eM ab,eM (by rw [fM]; omega)] at bp
 have bU:∀ k,k=bc→∀ cur z,C.heap[k]?≠some (.cells cur 51 z):=fu (Wk.aH aC bB) az
 exact ⟨⟨⟨U,.slice ae F.aliases.length ah,v20,.slice a12 F.rules.length kz,sa,rn⟩,aa,⟨aV a2,aV aY,(bP.md aL bU).mono ab,aV a0,aV J,(bp.md aL bU).mono ab⟩⟩,(bi.md.trans aC).trans' aL fun q a h=>by omega⟩
end Go.Hb.jF
section
namespace Go.Hb
open Go.Hb.nz Go.Hb.j9 Go.Hb.jF
noncomputable def lr (r:List Tx):Nat×Int:=if r.length≠1 then (0,111) else dZ (r.getD 0 []) 8192
def NP (i w':World) (X:Except Nat bD) (v:Value):Prop :=(∃ x a,X= .ok x∧v= .tuple #[.agg [str x.1,a].toArray,.int .i64 (0:Nat)]∧bq w' i.heap.size 51 1 a x.2.length (x.2.map bg))∨(∃ e,X= .error e∧e≠0∧v= .tuple #[.agg [str [],.slice none 0 0].toArray,.int .i64 (e:Nat)])
theorem JW {s:Tx} {i:Nat} (hi:i < s.length):(s.take<|i+1).drop i= [s.getD i 0]:=by
 rw [vD 0 (cA i) hi,gU (by rw [dR]; omega),List.nil_append]
theorem LS (b:UInt8):pW [b]=iP b:=by unfold pW; rw [OM]; cases iP b <;> rfl
theorem G2 {F:aR} {x:Nat} (h:(dW F.bw x).isSome=true∨x∈F.sp):eG F x=true :=by
 unfold eG; rcases h with h | h
 · rw [h,Bool.or_true]
 · rw [decide_eq_true h]; rfl
theorem RX {F:aR} {x:Nat} (h:(dW F.bw x).isSome=false) (h1:x∉F.sp):eG F x=false :=by
 unfold eG; rw [h,decide_eq_false h1]; rfl
theorem X7 {F:aR} (h:F.sp.length=5):[F.sp.getD 0 0,F.sp.getD 1 0,F.sp.getD 2 0,F.sp.getD 3 0,F.sp.getD 4 0]=F.sp:=by
 match F.sp,h with
 | [a,b,c,d,e],_=>rfl
theorem UG (a:Option Addr) (c:Nat) (l:List Nat) (x:Nat) (w:World) (E:aJ w.heap a (l.map bg)) (ap:l.length≤1048576):
 bm ay 206 (bf [.slice a l.length c,bg x]) w (fun v w'=>(∃ k:Int,v= .int .i64 k∧(0≤k↔x∈l)∧ -1≤k∧k≤1048576)∧Wk w w'):=by
 refine enter func206 aa ntmps206 aa<|ag fun O=>aw<|O<|aB fun U=>ag fun V=>ak (.slice a l.length c)<|p (bK oR aa aa)<|p mv<|nl<|V<|aH<|lp (fun C q M=> ∃ (i:Nat),(i≤l.length)∧(∀ j,j < i→l.getD j 0≠x)∧(M=w)∧(q 0= .slice a l.length c)∧(q 1=bg x)∧(q 7=au (l.length))∧(q 8=au i)∧(l.length - i=C)) _ ⟨0,ab,(fun j I=>by omega),aa,aa,aa,aa,aa,aa⟩ ?_
 rintro C q M ⟨i,hi,J,ai,al,am,an,ao,rfl⟩
 refine fx 0 al<|fx 1 am<|fx 7 an<|fx 8 ao ?_
 subst ai
 refine ag fun Y=>p (lt aa aa)<|nl<|Y<|aB fun Z=>cd aa (fun aj=> ?_) fun aj=> ?_
 refine aM<|Z<|aB fun A=>aH<|ag fun ac=>ak (au i)<|p (cJ (au i) aa)<|nl<|ac<|ag fun ae=>ak (bg x)<|ak (.slice a l.length c)<|ak (au i)<|p (a8 bY aa aa ab<|aJ.ok (E)<|bS ab)<|p (ld cV aa<|aJ.gK E (show (l.map bg)[i]? =some (bg<|l.getD i 0) by rw [ir,cR,cC (by omega :i < l.length)]; rfl)) ?_
 refine p (bJ aa aa)<|nl<|ae<|cd aa (fun G=> ?_) fun G=> ?_
 exact ag fun ah=>ak (au i)<|p (cJ (au i) aa)<|nl<|ah<|rt<|br<|tr<|tr<|br<|tr<|aV aa<|⟨⟨(i:Nat),aa,⟨fun _=>by obtain rfl :x=l.getD i 0:=ab; exact dU ab,fun _=>by omega⟩,ab,ab⟩,Md.refl _ _⟩
 exact aM<|bn<|A<|rg aa<|p (ad aa aa<|bX ab)<|p mv<|nl<|tn<|⟨_,ab,i+1,ab,(fun j I=>by rcases fi j i with h | h <;> first | exact J j h | (rw [show j=i by omega]; exact fun h2=>G<|by rw [h2])),aa,aa,aa,aa,aa,aa⟩
 exact ext<|ba<|ba<|be<|U<|ag fun A=>p aA<|nl<|A<|rt<|aV aa<|⟨⟨-1,aa,⟨fun h=>absurd h ab,fun h=>by obtain ⟨j,I,e⟩:=nU 0 h; exact absurd e<|J j ab⟩,ab,ab⟩,Md.refl _ _⟩
theorem Rq (a:Option Addr) (c:Nat) (l:List Nat) (x:Nat) (w:World) (A:aJ w.heap a (l.map bg)) (G:l.length≤1048576):
 bm ay 142 (bf [.slice a l.length c,bg x]) w (fun v w'=>v= .bool (decide (x∈l))∧Wk w w'):=by
 refine enter func142 aa ntmps142 aa<|ag fun i=>aw<|i<|ag fun q=>ak (.slice a l.length c)<|ak (bg x)<|e<|cl Po (UG a c l x w A G) aa fun M O C=> ?_
 obtain ⟨⟨I,rfl,E,J⟩,hE7⟩:=C
 exact p (ge aa aa)<|aw<|q<|rt<|aV aa<|⟨by show bQ (decide (I≥0))=_; exact congrArg bQ (decide_eq_decide.2 E),hE7⟩
theorem sT (ln er:Int) (w:World):
 bm ay 87 (bf [.int .i64 ln,.int .i64 er]) w (fun v w'=>v= .agg [.int .i64 2,.int .i64 ln,.int .i64 er].toArray∧Wk w w'):=by
 exact enter func87 aa ntmps87 aa<|ag fun a=>e<|al p4 fun I U J G C=>nl<|a<|ag fun i=>ak (.int .i64 ln)<|ak (.int .i64 er)<|p (cQ (ps:= [(0,.int .i64 2),(1,.int .i64 ln),(2,.int .i64 er)]) (L:= [.int .i64 2,.int .i64 ln,.int .i64 er]) tB aa<|aa)<|e<|cW jT aa aa aa aa (C) (by simp) fun V E A=>nl<|i<|rt<|uK aa (dN (cs:= [.int .i64 2,.int .i64 ln,.int .i64 er]) aa lj aa fun j M=>A.bG j)<|⟨aa,G.md.trans' E fun q O h=>by omega⟩
theorem Sf (n:Nat) (r:List Tx) (B:Nat) (a:Option Addr) (c:Nat) (w:World) (U:Tg w B 9 r.length (.slice a r.length c) (r.map str)) (Y:∀ x∈r,x.length≤70000) (ah:r.length≤70000):
 bm ay 88 (bf [.agg [au n,.slice a r.length c].toArray]) w (fun v w'=>v= .tuple #[au ((lr r).1),.int .i64 (lr r).2]∧Wk w w'):=by
 refine enter func88 aa ntmps88 aa<|ag fun G=>e<|jt aa fun ac Z ae A C=> ?_
 have E:=U.wk A.md
 refine p aA<|aw<|G<|aB fun I=>ag fun J=>p (fa uW aa)<|p (ld jR aa<|(C.aO 1).trans aa)<|p (bK eV aa aa)<|p (db aa aa)<|nl<|J<|cd aa (fun V=> ?_) fun V=> ?_
 refine ag fun q=>p aA<|aw<|q<|rt<|tr<|f2 aa aa aa ?_
 have h1:r.length≠1:=ab
 exact ⟨by unfold lr; rw [if_pos h1]; rfl,A.md⟩
 refine aM<|I<|ag fun q=>p (fa uW aa)<|p (ld jR aa<|(C.aO 1).trans aa)<|p (a8 cH aa aa ab<|aJ.ok (E.cI.2)<|bS ab)<|p (ld bT aa<|ca.get (i:=0) E.cI.2 ab)<|e<|cl xn (yC (r.getD 0 []) 8192 Z (by have :=Y _ (dU (d:= []) (show 0 < r.length by omega)); omega) ab) aa fun v12 ai O=> ?_
 obtain ⟨rfl,M⟩:=O
 refine p (xt aa aa)<|p (xt aa aa)<|p aA<|aw<|q<|rt<|f2 aa aa aa ?_
 have h1:¬r.length≠1:=ab
 exact ⟨by unfold lr; rw [if_neg h1]; rfl,A.md.trans M⟩
theorem R9 (B fb mc:Nat) (F:aR) (V:e6) (n:Nat) (r:List Tx) (bC:Nat) (ar:Option Addr) (cr:Nat) (w:World) (a0:dS w B fb mc F V) (cc:∃ seen,kM F [] seen) (cy:Tg w bC 9 r.length (.slice ar r.length cr) (r.map str)) (cP:∀ x∈r,x.length≤70000) (dn:r.length≤70000):
 bm ay 89 (bf [aQ fb,.agg [bg (F.sp.getD 0 0),bg (F.sp.getD 1 0),bg (F.sp.getD 2 0),bg (F.sp.getD 3 0),bg (F.sp.getD 4 0)].toArray,.agg [au n,.slice ar r.length cr].toArray]) w (fun v w'=>NP w w' (ga F r) v∧Wk w w'):=by
 obtain ⟨seen,aD⟩:=cc
 have dm:=aD.len
 have ds:=r4<|r.getD 0 []
 refine enter func89 aa ntmps89 aa<|ag fun bD=>e<|jt aa fun aV dF dj bo b7=>e<|jt aa fun df dH dk a1 b8=>e<|al qU fun bh bx dl aK bi=> ?_
 have aF:Wk w bx:=bo.md.trans<|a1.md.trans aK.md
 have cO:=aK.md.B<|a1.md.B b7
 have bw:=aK.md.B b8
 have bs:=cy.wk aF
 have cg:=a0.wk aF
 have dv:=bo.size
 have dw:=a1.size
 have dx:=aK.size
 refine aw<|bD<|aB fun bJ=>ag fun bQ=>p (fa uW aa)<|p (ld jR aa<|(bw.aO 1).trans aa)<|p (bK eV aa aa)<|p (db aa aa)<|nl<|bQ<|cd aa (fun cA=> ?_) fun cA=> ?_
 exact ag fun aT=>p (cQ (ps:= []) (L:= [.string ⟨⟨[]⟩⟩,.slice none 0 0]) nZ aa<|aa)<|e<|cW kB aa aa aa aa (bi) (by simp) fun dW cp b6=>aw<|aT<|rt<|tr<|ew aa (dN (cs:= [str [],.slice none 0 0]) aa lK aa fun j E=>b6.bG j) eb<|⟨.inr ⟨111,Hf ab,az,aa⟩,aF.trans' cp fun q A h=>by omega⟩
 have M:r.length=1:=ab
 have dp:(r.getD 0 []).length≤70000:=cP _<|dU ab
 refine aM<|bJ<|ag fun aT=>p (fa uW aa)<|p (ld jR aa<|(bw.aO 1).trans aa)<|p (a8 cH aa aa ab<|aJ.ok (bs.cI.2)<|bS ab)<|p (ld bT aa<|ca.get (i:=0) bs.cI.2 ab)<|e<|cl Aq (DT (r.getD 0 []) bx ab) aa fun v28 dc ct=> ?_
 obtain ⟨rfl,an⟩:=ct
 have ac:=aF.trans an
 have ae:=an.B bi
 have du:=an.size
 refine p mv<|p (xt aa aa)<|p (xt aa aa)<|p (xt aa aa)<|p (xt aa aa)<|p aA<|p aA<|p aA<|aw<|aT<|aB fun bR=>ag fun bU=>p mv<|p (db aa aa)<|nl<|bU<|cd aa (fun cD=> ?_) fun cD=> ?_
 exact ag fun aU=>p (cQ (ps:= []) (L:= [.string ⟨⟨[]⟩⟩,.slice none 0 0]) nZ aa<|aa)<|p mv<|e<|cW kB aa aa aa aa (ae) (by simp) fun dY cq b9=>aw<|aU<|rt<|tr<|ew aa (dN (cs:= [str [],.slice none 0 0]) aa lK aa fun j E=>b9.bG j) eb<|⟨.inr ⟨_,xJ M ab,ab,aa⟩,ac.trans' cq fun q A h=>by omega⟩
 have Z:(bA<|r.getD 0 []).2.2.2=0:=ab
 refine aM<|bR<|aB fun aU=>ag fun bV=>p mv<|p (cz u9 aa aa)<|p mv<|nl<|bV<|aH<|lp (fun aj G ax=> ∃ (i:Nat),(i≤(bA<|r.getD 0 []).1.length)∧(∀ j,j < i→iP ((bA<|r.getD 0 []).1.getD j 0)=true)∧(Wk dc ax)∧(G 0=aQ fb)∧(G 4=aQ aV)∧(G 6=aQ bh)∧(G 8=str (bA<|r.getD 0 []).1)∧(G 9=str (bA<|r.getD 0 []).2.1)∧(G 10= .bool (bA<|r.getD 0 []).2.2.1)∧(G 38=au ((bA<|r.getD 0 []).1.length))∧(G 39=au i)∧((bA<|r.getD 0 []).1.length - i=aj)) _ ⟨0,ab,(fun j E=>by omega),(Md.refl _ _),aa,aa,aa,aa,aa,aa,aa,aa,aa⟩ ?_
 rintro aj G ax ⟨i,hi,bu,C,cS,cY,cZ,c0,c1,cT,cU,cX,rfl⟩
 refine fx 0 cS<|fx 4 cY<|fx 6 cZ<|fx 8 c0<|fx 9 c1<|fx 10 cT<|fx 38 cU<|fx 39 cX<|ag fun bW=>p (lt aa aa)<|nl<|bW<|aB fun bE=>cd aa (fun cE=> ?_) fun cE=> ?_
 refine aM<|bE<|aB fun aL=>aH<|ag fun aN=>ak (au i)<|p (cJ (au i) aa)<|nl<|aN<|ag fun ah=>ak (str (bA<|r.getD 0 []).1)<|ak (au i)<|ak (au i)<|p (ad aa aa<|bX ab)<|p (me u9 aa aa aa ab)<|e<|cl FC (LU (((bA<|r.getD 0 []).1.take<|i+1).drop i) ax<|by rw [JW ab]; simp) aa fun dB dG cu=> ?_
 obtain ⟨rfl,ce⟩:=cu
 have bv:=JW (s:=(bA<|r.getD 0 []).1) (i:=i) ab
 have aX:=C.trans ce
 refine p (no aa)<|nl<|ah<|cb aa (fun a4=> ?_) fun a4=> ?_
 have a9:iP ((bA<|r.getD 0 []).1.getD i 0)=false :=by rw [← LS,← bv]; simpa using a4
 exact ag fun ai=>p (cQ (ps:= []) (L:= [.string ⟨⟨[]⟩⟩,.slice none 0 0]) nZ aa<|aa)<|e<|cW kB aa aa aa aa (Wk.B aX ae) (by simp) fun dK ch bY=>aw<|ai<|rt<|br<|tr<|tr<|br<|tr<|ew aa (dN (cs:= [str [],.slice none 0 0]) aa lK aa fun j E=>bY.bG j) eb<|⟨.inr ⟨21,xK M Z (.inl<|sN ab a9),az,aa⟩,(ac.trans aX).trans' ch fun q A h=>by omega⟩
 have a9:iP ((bA<|r.getD 0 []).1.getD i 0)=true :=by rw [← LS,← bv]; simpa using a4
 exact aM<|bn<|aL<|rg aa<|p (ad aa aa<|bX ab)<|p mv<|nl<|tn<|⟨_,ab,i+1,ab,(fun j E=>by rcases fi j i with h | h <;> first | exact bu j h | (rw [show j=i by omega]; exact a9)),aX,aa,aa,aa,aa,aa,aa,aa,aa,aa⟩
 refine ext<|ba<|ba<|be<|aU<|aB fun aL=>aH<|aB fun aN=>rg aa<|ak (str (bA<|r.getD 0 []).1)<|p (dV aa aa)<|aw<|aN<|cd aa (fun Y=> ?_) fun Y=> ?_
 exact ag fun ah=>p (cQ (ps:= []) (L:= [.string ⟨⟨[]⟩⟩,.slice none 0 0]) nZ aa<|aa)<|e<|cW kB aa aa aa aa (Wk.B C ae) (by simp) fun dL ci bZ=>aw<|ah<|rt<|br<|tr<|ew aa (dN (cs:= [str [],.slice none 0 0]) aa lK aa fun j E=>bZ.bG j) eb<|⟨.inr ⟨21,xK M Z (.inr Y),az,aa⟩,(ac.trans C).trans' ci fun q A h=>by omega⟩
 have ao:=uA (w:=(bA<|r.getD 0 []).1) fun j E=>bu j ab
 refine ag fun ah=>ak (str (bA<|r.getD 0 []).1)<|p (cz u9 aa aa)<|p (gt aa aa)<|aw<|ah<|cd aa (fun cF=> ?_) fun cF=> ?_
 exact ag fun ai=>p (cQ (ps:= []) (L:= [.string ⟨⟨[]⟩⟩,.slice none 0 0]) nZ aa<|aa)<|e<|cW kB aa aa aa aa (Wk.B C ae) (by simp) fun dO cj b0=>aw<|ai<|rt<|br<|tr<|ew aa (dN (cs:= [str [],.slice none 0 0]) aa lK aa fun j E=>b0.bG j) eb<|⟨.inr ⟨22,Hg M Z ao Y ab,az,aa⟩,(ac.trans C).trans' cj fun q A h=>by omega⟩
 refine ag fun ai=>ak (.bool (bA<|r.getD 0 []).2.2.1)<|p (no aa)<|aw<|ai<|cb aa (fun ap=> ?_) fun ap=> ?_
 exact ag fun aP=>ak (str (bA<|r.getD 0 []).1)<|p (cQ (ps:= [(0,str (bA<|r.getD 0 []).1)]) (L:= [str (bA<|r.getD 0 []).1,.slice none 0 0]) nZ aa<|aa)<|e<|cW kB aa aa aa aa (Wk.B C ae) (by simp) fun dP ck b2=>aw<|aP<|rt<|br<|tr<|ew aa (dN (cs:= [str (bA<|r.getD 0 []).1,.slice none 0 0]) aa lK aa fun j E=>b2.bG j) eb<|⟨.inl ⟨_,.slice none 0 0,Hh M Z ao Y ab (by simpa using ap),aa,dz _ _ _ _⟩,(ac.trans C).trans' ck fun q A h=>by omega⟩
 refine aM<|bn<|aL<|ag fun aP=>ak (aQ fb)<|ak (str (bA<|r.getD 0 []).2.1)<|e<|cl FD (Hv B fb mc F V (bA<|r.getD 0 []).2.1 ax (cg.wk<|an.trans C) aD.kd aD.al ab ab) aa fun da bb cv=> ?_
 obtain ⟨cL,aY⟩:=cv
 have aG:=ac.trans<|C.trans aY
 have a3:=Wk.B (C.trans aY) ae
 obtain ⟨dd,dg,rfl,bt⟩:∃ a,∃ e:Nat,da= .tuple #[a,au e]∧((e=0∧∃ l,fV F.kind F.aliases (bA<|r.getD 0 []).2.1= .ok l∧bq bb ax.heap.size 51 1 a l.length (l.map bg))∨(e≠0∧fV F.kind F.aliases (bA<|r.getD 0 []).2.1= .error e)):=by
  rcases cL with ⟨a,l,h1,h2,h3⟩ | ⟨a,e,h1,h2,h3⟩
  exact ⟨a,0,h1,.inl ⟨aa,l,h2,h3⟩⟩
  exact ⟨a,e,h1,.inr ⟨h2,h3⟩⟩
 refine p mv<|p (xt aa aa)<|p (xt aa aa)<|p aA<|aw<|aP<|aB fun bF=>ag fun bH=>p mv<|p (db aa aa)<|nl<|bH<|cd aa (fun cG=> ?_) fun cG=> ?_
 obtain ⟨cN,aq⟩:=bt.resolve_left fun h=>by omega
 exact ag fun aS=>p (cQ (ps:= []) (L:= [.string ⟨⟨[]⟩⟩,.slice none 0 0]) nZ aa<|aa)<|p mv<|e<|cW kB aa aa aa aa (a3) (by simp) fun dQ cm b3=>aw<|aS<|rt<|tr<|ew aa (dN (cs:= [str [],.slice none 0 0]) aa lK aa fun j E=>b3.bG j) eb<|⟨.inr ⟨_,Hi M Z ao Y ab (by simpa using ap) aq,cN,aa⟩,aG.trans' cm fun q A h=>by omega⟩
 obtain ⟨_,set,aq,av⟩:=bt.resolve_right fun h=>by omega
 obtain ⟨O,U,rfl⟩:=cB av
 have dr:=xV (fun l cM=>(aD.al l cM).1) aq
 refine aM<|bF<|aB fun aS=>ag fun bI=>p mv<|p (bK LI aa aa)<|p mv<|nl<|bI<|aH<|lp (fun aj I bc=> ∃ (j:Nat),(j≤set.length)∧(∀ q,q < j→eG F (set.getD q 0)=true)∧(Wk bb bc)∧(I 0=aQ fb)∧(I 4=aQ aV)∧(I 6=aQ bh)∧(I 8=str (bA<|r.getD 0 []).1)∧(I 13= .slice O set.length U)∧(I 75= .slice O set.length U)∧(I 76=au (set.length))∧(I 77=au j)∧(set.length - j=aj)) _ ⟨0,ab,(fun q A=>by omega),(Md.refl _ _),aa,aa,aa,aa,aa,aa,aa,aa,aa⟩ ?_
 rintro aj I bc ⟨j,E,a2,J,c2,c4,c5,c9,c3,c6,c7,c8,rfl⟩
 refine fx 0 c2<|fx 4 c4<|fx 6 c5<|fx 8 c9<|fx 13 c3<|fx 75 c6<|fx 76 c7<|fx 77 c8<|ag fun bL=>p (lt aa aa)<|nl<|bL<|aB fun bM=>cd aa (fun cK=> ?_) fun cK=> ?_
 refine aM<|bM<|aB fun aC=>aH<|ag fun bN=>p (a8 Hl aa aa ab<|aJ.ok ((a7<|aW av J).2)<|bS ab)<|p (ld cV aa<|aJ.gK (a7<|aW av J).2 (show (set.map bg)[j]? =some (bg<|set.getD j 0) by rw [ir,cR,cC (by omega :j < set.length)]; rfl)) ?_
 refine aw<|bN<|ag fun bO=>ak (aQ fb)<|p mv<|e<|cl Ap (Bq B fb mc F V (set.getD j 0) bc (a0.wk<|aG.trans J) ab) aa fun dC dI cw=> ?_
 obtain ⟨rfl,bj⟩:=cw
 have dy:=bj.size
 have dA:=J.size
 refine p mv<|p (xt aa aa)<|p (xt aa aa)<|e<|al tP fun de dE di bl b1=>e<|cW rC aa aa aa aa (b1) (by simp) fun bz cn dh=> ?_
 have dt:=bl.size
 have am:Wk bb bz:=(J.trans<|bj.trans bl.md).trans' cn fun q A h=>by omega
 refine aw<|bO<|ag fun bd=>p mv<|p (no aa)<|p mv<|gb (t:=89) aa (fun a6=> ?_) fun a6=> ?_
 refine aI aa (Oq uy aa)<|aI aa mv<|eg aa aa aa<|cl O1 (Rq (some ⟨aV,0,none⟩) 5 [F.sp.getD 0 0,F.sp.getD 1 0,F.sp.getD 2 0,F.sp.getD 3 0,F.sp.getD 4 0] (set.getD j 0) bz (aJ.dX<|Wk.B ((an.trans<|C.trans aY).trans am) cO)<|by simp) aa fun dD dJ cx=> ?_
 obtain ⟨rfl,aZ⟩:=cx
 rw [X7 a0.fR] at*
 refine aI aa (no aa)<|p (bB aa)<|nl<|bd<|cb aa (fun a5=> ?_) fun a5=> ?_
 exact ag fun bP=>p (cQ (ps:= []) (L:= [.string ⟨⟨[]⟩⟩,.slice none 0 0]) nZ aa<|aa)<|e<|cW kB aa aa aa aa (Wk.B (am.trans aZ) a3) (by simp) fun dR co b4=>aw<|bP<|rt<|br<|tr<|tr<|br<|tr<|ew aa (dN (cs:= [str [],.slice none 0 0]) aa lK aa fun j E=>b4.bG j) eb<|⟨.inr ⟨120,Hj M Z ao Y ab (by simpa using ap) aq (i:=j) ab (RX (by simpa using a6)<|by simpa using a5),az,aa⟩,(aG.trans<|am.trans aZ).trans' co fun q A h=>by omega⟩
 exact aM<|bn<|aC<|rg aa<|p (ad aa aa<|bX ab)<|p mv<|nl<|tn<|⟨_,ab,j+1,ab,(fun q A=>by rcases fi q j with h | h <;> first | exact a2 q h | (rw [show q=j by omega]; exact G2<|.inr<|by simpa using a5)),(am.trans aZ),aa,aa,aa,aa,aa,aa,aa,aa,aa⟩
 exact aE aa<|aE aa<|aE aa<|aE aa<|p (bp aa)<|nl<|bd<|cf aa<|aM<|bn<|aC<|rg aa<|p (ad aa aa<|bX ab)<|p mv<|nl<|tn<|⟨_,ab,j+1,ab,(fun q A=>by rcases fi q j with h | h <;> first | exact a2 q h | (rw [show q=j by omega]; exact G2<|.inl<|by simpa using a6)),am,aa,aa,aa,aa,aa,aa,aa,aa,aa⟩
 exact ext<|ba<|ba<|be<|aS<|ag fun aC=>ak (str (bA<|r.getD 0 []).1)<|ak (.slice O set.length U)<|p (cQ (ps:= [(0,str (bA<|r.getD 0 []).1),(1,.slice O set.length U)]) (L:= [str (bA<|r.getD 0 []).1,.slice O set.length U]) nZ aa<|aa)<|e<|cW kB aa aa aa aa (Wk.B J a3) (by simp) fun dT bk b5=>aw<|aC<|rt<|ew aa (dN (cs:= [str (bA<|r.getD 0 []).1,.slice O set.length U]) aa lK aa fun j E=>b5.bG j) eb<|⟨.inl ⟨((bA<|r.getD 0 []).1,set),.slice O set.length U,Bj M Z ao Y ab (by simpa using ap) aq (fun j E=>a2 j ab),aa,ez (dq (aW av J) bk fun q A h=>by have :=(dM av A).1; have :=C.size; omega)<|by have :=C.size; omega⟩,(aG.trans J).trans' bk fun q A h=>by omega⟩
end Go.Hb
end
