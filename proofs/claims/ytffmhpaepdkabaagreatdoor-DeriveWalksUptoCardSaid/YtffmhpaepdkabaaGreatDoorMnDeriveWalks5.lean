/-
  Walks and plain laws that the law rests on, laid together. No conditions but those that each theorem names.
-/
import Derived.Test.YtffmhpaepdkabaaGreatDoorMnDeriveWalks4
set_option linter.unusedVariables false
set_option maxRecDepth 20000
set_option maxHeartbeats 1000000
open Array renaming getElem?_eq_some_iff→dB
open Bool renaming or_eq_false_iff→nA
open Classical renaming not_not→jr
open Except.ok renaming injEq→sg
open Go.Proofs.Tryz renaming prog→aw
open Go.Value renaming agg→bO,bool→bU,int→jk,oneCell'→gF,tuple→gD
open Go.World renaming ownsRow→bw,ownsRow_nil→dC
open List renaming all_eq_true→ml,append_assoc→dH,append_nil→ei,count_eq_zero→q9,count_le_length→ui,drop_eq_nil_of_le→gV,eq_nil_of_length_eq_zero→fY,ext_getElem?→qa,find?_cons→NB,find?_eq_none→EC,findIdx?_eq_none_iff→NC,getD_eq_getElem?_getD→da,getElem?_append_left→mm,getElem?_append_right→mV,getElem?_cons_zero→uj,getElem?_eq_getElem→cI,getElem?_eq_some_iff→fS,getElem?_map→iq,getElem?_of_mem→wS,getElem?_set→k5,getElem?_zip_eq_some→jz,length→jD,length_append→bM,length_cons→c7,length_map→fM,length_nil→fU,length_pos_iff→lF,length_set→wW,length_singleton→e9,length_take→dQ,length_zip→zT,map_append→ir,mem_append→jF,mem_cons→e7,mem_of_getElem?→iR,not_mem_nil→uu,take_of_length_le→eU,toArray→bh
open Nat renaming le_refl→cD,le_trans→gk,lt_or_ge→fu,zero_add→gW
open Option renaming getD_some→zZ,isSome_iff_exists→ph
open Prod renaming snd→nD
open Go.Proofs.Tryz
open Go.Hb.ea Go.Proofs Go.Hb.fw Go.Hb.gl Go.Hb.lU Go.Hb.iw Go.Hb.j8

section
namespace Go.Hb.nE
open Go.Hb.ox
structure oy (w:World) (B fb:Nat) (mc:Nat) (F:aU) (V:ff):Prop where
 cells:w.heap[fb]? =some (.cells (oI F V mc).toArray 125 (0,0))
 o9:bw w B 128 2 V.v9 F.dt.length (kZ F.dt)
 eY:bw w B 70 1 V.v10 F.aliases.length V.sa
 al:eB w B 51 V.sa F.aliases
 ez:bw w B 131 5 V.v11 F.bA.length (m9 F.bA)
 dK:bw w B 77 7 V.v12 F.rules.length (iV<|F.rules.zip V.rn)
 nx:eB w B 51 V.rn (F.rules.map (·.next))
 lo:B≤fb∧B≤mc
 fR:F.sp.length=5
theorem oy.md {G:Nat→Prop} {w w':World} {B fb mc:Nat} {F:aU} {V:ff} (h:oy w B fb mc F V) (hm:Md G w w') {L:List Nat} (a:TF w L G) (i:(L.contains 127 || L.contains 130 || L.contains 72 || L.contains 53 || L.contains 133 || L.contains 79)=false):oy w' B fb mc F V:=by
 simp only [nA] at i
 obtain ⟨⟨⟨⟨⟨h1,h2⟩,h3⟩,h4⟩,h5⟩,h6⟩:=i
 have q:∀ k,G k→∀ cur z,w.heap[k]?≠some (.cells cur 51 z):=fun k hk cur z A=>a.no (dA A) h4 hk
 exact ⟨hm.ic a h.cells h1,cx h.o9 hm a h2,cx h.eY hm a h3,h.al.md hm q,cx h.ez hm a h5,cx h.dK hm a h6,h.nx.md hm q,h.lo,h.fR⟩
theorem oy.wk {w w':World} {B fb mc:Nat} {F:aU} {V:ff} (h:oy w B fb mc F V) (hm:Wk w w'):oy w' B fb mc F V:=h.md (L:= []) hm (fun _ hk=>hk.elim) rfl
theorem Tk {w:World} {B fb mc:Nat} {F:aU} {V:ff} (h:dX w B fb mc F V):oy w B fb mc F V:=⟨h.cells,h.o9,h.eY,h.al,h.ez,h.dK,h.nx,h.lo,h.fR⟩
theorem oy.Aj {w C I:World} {B fb mc:Nat} {F:aU} {V:ff} {v:Value} {x:dm} {f:Value→Option Value} (h:oy w B fb mc F V) (A:dy w.heap mc (pO .u16) f) (Y:∀ y:Nat,f (bj y)=((F.bA++ [x]).findIdx? fun c=>decide (c.flag=y)).map fun i:Nat=>jk .i64 i) (hm:Md (fun k=>V.v11.ownBlock=some k) w C) (O:bw C B 131 5 v (F.bA++ [x]).length (m9<|F.bA++ [x])) (a:Md (fun k=>k=fb) C I) (U:I.heap[fb]? =some (.cells (oI {F with bA:=F.bA++ [x]} {V with v11:=v} mc).toArray 125 (0,0))):dX I B fb mc {F with bA:=F.bA++ [x]} {V with v11:=v} :=by
 have q:TF w [133] (fun k=>V.v11.ownBlock=some k):=TF.own h.ez az
 have G:=hm.ic q h.cells az
 have E:TF C [127] (fun k=>k=fb):=TF.eq (dA G) az
 have J:∀ k,V.v11.ownBlock=some k→∀ cur z,w.heap[k]?≠some (.cells cur 51 z):=ik h.ez az
 have M:∀ k,k=fb→∀ cur z,C.heap[k]?≠some (.cells cur 51 z):=fz G az
 have Z:=eH<|A.md hm<|q.no (eH A) az
 exact ⟨U,cx (cx h.o9 hm q az) a E az,cx (cx h.eY hm q az) a E az,(h.al.md hm J).md a M,dz O a (fun k hk A=>dI O G az<|A ▸ hk),cx (cx h.dK hm q az) a E az,(h.nx.md hm J).md a M,⟨f,(A.md hm<|q.no (eH A) az).md a (E.no Z az),Y⟩,h.lo,h.fR⟩
theorem dE.Wm {w C G:World} {B:Nat} {H:dx} {F F':aU} {R:gX} {rows:List Rw} {ln:Nat} {seen:List Tx} {v:Value} {q:dp} (h:dE w B H F R rows ln seen) (hm:Md (fun k=>R.vn.ownBlock=some k) w C) (U:bw C B 3 1 v (F.rules++ [q]).length ((F.rules++ [q]).map fun r=>jk .i64 (r.line:Nat))) (a:Md (fun k=>k=H.rb) C G) (V:G.heap[H.rb]? =some (.cells (vF H {R with vn:=v} ln).toArray 195 (0,0))) (aa:F'.rules=F.rules++ [q]) (hd:∀ x,eJ F' x=eJ F x):dE G B H F' {R with vn:=v} rows ln seen:=by
 have E:TF w [5] (fun k=>R.vn.ownBlock=some k):=TF.own h.on az
 have i:=hm.ic E h.cells az
 have I:TF C [197] (fun k=>k=H.rb):=TF.eq (dA i) az
 obtain ⟨f,A,Y⟩:=h.sm
 obtain ⟨g,M,Z⟩:=h.tm
 have J:=A.md hm<|E.no (eH A) az
 have O:=M.md hm<|E.no (eH M) az
 exact ⟨V,(h.rws.md hm<|ik h.on az).md a (fz i az),(h.rt.md hm<|ik h.on az).md a (fz i az),⟨f,J.md a (I.no (eH J) az),Y⟩,⟨g,O.md a (I.no (eH O) az),fun x ab=>by rw [hd]; exact Z x ab⟩,by rw [aa]; exact dz U a (fun k hk A=>dI U i az<|A ▸ hk),h.lo,h.ne⟩
theorem BG {cs:List dm} {x:Nat} (h:(eb cs x).isSome=false):cs.findIdx? (fun c=>decide (c.flag=x))=none:=by
 rw [NC]
 unfold eb at h
 rw [Option.isSome_eq_false_iff,Option.isNone_iff_eq_none,EC] at h
 intro c a
 simpa using h c a
theorem Sq {F:aU} {c:dm} (y:Nat):eJ {F with bA:=F.bA++ [c]} y=(decide (y=c.flag) || eJ F y):=by
 have h1:(eb (F.bA++ [c]) y).isSome=((eb F.bA y).isSome || decide (y=c.flag)):=by
  unfold eb
  rw [List.find?_append,Option.isSome_or]
  congr 1
  by_cases h:c.flag=y
  · simp [h]
  · simp [h,Ne.symm h]
 unfold eJ
 show (decide (y∈F.sp) || (eb (F.bA++ [c]) y).isSome)=_
 rw [h1]
 cases decide (y∈F.sp) <;> cases (eb F.bA y).isSome <;> cases decide (y=c.flag) <;> rfl
theorem RG {F:aU} {c:dm} {f:Value→Option Value} (hd:eJ F c.flag=false) (a:∀ x:Nat,f (bj x)=(F.bA.findIdx? fun c=>decide (c.flag=x)).map fun i:Nat=>jk .i64 i) (y:Nat):bW f (bj c.flag) (.int .i64 (F.bA.length:Nat)) (bj y)=((F.bA++ [c]).findIdx? fun c=>decide (c.flag=y)).map fun i:Nat=>jk .i64 i:=by
 unfold eJ at hd
 rw [nA] at hd
 rw [List.findIdx?_append]
 by_cases h:y=c.flag
 · subst h
   rw [vB,BG hd.2]
   simp
 · rw [tE (fun h2=>h<|L0 h2),a y]
   cases F.bA.findIdx? fun c=>decide (c.flag=y) <;> simp [Ne.symm h]
theorem A6 {eof ln e:Nat} {F:aU} {rows:List Rw} {r:List Tx} (h:gK F (r.getD 1 [])= .error e):gO eof F rows ln r= .error (ln,e):=by unfold gO; rw [h]
theorem A7 {eof ln x:Nat} {F:aU} {rows:List Rw} {r:List Tx} (h:gK F (r.getD 1 [])= .ok x) (h1:r.getD 2 []≠[89]) (h2:r.getD 2 []≠[78]):gO eof F rows ln r= .error (ln,114):=by unfold gO; rw [h]; exact if_pos ⟨h1,h2⟩
theorem GB {eof ln x e:Nat} {F:aU} {rows:List Rw} {r:List Tx} (h:gK F (r.getD 1 [])= .ok x) (h1:r.getD 2 []= [89]∨r.getD 2 []= [78]) (h2:e5 (r.getD 3 []) 1024= .error e):gO eof F rows ln r= .error (ln,e):=by
 unfold gO; rw [h]; simp only; rw [if_neg (fun h3=>h1.elim h3.1 h3.2),h2]
theorem GC {eof ln x n:Nat} {F:aU} {rows:List Rw} {r:List Tx} (h:gK F (r.getD 1 [])= .ok x) (h1:r.getD 2 []= [89]∨r.getD 2 []= [78]) (h2:e5 (r.getD 3 []) 1024= .ok n) (h3:1024 < F.rules.length+n):gO eof F rows ln r= .error (ln,117):=by
 unfold gO; rw [h]; simp only; rw [if_neg (fun h3=>h1.elim h3.1 h3.2),h2]; simp only; rw [if_pos h3]
theorem A8 {eof ln x n:Nat} {F:aU} {rows:List Rw} {r:List Tx} {e:Nat×Nat} (h:gK F (r.getD 1 [])= .ok x) (h1:r.getD 2 []= [89]∨r.getD 2 []= [78]) (h2:e5 (r.getD 3 []) 1024= .ok n) (h3:¬1024 < F.rules.length+n) (h4:group [r.getD 0 [],r.getD 1 []] (fI F.kind F.aliases (⟨x,(if r.getD 0 []=du then 2 else 1:Nat),(decide (r.getD 2 []= [89])),F.rules.length,n⟩:dm)) eof n rows= .error e):gO eof F rows ln r= .error e:=by
 unfold gO; rw [h]; simp only; rw [if_neg (fun h3=>h1.elim h3.1 h3.2),h2]; simp only; rw [if_neg h3,h4]
theorem Q8 {eof ln x n:Nat} {F:aU} {rows:List Rw} {r:List Tx} {q:List dp×List Rw} (h:gK F (r.getD 1 [])= .ok x) (h1:r.getD 2 []= [89]∨r.getD 2 []= [78]) (h2:e5 (r.getD 3 []) 1024= .ok n) (h3:¬1024 < F.rules.length+n) (h4:group [r.getD 0 [],r.getD 1 []] (fI F.kind F.aliases (⟨x,(if r.getD 0 []=du then 2 else 1:Nat),(decide (r.getD 2 []= [89])),F.rules.length,n⟩:dm)) eof n rows= .ok q):gO eof F rows ln r= .ok ({F with bA:=F.bA++ [(⟨x,(if r.getD 0 []=du then 2 else 1:Nat),(decide (r.getD 2 []= [89])),F.rules.length,n⟩:dm)],rules:=F.rules++q.1},q.2):=by
 unfold gO; rw [h]; simp only; rw [if_neg (fun h3=>h1.elim h3.1 h3.2),h2]; simp only; rw [if_neg h3,h4]
theorem GD (B:Nat) (H:dx) (F:aU) (rows:List Rw) (ln:Nat) (seen:List Tx) (r:List Tx) (cy:Nat) (ar:Option Addr) (cr:Nat) (w:World) (a:St w B H F rows ln seen) (cW:Tg w cy 9 r.length (.slice ar r.length cr) (r.map str)) (ge:r.length=4) (cs:∀ x∈r,x.length≤70000) (f2:F.dt.length+F.aliases.length+F.bA.length+F.rules.length+rows.length < 70000):
 fF aw 135 (bh [.pointer (some ⟨H.rb,0,none⟩),.slice ar r.length cr]) w (ju B H seen (gO H.eof F rows ln r) w) (jt B H (gO H.eof F rows ln r) w):=by
 obtain ⟨V,R,J,ak,aB⟩:=a
 have Z:=cW.cV
 have gf:(r.getD 1 []).length≤70000:=cs _<|dY ab
 have gg:(r.getD 2 []).length≤70000:=cs _<|dY ab
 have gh:(r.getD 3 []).length≤70000:=cs _<|dY ab
 have gc:=ak.lo
 have f7:=aB.len
 have gi:=(dB.1 ak.cells).1
 obtain ⟨a12,kA,fs⟩:=cE J.dK
 obtain ⟨cz,kz,dg⟩:=cE J.ez
 have eU:Hb.aR w.heap H.fb 12=some (.slice a12 F.rules.length kA):=by rw [← fs]; exact (a7 J.cells).trans rfl
 have f8:Hb.aR w.heap H.fb 11=some (.slice cz F.bA.length kz):=by rw [← dg]; exact (a7 J.cells).trans rfl
 have eY:∀ b,w.heap.size≤b→¬(V.v11.ownBlock=some b):=fun b f1 h=>by have :=dS J.ez h; omega
 obtain ⟨tf,fr,de⟩:=ak.tm
 refine ke func135 aa ntmps135 aa ?_
 refine ep (fun b0 cx=> ∃ (x I:Nat),(gK F (r.getD 1 [])= .ok x)∧(x≠0)∧(eJ F x=false)∧(w.heap.size≤I)∧(cx.heap[I]? =some (.cells [bj x,.int .i64 (1:Nat),.bool false,.int .i64 (F.rules.length:Nat),.int .i64 (0:Nat)].toArray 131 (0,0)))∧(Wk w cx)∧(b0 0= .pointer (some ⟨H.rb,0,none⟩))∧(b0 1= .slice ar r.length cr)∧(b0 4= .pointer (some ⟨I,0,none⟩))) ?_ ?_
 have C:(fun w'=>Wk w w') w.drew:=(Md.refl _ _).drew
 refine bN (fun w'=>Wk w w') aa wide C<|hp 0 aa aj (fun _ _=>aV (.pointer<|some ⟨H.rb,0,none⟩) aa) C<|hp 1 aa aj (fun _ _=>aV (.slice ar r.length cr) aa) C<|hp 2 aa aj (fun _ _=>bc cR aa aa ab<|aO.ok (Z.2)<|bT ab) C<|hp 3 aa aj (fun w' a=>ld bV aa<|Wk.aR a<|cj.get (i:=1) Z.2 ab) C<|hp 5 aa aj (fun _ _=>aV (.pointer<|some ⟨H.rb,0,none⟩) aa) C<|hp 6 aa aj (fun _ _=>nc aa) C<|hp 7 aa aj (fun _ _=>fa ig aa) C<|hp 8 aa aj (fun w' a=>ld gq aa<|Wk.aR a<|(a7 ak.cells).trans aa) C<|hp 9 aa aj (fun _ _=>nc aa) C<|hp 10 aa aj (fun _ _=>fa gJ aa) C<|hp 11 aa aj (fun _ _=>fa nU aa) C<|hp 12 aa aj (fun w' a=>ld lZ aa<|Wk.aR a<|eU) C<|hp 13 aa aj (fun _ _=>bJ vU aa aa) C<|UO (Pn:=fun c w'=> ∃ e,gK F (r.getD 1 [])= .error e∧c=jn 47 ln (e:Nat)∧Wk w.drew w') 4 15 aa aa aj aa aa ?_ (fun c w' A aM J=>by obtain ⟨e,he,h,h2⟩:=A; exact ⟨ln,e,A6 he,h,Wk.mw<|Md.trans C h2⟩) ?_
 refine dW AH (Cb B H F V R rows ln seen (r.getD 1 []) w.drew (J.wk C) (ak.wk C) aB.kd ab) aa fun v10 bU bf=> ?_
 obtain ⟨x,ac,bv,rfl,aL,bD⟩:=bf
 have am:(fun w'=>Wk w w') bU:=Md.trans C bD
 refine ⟨am,?_⟩
 refine hp 14 aa aj (fun _ _=>c8 (ps:= [(0,bj x),(1,.int .i64 (1:Nat)),(3,.int .i64 (F.rules.length:Nat))]) (L:= [bj x,.int .i64 (1:Nat),.bool false,.int .i64 (F.rules.length:Nat),.int .i64 0]) DG aa<|aa) am<|he 15 aa aj<|fg tW fun I bZ eM b9 b3=> ?_
 have ax:(fun w'=>Wk w w') bZ:=Md.trans am b9.md
 refine ⟨ax,?_⟩
 refine he 16 aa aj<|gj rF aa aa aa aa b3 az fun cv b7 b4=> ?_
 have bk:(fun w'=>Wk w w') cv:=Md.trans' ax b7 fun k hk h=>by have h1:=Md.size am; have h2:=Md.size C; omega
 refine ⟨bk,?_⟩
 exact hn aj<|tn<|⟨x,I,ac,bv,aL,(by have h1:=Md.size am; have h2:=Md.size C; omega),b4,bk,aa,aa,aa⟩
 refine fg tW fun I bZ eM b9 b3=> ?_
 have ax:(fun w'=>Wk w w') bZ:=Md.trans C b9.md
 refine ⟨ax,?_⟩
 refine tx 4 aa aj aa (dW AH (Cb B H F V R rows ln seen (r.getD 1 []) bZ (J.wk ax) (ak.wk ax) aB.kd ab) aa fun v10 bU bf=> ?_) fun c w' A aM J=>by obtain ⟨e,he,h,h2⟩:=A; exact ⟨ln,e,A6 he,h,Wk.mw<|Md.trans ax h2⟩
 obtain ⟨x,ac,bv,rfl,aL,bD⟩:=bf
 have am:(fun w'=>Wk w w') bU:=Md.trans ax bD
 refine ⟨am,?_⟩
 refine hp 14 aa aj (fun _ _=>c8 (ps:= [(0,bj x),(1,.int .i64 (1:Nat)),(3,.int .i64 (F.rules.length:Nat))]) (L:= [bj x,.int .i64 (1:Nat),.bool false,.int .i64 (F.rules.length:Nat),.int .i64 0]) DG aa<|aa) am<|he 16 aa aj<|gj rF aa aa aa aa (Wk.aJ bD b3) az fun cv b7 b4=> ?_
 have bk:(fun w'=>Wk w w') cv:=Md.trans' am b7 fun k hk h=>by have h1:=Md.size am; have h2:=Md.size C; omega
 refine ⟨bk,?_⟩
 exact hn aj<|tn<|⟨x,I,ac,bv,aL,(by have h1:=Md.size am; have h2:=Md.size C; omega),b4,bk,aa,aa,aa⟩
 rintro b0 cx ⟨x,I,ac,bv,aL,e3,db,bB,e6,e7,e8⟩
 refine fx 0 e6<|fx 1 e7<|fx 4 e8 ?_
 refine ep (fun b1 aY=>(aY.heap[I]? =some (.cells [bj x,.int .i64 ((if r.getD 0 []=du then 2 else 1:Nat):Nat),.bool false,.int .i64 (F.rules.length:Nat),.int .i64 (0:Nat)].toArray 131 (0,0)))∧(Wk w aY)∧(b1 0= .pointer (some ⟨H.rb,0,none⟩))∧(b1 1= .slice ar r.length cr)∧(b1 4= .pointer (some ⟨I,0,none⟩))) ?_ ?_
 refine sq fun dr b6=>rg aa<|p (aV (.slice ar r.length cr) aa)<|p (bc cR aa aa ab<|aO.ok (aO.wk Z.2 bB)<|bT ab)<|p (ld bV aa<|cj.get (i:=0) (aO.wk Z.2 bB) ab)<|p (dZ aa aa)<|nl<|tn<|b6 _ _<|cd aa (fun ck=> ?_) fun ck=> ?_
 exact rg aa<|p (fa uU aa)<|e<|cT gr aa aa (v:= .int .i64 (2:Nat)) aa db (by show _ < 5; decide) fun gz d9 dJ=>nl<|tn<|⟨(by rw [if_pos (show r.getD 0 []=du from ck)]; exact dJ),(bB.trans' d9 fun k hk h=>by omega),aa,aa,aa⟩
 exact aQ<|tn<|⟨(by rw [if_neg (show ¬r.getD 0 []=du from ck)]; exact db),bB,aa,aa,aa⟩
 rintro b1 aY ⟨e2,ah,fc,fd,fe⟩
 refine fx 0 fc<|fx 1 fd<|fx 4 fe ?_
 refine ep (fun b2 dq=>(r.getD 2 []= [89]∨r.getD 2 []= [78])∧(dq=aY)∧(b2 0= .pointer (some ⟨H.rb,0,none⟩))∧(b2 1= .slice ar r.length cr)∧(b2 4= .pointer (some ⟨I,0,none⟩))) ?_ ?_
 refine rg aa<|p (aV (.pointer<|some ⟨H.rb,0,none⟩) aa)<|p (aV (.slice ar r.length cr) aa)<|p (bc cR aa aa ab<|aO.ok (aO.wk Z.2 ah)<|bT ab)<|p (ld bV aa<|cj.get (i:=2) (aO.wk Z.2 ah) ab)<|p (dZ aa aa)<|p mv<|gs (t:=31) aa (fun bO=> ?_) fun bO=> ?_
 refine sk aa aa aa aa<|sk aa aa aa aa<|sk aa aa aa aa<|sk aa aa aa aa<|p (bC aa)<|eP aa (dW iD (iM H.rb ln _ 114 aY (Wk.aR ah ak.dw) az) aa fun v37 fB ca=> ?_) fun c w' A aM J=>by first | exact absurd A.2.1 az | exact ⟨ln,114,A7 ac bO (of_decide_eq_false A.2.1),A.1,by rw [A.2.2]; exact Wk.mw ah⟩
 obtain ⟨rfl,dh,rfl⟩:=ca
 exact nl<|tn<|⟨(.inl bO),aa,aa,aa,aa⟩
 refine pg aa aa aa (aV (.slice ar r.length cr) aa)<|pg aa aa aa (bc cR aa aa ab<|aO.ok (aO.wk Z.2 ah)<|bT ab)<|pg aa aa aa (ld bV aa<|cj.get (i:=2) (aO.wk Z.2 ah) ab)<|pg aa aa aa (dZ aa aa)<|p (bu aa)<|eP aa (dW iD (iM H.rb ln _ 114 aY (Wk.aR ah ak.dw) az) aa fun v37 fB ca=> ?_) fun c w' A aM J=>by first | exact absurd A.2.1 az | exact ⟨ln,114,A7 ac bO (of_decide_eq_false A.2.1),A.1,by rw [A.2.2]; exact Wk.mw ah⟩
 obtain ⟨rfl,dh,rfl⟩:=ca
 exact nl<|tn<|⟨(.inr<|of_decide_eq_true dh),aa,aa,aa,aa⟩
 rintro b2 dq ⟨aT,ft,fh,fi,fj⟩
 refine fx 0 fh<|fx 1 fi<|fx 4 fj ?_
 subst ft
 refine sq fun dr b6=>rg aa<|p (aV (.slice ar r.length cr) aa)<|p (bc cR aa aa ab<|aO.ok (aO.wk Z.2 ah)<|bT ab)<|p (ld bV aa<|cj.get (i:=2) (aO.wk Z.2 ah) ab)<|p (dZ aa aa)<|p (fa Ib aa)<|e<|cT xK aa aa (v:= .bool<|decide (r.getD 2 []= [89])) aa e2 (by show _ < 5; decide) fun fC ea dL=> ?_
 have a8:=ah.trans' ea fun k hk h=>by omega
 refine nl<|tn<|b6 _ _<|sq fun fL d1=>rg aa<|p (aV (.pointer<|some ⟨H.rb,0,none⟩) aa)<|p (aV (.slice ar r.length cr) aa)<|p (bc cR aa aa ab<|aO.ok (aO.wk Z.2 a8)<|bT ab)<|p (ld bV aa<|cj.get (i:=3) (aO.wk Z.2 a8) ab)<|eP aa (dW xA (yU H.rb ln (r.getD 3 []) 1024 fC (Wk.aR a8 ak.dw) ab ab) aa fun gw gy ew=> ?_) fun c w' A aM J=>by obtain ⟨e,he,h,h2⟩:=A; exact ⟨ln,e,GB ac aT he,h,Wk.mw<|a8.trans h2⟩
 obtain ⟨n,aS,rfl,cB⟩:=ew
 have gd:=CU aS
 refine p (fa yc aa)<|e<|cT gr aa aa (v:= .int .i64 (n:Nat)) aa (Wk.aJ cB dL) (by show _ < 5; decide) fun dl ed dM=> ?_
 have aD:=(a8.trans cB).trans' ed fun k hk h=>by omega
 have bp:dl.heap[I]? =some (.cells [bj x,.int .i64 ((if r.getD 0 []=du then 2 else 1:Nat):Nat),.bool (decide (r.getD 2 []= [89])),.int .i64 (F.rules.length:Nat),.int .i64 (n:Nat)].toArray 131 (0,0)):=dM
 refine nl<|tn<|d1 _ _<|sq fun fN d2=>rg aa<|p (aV (.pointer<|some ⟨H.rb,0,none⟩) aa)<|p (fa Ic aa)<|p (ld bz aa<|(a7 bp).trans aa)<|p (fa yc aa)<|p (ld bz aa<|(a7 bp).trans aa)<|p (bF ((F.rules.length+n:Nat):Int) aa aa<|bl ab ab)<|p (le aa aa)<|eP aa (dW iD (iM H.rb ln _ 117 dl (Wk.aR aD ak.dw) az) aa fun gx cw ex=> ?_) fun c w' A aM J=>⟨ln,117,GC ac aT aS (by have :=of_decide_eq_false A.2.1; omega),A.1,by rw [A.2.2]; exact Wk.mw aD⟩
 obtain ⟨rfl,fu,rfl⟩:=ex
 have bx:¬1024 < F.rules.length+n:=by have :=of_decide_eq_true fu; omega
 have bH:=ak.wk aD
 have dQ:=J.wk aD
 have bQ:=fr.wk aD
 refine nl<|tn<|d2 _ _<|sq fun fO d3=> ?_
 have ao:(fun w'=>Wk cw w') cw.drew:=(Md.refl _ _).drew
 refine eR (fun w'=>Wk cw w') 8 aa wide ao<|lq 0 aa aj (fun _ _=>aV (.pointer<|some ⟨H.rb,0,none⟩) aa) ao<|lq 1 aa aj (fun _ _=>nc aa) ao<|lq 2 aa aj (fun _ _=>fa BY aa) ao<|lq 3 aa aj (fun w' a=>ld uA aa<|Wk.aR a<|(a7 bH.cells).trans aa) ao<|lq 4 aa aj (fun _ _=>fa BS aa) ao<|lq 5 aa aj (fun w' a=>ld dd aa<|Wk.aR a<|(a7 bp).trans aa) ao<|lq 6 aa aj (fun w' a=>oM r7 oY rN (dy.md (bQ) a id) aa aa (⟨_,aa⟩) (show _=jk .i64 0 from (de x bv).trans<|by rw [aL]; rfl)) ao<|lq 7 aa aj (fun _ _=>bF ((1:Nat):Int) aa aa<|bl ab ab) ao<|dO 8 aa aj aj<|tQ r7 rN (bQ.wk ao) aa aa aa (⟨_,aa⟩) fun aZ eb eo=> ?_
 have bb:=im eb
 have bi:dE aZ B H {F with bA:=F.bA++ [(⟨x,(if r.getD 0 []=du then 2 else 1:Nat),(decide (r.getD 2 []= [89])),F.rules.length,n⟩:dm)]} R rows ln seen:=bH.vu bb eo rfl (LQ aL de fun y _=>Sq y)
 have a9:=dQ.vu bH bb
 have c4:=bb.aJ bp fun h=>bQ.pP<|h ▸ bp
 have eG:=(cW.wk aD).md bb fun k hk cur z co=>by subst hk; exact bQ.pP co
 have ej:=(Wk.mw aD).trans<|fE.mt bH bb
 obtain ⟨cf,cl,eV⟩:=a9.cm
 have eT:Hb.aR aZ.heap H.fb 11=some (.slice cz F.bA.length kz):=by rw [← dg]; exact (a7 a9.cells).trans rfl
 refine eQ aj<|tn<|d3 _ _<|sq fun fP d4=> ?_
 have E:(fun w'=>Wk aZ w') aZ.drew:=(Md.refl _ _).drew
 refine eR (fun w'=>Wk aZ w') 18 aa wide E<|lq 0 aa aj (fun _ _=>aV (.pointer<|some ⟨H.rb,0,none⟩) aa) E<|lq 1 aa aj (fun _ _=>nc aa) E<|lq 2 aa aj (fun _ _=>fa ig aa) E<|lq 3 aa aj (fun w' a=>ld gq aa<|Wk.aR a<|(a7 bi.cells).trans aa) E<|lq 4 aa aj (fun _ _=>nc aa) E<|lq 5 aa aj (fun _ _=>fa Ia aa) E<|lq 6 aa aj (fun w' a=>ld uA aa<|Wk.aR a<|(a7 a9.cells).trans aa) E<|lq 7 aa aj (fun _ _=>fa BS aa) E<|lq 8 aa aj (fun w' a=>ld dd aa<|Wk.aR a<|(a7 c4).trans aa) E<|lq 9 aa aj (fun _ _=>aV (.pointer<|some ⟨H.rb,0,none⟩) aa) E<|lq 10 aa aj (fun _ _=>nc aa) E<|lq 11 aa aj (fun _ _=>fa ig aa) E<|lq 12 aa aj (fun w' a=>ld gq aa<|Wk.aR a<|(a7 bi.cells).trans aa) E<|lq 13 aa aj (fun _ _=>nc aa) E<|lq 14 aa aj (fun _ _=>fa gJ aa) E ?_
 refine lq 15 aa aj (fun _ _=>fa tv aa) E<|lq 16 aa aj (fun w' a=>ld xp aa<|Wk.aR a<|eT) E<|lq 17 aa aj (fun _ _=>bJ L9 aa aa) E<|dO 18 aa aj aj<|tQ r7 rN (cl.wk E) aa aa aa (⟨_,aa⟩) fun a0 ee er=> ?_
 have es:dy a0.heap H.mc (pO .u16) (bW cf (bj x)<|.int .i64 (F.bA.length:Nat)):=er
 have bd:=im ee
 have cc:TF aZ [1] (fun k=>k=H.mc):=TF.eq (eH cl) az
 have bo:=(Tk a9).md (L:= [1]) bd cc az
 have bI:=bi.md (L:= [1]) bd cc az bi.ne.2.1 bi.ne.2.2
 have c0:=bd.ic cc c4 az
 have eI:=eG.md bd fun k hk cur z co=>by subst hk; exact cl.pP co
 have el:=ej.trans<|bd.mono fun k _ hk=>⟨hk ▸ a9.lo.2,.inr<|.inr<|.inl hk⟩
 have c5:=eY I e3
 have bt:¬(V.v11.ownBlock=some H.rb):=dI bo.ez bI.cells az
 have cp:¬(V.v11.ownBlock=some H.fb):=dI bo.ez bo.cells az
 refine eQ aj<|tn<|d4 _ _<|sq fun fR d5=> ?_
 have O:(fun w'=>Md (fun k=>V.v11.ownBlock=some k) a0 w') a0.drew:=(Md.refl _ _).drew
 refine eR (fun w'=>Md (fun k=>V.v11.ownBlock=some k) a0 w') 18 aa wide O<|dG 0 aa aj (fun _=>aV (.pointer<|some ⟨H.rb,0,none⟩) aa) (fun _=>O)<|dG 1 aa aj (fun _=>nc aa) (fun _=>O)<|dG 2 aa aj (fun _=>fa ig aa) (fun _=>O)<|kI 3 aa aj (fun w' a=>ld gq aa<|Md.aR a ((a7 bI.cells).trans aa) bt) O<|dG 4 aa aj (fun _=>aV (.pointer<|some ⟨H.rb,0,none⟩) aa) (fun _=>O)<|dG 5 aa aj (fun _=>nc aa) (fun _=>O)<|dG 6 aa aj (fun _=>fa ig aa) (fun _=>O)<|kI 7 aa aj (fun w' a=>ld gq aa<|Md.aR a ((a7 bI.cells).trans aa) bt) O<|dG 8 aa aj (fun _=>nc aa) (fun _=>O)<|dG 9 aa aj (fun _=>fa gJ aa) (fun _=>O)<|dG 10 aa aj (fun _=>fa tv aa) (fun _=>O)<|kI 11 aa aj (fun w' a=>ld xp aa<|Md.aR a ((a7 bo.cells).trans aa) cp) O<|kI 12 aa aj (fun w' a=>di uB aa (aa) fun j eW=>bP.bG ⟨_,Md.aJ a c0 c5⟩ j) O<|gE 13 aa aj<|kQ y7 aa aa aa fun fY fG f6 cK dN=> ?_
 have aN:=im cK.md
 have aq:=bo.wk aN
 have cM:=bI.wk aN
 have gm:=(dB.1 cM.cells).1
 have cU:(fun w'=>Md (fun k=>V.v11.ownBlock=some k) a0 w') fG:=O.trans' cK.md fun _ _ h=>h.elim
 refine ⟨cU,?_⟩
 refine gE 14 aa aj<|ap y7 (aq.ez) aa ab aa (aO.ec dN) (aa) (aa) ab ab fun ct dn da aI gt gb=> ?_
 have em:=(el.trans<|Wk.mw aN).trans<|Mw.of aI (TF.own aq.ez az) fun k hk=>(dS aq.ez hk).1
 have bf:=dE.own cM aq.ez aI az
 have bq:=aI.aJ aq.cells<|dI aq.ez aq.cells az
 have ce:=aI.aJ (Wk.aJ aN c0) c5
 have eA:=(eI.wk aN).md aI<|ik aq.ez az
 have e1:bw dn B 131 5 ct (F.bA++ [(⟨x,(if r.getD 0 []=du then 2 else 1:Nat),(decide (r.getD 2 []= [89])),F.rules.length,n⟩:dm)]).length (m9<|F.bA++ [(⟨x,(if r.getD 0 []=du then 2 else 1:Nat),(decide (r.getD 2 []= [89])),F.rules.length,n⟩:dm)]):=by rw [show m9 (F.bA++ [(⟨x,(if r.getD 0 []=du then 2 else 1:Nat),(decide (r.getD 2 []= [89])),F.rules.length,n⟩:dm)])=m9 F.bA++nN (⟨x,(if r.getD 0 []=du then 2 else 1:Nat),(decide (r.getD 2 []= [89])),F.rules.length,n⟩:dm) from by simp [m9],bM]; exact da
 have bL:(fun w'=>Md (fun k=>V.v11.ownBlock=some k) a0 w') dn:=cU.trans' aI fun _ _ h=>h
 refine ⟨bL,?_⟩
 refine dG 15 aa aj (fun _=>nc aa) (fun _=>bL)<|dG 16 aa aj (fun _=>fa gJ aa) (fun _=>bL)<|dG 17 aa aj (fun _=>fa tv aa) (fun _=>bL)<|dO 18 aa aj aj<|cT G5 aa aa (v:=ct) (eS da) bq (by show _ < 14; omega) fun aX ai b5=> ?_
 have dP:=oy.Aj (x:=(⟨x,(if r.getD 0 []=du then 2 else 1:Nat),(decide (r.getD 2 []= [89])),F.rules.length,n⟩:dm)) aq (es.wk aN) (RG (c:=(⟨x,(if r.getD 0 []=du then 2 else 1:Nat),(decide (r.getD 2 []= [89])),F.rules.length,n⟩:dm)) aL eV) aI e1 ai b5
 have et:=dE.oH bf bq ai
 have c1:=ai.aJ ce fun h=>by rw [h,bq] at ce; cases ce
 have eB:=eA.md ai<|fz bq az
 have ef:=em.trans<|Mw.of ai (TF.eq (dA bq) az) fun k hk=>hk ▸ aq.lo.1
 refine eQ aj<|tn<|d5 _ _<|sq fun fS d6=>rg aa<|p (fa yc aa)<|p (ld bz aa<|(a7 c1).trans aa)<|p mv<|nl<|tn<|d6 _ _<|aJ<|lp (fun cA a1 ae=> ∃ (i:Nat) (xs:List dp) (rows':List Rw) (bR:Nat) (G:ff) (R':gX),(i≤n)∧(iY [r.getD 0 [],r.getD 1 []] (fI F.kind F.aliases (⟨x,(if r.getD 0 []=du then 2 else 1:Nat),(decide (r.getD 2 []= [89])),F.rules.length,n⟩:dm)) H.eof (group [r.getD 0 [],r.getD 1 []] (fI F.kind F.aliases (⟨x,(if r.getD 0 []=du then 2 else 1:Nat),(decide (r.getD 2 []= [89])),F.rules.length,n⟩:dm)) H.eof n rows) xs (n - i) rows')∧(xs.length=i)∧(dX ae B H.fb H.mc {F with bA:=F.bA++ [(⟨x,(if r.getD 0 []=du then 2 else 1:Nat),(decide (r.getD 2 []= [89])),F.rules.length,n⟩:dm)],rules:=F.rules++xs} G)∧(dE ae B H {F with bA:=F.bA++ [(⟨x,(if r.getD 0 []=du then 2 else 1:Nat),(decide (r.getD 2 []= [89])),F.rules.length,n⟩:dm)],rules:=F.rules++xs} R' rows' bR seen)∧(kM {F with bA:=F.bA++ [(⟨x,(if r.getD 0 []=du then 2 else 1:Nat),(decide (r.getD 2 []= [89])),F.rules.length,n⟩:dm)],rules:=F.rules++xs} rows' seen)∧(fE B H w ae)∧(ae.heap[I]? =some (.cells [bj x,.int .i64 ((if r.getD 0 []=du then 2 else 1:Nat):Nat),.bool (decide (r.getD 2 []= [89])),.int .i64 (F.rules.length:Nat),.int .i64 (n:Nat)].toArray 131 (0,0)))∧(Tg ae cy 9 r.length (.slice ar r.length cr)<|r.map str)∧(a1 0= .pointer (some ⟨H.rb,0,none⟩))∧(a1 1= .slice ar r.length cr)∧(a1 4= .pointer (some ⟨I,0,none⟩))∧(a1 102= .int .i64 (n:Nat))∧(a1 103= .int .i64 (i:Nat))∧(n - i=cA)) _ ⟨0,[],rows,ln,{V with v11:=ct},R,ab,iY.start,aa,(by rw [ei]; exact dP),(by rw [ei]; exact et),(⟨by simp only [bM,e9,fU]; omega,aB.sl,aB.row,aB.kd,aB.al⟩),ef,c1,eB,aa,aa,aa,aa,aa,aa⟩ ?_
 rintro cA a1 ae ⟨i,xs,rows',bR,G,R',hi,aP,fv,cC,au,a5,cG,dc,bm,fk,fl,fq,fm,fo,rfl⟩
 refine fx 0 fk<|fx 1 fl<|fx 4 fq<|fx 102 fm<|fx 103 fo<|sq fun fT d7=>rg aa<|p (lt aa aa)<|nl<|tn<|d7 _ _<|sq fun fV d8=>cd aa (fun eO=> ?_) fun eO=> ?_
 refine aQ<|tn<|d8 _ _<|sq fun fH dU=>aJ<|sq fun fJ dV=> ?_
 have av:(fun w'=>Md (fun k=>k=H.rb) ae w') ae.drew:=(Md.refl _ _).drew
 refine bN (fun w'=>Md (fun k=>k=H.rb) ae w') aa wide av<|hp 0 aa aj (fun _ _=>aV (.pointer<|some ⟨H.rb,0,none⟩) aa) av<|hp 1 aa aj (fun _ _=>aV (.slice ar r.length cr) aa) av<|hp 2 aa aj (fun _ _=>bc cR aa aa ab<|aO.ok (bm.cV.2)<|bT ab) av<|hp 3 aa aj (fun w' a=>ld bV aa<|cj.get (i:=0) (bm.md a<|fz au.cells az).cV.2 ab) av<|hp 4 aa aj (fun _ _=>aV (.slice ar r.length cr) aa) av<|hp 5 aa aj (fun _ _=>bc cR aa aa ab<|aO.ok (bm.cV.2)<|bT ab) av<|hp 6 aa aj (fun w' a=>ld bV aa<|cj.get (i:=1) (bm.md a<|fz au.cells az).cV.2 ab) av<|he 7 aa aj<|sT (L:= [str (r.getD 0 []),str (r.getD 1 [])]) fQ aa aa aa aa fun dv cu f4 cJ dD=> ?_
 have ag:Wk ae cu:=im cJ.md
 have cH:=cG.trans<|Wk.mw ag
 have cN:(fun w'=>Md (fun k=>k=H.rb) ae w') cu:=av.trans' cJ.md fun _ _ h=>h.elim
 refine ⟨cN,?_⟩
 refine tx 8 aa aj aa (dW AI (Cv B H {F with bA:=F.bA++ [(⟨x,(if r.getD 0 []=du then 2 else 1:Nat),(decide (r.getD 2 []= [89])),F.rules.length,n⟩:dm)],rules:=F.rules++xs} R' rows' bR seen [r.getD 0 [],r.getD 1 []] dv 2 _ _ cu (au.wk ag) (Tg.C0 dD aa) aa az fun q cq=>(a5.row q cq).2.1) aa fun gv ay ev=> ?_) (fun c w' A aM J=>by
  obtain ⟨h1,h2⟩:=A
  have hm:=cH.trans<|fE.rb (au.wk ag) h2
  rcases h1 with ⟨rfl,h3⟩ | ⟨bS,aW,rest,rfl,h4,h3⟩
  exact ⟨_,_,A8 ac aT aS bx (aP.ends ab),h3,hm⟩
  exact ⟨_,_,A8 ac aT aS bx (aP.other ab h4),h3,hm⟩)
 obtain ⟨bS,aW,rest,rfl,df,⟨aA,bg⟩,hT15,hM15⟩:=ev
 obtain ⟨ds,uI,rfl⟩:=hT15.slice
 have aF:=(cC.wk ag).rb (au.wk ag) hM15
 have cI:=cH.trans<|fE.rb (au.wk ag) hM15
 have e5:aW≠[]∧aW.length≤70000∧∀ x∈aW,x.length≤70000:=a5.row (bS,aW)<|by simp
 have a4:=kM.pH a5
 have eN:=a5.len
 simp only [c7,bM] at eN
 have eC:=(bm.wk ag).md hM15<|fz (au.wk ag).cells az
 have cg:=hM15.aJ (Wk.aJ ag dc) fun h=>by have h1:=(au.wk ag).cells; rw [← h,Wk.aJ ag dc] at h1; cases h1
 have cO:(fun w'=>Md (fun k=>k=H.rb) ae w') ay:=cN.trans' hM15 fun _ _ h=>h
 refine ⟨cO,?_⟩
 refine hp 9 aa aj (fun _ _=>aE) cO<|hn aj<|tn<|dV _ _<|sq fun fK d0=> ?_
 have bt:¬(G.v12.ownBlock=some H.rb):=dI aF.dK bg.cells az
 have cp:¬(G.v12.ownBlock=some H.fb):=dI aF.dK aF.cells az
 have eX:¬(G.v12.ownBlock=some I):=dI aF.dK cg az
 have M:(fun w'=>Md (fun k=>G.v12.ownBlock=some k) ay w') ay.drew:=(Md.refl _ _).drew
 refine eR (fun w'=>Md (fun k=>G.v12.ownBlock=some k) ay w') 21 aa wide M<|dG 0 aa aj (fun _=>aV (.pointer<|some ⟨H.rb,0,none⟩) aa) (fun _=>M)<|dG 1 aa aj (fun _=>nc aa) (fun _=>M)<|dG 2 aa aj (fun _=>fa ig aa) (fun _=>M)<|kI 3 aa aj (fun w' a=>ld gq aa<|Md.aR a ((a7 bg.cells).trans aa) bt) M<|dG 4 aa aj (fun _=>aV (.pointer<|some ⟨H.rb,0,none⟩) aa) (fun _=>M)<|dG 5 aa aj (fun _=>nc aa) (fun _=>M)<|dG 6 aa aj (fun _=>fa ig aa) (fun _=>M)<|kI 7 aa aj (fun w' a=>ld gq aa<|Md.aR a ((a7 bg.cells).trans aa) bt) M<|dG 8 aa aj (fun _=>nc aa) (fun _=>M)<|dG 9 aa aj (fun _=>fa gJ aa) (fun _=>M)<|dG 10 aa aj (fun _=>fa nU aa) (fun _=>M)<|kI 11 aa aj (fun w' a=>ld lZ aa<|Md.aR a ((a7 aF.cells).trans aa) cp) M<|dG 12 aa aj (fun _=>aV (.pointer<|some ⟨H.rb,0,none⟩) aa) (fun _=>M)<|kI 13 aa aj (fun w' a=>di uB aa (aa) fun j eW=>bP.bG ⟨_,Md.aJ a cg eX⟩ j) M<|dG 14 aa aj (fun _=>mv) (fun _=>M) ?_
 refine Jw 15 aa aj aa (dW PH (yY B H {F with bA:=F.bA++ [(⟨x,(if r.getD 0 []=du then 2 else 1:Nat),(decide (r.getD 2 []= [89])),F.rules.length,n⟩:dm)],rules:=F.rules++xs} G aA rest bS seen (⟨x,(if r.getD 0 []=du then 2 else 1:Nat),(decide (r.getD 2 []= [89])),F.rules.length,n⟩:dm) aW B ds uI ay.drew (aF.wk (Md.refl _ _).drew) (bg.wk (Md.refl _ _).drew) a4 (by show (if r.getD 0 []=du then 2 else 1)=1∨(if r.getD 0 []=du then 2 else 1)=2; split <;> simp) (hT15.wk (Md.refl _ _).drew) e5.2) aa fun gu fy eu=> ?_) fun c w' A aM J=>by obtain ⟨e,he,h,h2⟩:=A; exact ⟨_,_,A8 ac aT aS bx (aP.bad ab df he),h,cI.trans<|Wk.mw<|im h2⟩
 obtain ⟨q,cq,e4,⟨vn,rfl,cZ⟩,bE⟩:=eu
 obtain ⟨a2,a3,rfl⟩:=cZ.slice
 have bE:=im bE
 have cP:(fun w'=>Md (fun k=>G.v12.ownBlock=some k) ay w') fy:=Md.mono bE fun _ _ h=>h.elim
 refine ⟨cP,?_⟩
 refine gE 16 aa aj<|kQ y8 aa aa aa fun fW fA f3 b8 dC=> ?_
 have a6:=bE.trans b8.md
 have U:=aF.wk a6
 have cL:=bg.wk a6
 have eD:=eC.wk a6
 have c2:=Wk.aJ a6 cg
 have eL:=cZ.wk b8.md
 have gk:=(dB.1 cL.cells).1
 have cQ:(fun w'=>Md (fun k=>G.v12.ownBlock=some k) ay w') fA:=cP.trans' b8.md fun _ _ h=>h.elim
 refine ⟨cQ,?_⟩
 refine gE 17 aa aj<|ap y8 (U.dK) aa ab aa (aO.ec dC) (aa) (aa) (by simp only [bM]; omega) (by simp only [bM]; omega) fun v131 dj c6 aG gn f9=> ?_
 have eg:=(cI.trans<|Wk.mw a6).trans<|Mw.of aG (TF.own U.dK az) fun k hk=>(dS U.dK hk).1
 have ey:=dE.own cL U.dK aG az
 have br:=aG.aJ U.cells<|dI U.dK U.cells az
 have ch:=aG.aJ c2<|dI U.dK c2 az
 have eE:=eD.md aG<|ik U.dK az
 have eZ:bw dj B 77 7 v131 ((F.rules++xs)++ [q]).length (iV<|((F.rules++xs)++ [q]).zip<|G.rn++ [.slice a2 q.next.length a3]):=by
  have fw:(F.rules++xs).length=G.rn.length:=by have :=U.nx.1; rw [fM] at this; exact this.symm
  rw [List.zip_append fw,show iV ((F.rules++xs).zip G.rn++ [q].zip [.slice a2 q.next.length a3])=iV ((F.rules++xs).zip G.rn)++fD (q,.slice a2 q.next.length a3) from by simp [iV],bM]
  exact c6
 have bK:(fun w'=>Md (fun k=>G.v12.ownBlock=some k) ay w') dj:=cQ.trans' aG fun _ _ h=>h
 refine ⟨bK,?_⟩
 refine dG 18 aa aj (fun _=>nc aa) (fun _=>bK)<|dG 19 aa aj (fun _=>fa gJ aa) (fun _=>bK)<|dG 20 aa aj (fun _=>fa nU aa) (fun _=>bK)<|dO 21 aa aj aj<|cT G6 aa aa (v:=v131) (eS c6) br (by show _ < 14; omega) fun aX ai b5=> ?_
 have dR:=dX.xv (x:=q) (vx:= .slice a2 q.next.length a3) U eL aG eZ ai b5
 have aK:=dE.oH ey br ai
 have c3:=ai.aJ ch fun h=>by rw [h,br] at ch; cases ch
 have eF:=eE.md ai<|fz br az
 have eh:=eg.trans<|Mw.of ai (TF.eq (dA br) az) fun k hk=>hk ▸ U.lo.1
 refine eQ aj<|tn<|d0 _ _ ?_
 have an:(fun w'=>Md (fun k=>aA.vn.ownBlock=some k) aX w') aX.drew:=(Md.refl _ _).drew
 refine eR (fun w'=>Md (fun k=>aA.vn.ownBlock=some k) aX w') 13 aa wide an<|dG 0 aa aj (fun _=>aV (.pointer<|some ⟨H.rb,0,none⟩) aa) (fun _=>an)<|dG 1 aa aj (fun _=>aV (.pointer<|some ⟨H.rb,0,none⟩) aa) (fun _=>an)<|dG 2 aa aj (fun _=>nc aa) (fun _=>an)<|dG 3 aa aj (fun _=>fa BZ aa) (fun _=>an)<|kI 4 aa aj (fun w' a=>ld pC aa<|Md.aR a ((a7 aK.cells).trans aa)<|dI aK.on aK.cells az) an<|dG 5 aa aj (fun _=>aV (.pointer<|some ⟨H.rb,0,none⟩) aa) (fun _=>an)<|dG 6 aa aj (fun _=>nc aa) (fun _=>an)<|dG 7 aa aj (fun _=>fa u6 aa) (fun _=>an)<|kI 8 aa aj (fun w' a=>ld bz aa<|Md.aR a ((a7 aK.cells).trans aa)<|dI aK.on aK.cells az) an<|gE 9 aa aj<|fZ nq aa aa fun fX dk f5 en dF=> ?_
 have aC:=im en.md
 have Y:=aK.wk aC
 have cD:=dR.wk aC
 have gl:=(dB.1 Y.cells).1
 have cS:(fun w'=>Md (fun k=>aA.vn.ownBlock=some k) aX w') dk:=Md.mono aC fun _ _ h=>h.elim
 refine ⟨cS,?_⟩
 refine gE 10 aa aj<|ap nq (Y.on) aa ab aa (aO.ec dF) (aa) (aa) (by simp only [bM]; omega) (by simp only [bM]; omega) fun v145 bX c9 aH gp ga=> ?_
 have ek:=(eh.trans<|Wk.mw aC).trans<|Mw.of aH (TF.own Y.on az) fun k hk=>(dS Y.on hk).1
 have cY:TF dk [5] (fun k=>aA.vn.ownBlock=some k):=TF.own Y.on az
 have cF:=cD.md aH cY az fun h=>by obtain ⟨f,cn,_⟩:=cD.cm; exact cY.no (eH cn) az h
 have bs:=aH.aJ Y.cells<|dI Y.on Y.cells az
 have ci:=aH.aJ (Wk.aJ aC c3)<|dI Y.on (Wk.aJ aC c3) az
 have eK:=(eF.wk aC).md aH<|ik Y.on az
 have e0:bw bX B 3 1 v145 ((F.rules++xs)++ [q]).length (((F.rules++xs)++ [q]).map fun r=>jk .i64 (r.line:Nat)):=by
  rw [ir,bM]
  show bw bX B 3 1 v145 _ (_++ [jk .i64 (q.line:Nat)])
  rw [e4]
  exact c9
 have cb:(fun w'=>Md (fun k=>aA.vn.ownBlock=some k) aX w') bX:=cS.trans' aH fun _ _ h=>h
 refine ⟨cb,?_⟩
 refine dG 11 aa aj (fun _=>nc aa) (fun _=>cb)<|dG 12 aa aj (fun _=>fa BZ aa) (fun _=>cb)<|dO 13 aa aj aj<|cT Bg aa aa (v:=v145) (eS c9) bs (by show _ < 7; omega) fun bU ba dz=> ?_
 have cX:TF bX [197] (fun k=>k=H.rb):=TF.eq (dA bs) az
 have dT:=cF.md ba cX az fun h=>by obtain ⟨f,cn,_⟩:=cF.cm; exact cX.no (eH cn) az h
 exact eQ aj<|bn<|tn<|dU _ _<|rg aa<|p (ad aa aa<|bY ab)<|p mv<|nl<|tn<|⟨_,ab,i+1,xs++ [q],rest,bS,{G with v12:=v131,rn:=G.rn++ [.slice a2 q.next.length a3]},{aA with vn:=v145},ab,(by rw [show n - (i+1)=n - i - 1 by omega]; exact aP.step ab df cq),(by rw [bM,fv]; rfl),(by rw [← dH]; exact dT),(by rw [← dH]; exact dE.Wm (q:=q) Y aH e0 ba dz aa fun _=>rfl),(⟨by simp only [bM,e9]; omega,a4.sl,a4.row,a4.kd,a4.al⟩),(ek.trans<|Mw.of ba (TF.eq (dA bs) az) fun k hk=>hk ▸ Y.lo.1),(ba.aJ ci fun h=>by rw [h,bs] at ci; cases ci),(eK.md ba<|fz bs az),aa,aa,aa,aa,aa,aa⟩
 refine ext<|te _<|te _<|be<|jO<|f0 aa ?_
 rw [show n - i=0 by omega] at aP
 exact ⟨aa,_,rows',bR,Q8 ac aT aS bx aP.done,⟨G,R',cC,au,a5⟩,cG⟩
end Go.Hb.nE
end
section
namespace Go.Hb
open Go.Hb.nE Go.Hb.ox
def sY:dm:=⟨0,0,false,0,0⟩
theorem Ts {x:Nat} :∀ {cs:List dm} {i:Nat},cs.findIdx? (fun c=>decide (c.flag=x))=some i→∃ c,cs[i]? =some c∧eb cs x=some c:=by
 intro cs
 induction cs with
 | nil=>intro i h; simp at h
 | cons a l C=>
   intro i h
   rw [List.findIdx?_cons] at h
   unfold eb
   rw [NB]
   by_cases q:a.flag=x
   · simp only [q,decide_true,if_true] at h ⊢
     cases h
     exact ⟨a,aa,aa⟩
   · simp only [q,decide_false] at h ⊢
     simp only [Bool.false_eq_true,if_false,Option.map_eq_some_iff] at h
     obtain ⟨j,A,rfl⟩:=h
     obtain ⟨c,h1,h2⟩:=C A
     exact ⟨c,by simpa using h1,h2⟩
theorem Km {F:aU} {x:Nat} (h:x=F.sp.getD 0 0):mH F x=true :=by unfold mH; rw [decide_eq_true h]; rfl
theorem Kn {F:aU} {x:Nat} (h:(eb F.bA x).isSome=true) (hk:((eb F.bA x).getD sY).kind=2):mH F x=true :=by
 unfold mH
 obtain ⟨c,a⟩:=ph.1 h
 rw [a] at hk ⊢
 simp only [zZ] at hk
 simp [hk]
theorem yQ {F:aU} {x:Nat} (a:x≠F.sp.getD 0 0) (h:(eb F.bA x).isSome=true) (hk:((eb F.bA x).getD sY).kind≠2):mH F x=false :=by
 unfold mH
 obtain ⟨c,i⟩:=ph.1 h
 rw [i] at hk ⊢
 simp only [zZ] at hk
 rw [decide_eq_false a]
 simp [hk]
theorem yR {F:aU} {x:Nat} (a:x≠F.sp.getD 0 0) (h:(eb F.bA x).isSome=false):mH F x=false :=by
 unfold mH
 rw [decide_eq_false a]
 cases hc:eb F.bA x with
 | none=>rfl
 | some c=>rw [hc] at h; cases h
theorem ql {F:aU} {q:dp} {j:Nat} (a:j < q.next.length) (h:mH F (q.next.getD j 0)=false):nK F q=true :=by
 unfold nK
 rw [List.any_eq_true]
 exact ⟨_,dY a,by rw [h]; rfl⟩
theorem Fq {F:aU} {q:dp} (h:∀ j,j < q.next.length→mH F (q.next.getD j 0)=true):nK F q=false :=by
 unfold nK
 rw [List.any_eq_false]
 intro x i
 obtain ⟨j,a,rfl⟩:=nZ 0 i
 rw [h j a]; simp
theorem qy {p:dp→Bool} {q:dp} :∀ {l:List dp} {i:Nat},(∀ j A,j < i→l[j]? =some A→p A=false)→l[i]? =some q→p q=true→l.find? p=some q:=by
 intro l
 induction l with
 | nil=>intro i _ h; simp at h
 | cons a l G=>
   intro i C hi hp
   rw [NB]
   cases i with
   | zero=>simp only [uj,Option.some.injEq] at hi; subst hi; rw [hp]
   | succ i=>
     rw [C 0 a ab rfl]
     exact G (i:=i) (fun j A I E=>C (j+1) A ab<|by simpa using E) (by simpa using hi) hp
theorem HN {p:dp→Bool} {l:List dp} (h:∀ j i,j < l.length→l[j]? =some i→p i=false):l.find? p=none:=by
 rw [EC]
 intro q A
 obtain ⟨j,a⟩:=wS A
 rw [h j q (fS.1 a).1 a]; simp
theorem Tu {x:Nat} {cs:List dm} (h:cs.findIdx? (fun c=>decide (c.flag=x))=none):eb cs x=none:=by
 rw [NC] at h
 unfold eb
 rw [EC]
 intro c a
 simpa using h c a
theorem BA (B fb mc:Nat) (F:aU) (V:ff) (x:Nat) (w:World) (q:dX w B fb mc F V) (aJ:F.bA.length≤70000):
 bp aw 137 (bh [aT fb,bj x]) w (fun v w'=>v= .tuple #[.agg (nN<|(eb F.bA x).getD sY).toArray,.bool (eb F.bA x).isSome]∧Wk w w'):=by
 obtain ⟨ai,kz,O⟩:=cE q.ez
 have J:=q.ez
 rw [O] at J
 have ap:Hb.aR w.heap fb 11=some (.slice ai F.bA.length kz):=by rw [← O]; exact (a7 q.cells).trans rfl
 obtain ⟨f,av,ax⟩:=q.cm
 obtain ⟨iv,ob,az,aC,G⟩:∃ (iv:Nat) (ob:Bool),(f<|bj x).getD (.int .i64 0)=ak iv∧(f<|bj x).isSome=ob∧((ob=false∧eb F.bA x=none)∨(ob=true∧∃ c,F.bA[iv]? =some c∧eb F.bA x=some c)):=by
  rw [ax x]
  cases hfi:F.bA.findIdx? (fun c=>decide (c.flag=x)) with
  | none=>exact ⟨0,false,rfl,rfl,.inl ⟨rfl,Tu hfi⟩⟩
  | some i=>exact ⟨i,true,rfl,rfl,.inr ⟨rfl,Ts hfi⟩⟩
 refine enter func137 aa ntmps137 aa<|ag fun U=>e<|al tW fun aG aK aH a E=>ay<|U<|aB fun Y=>aB fun Z=>rg aa<|au (aT fb)<|p (lN vV aa aa)<|nl<|Z<|cf (aa)<|aQ<|Y<|ag fun ac=>au (aT fb)<|p (nc aa)<|p (fa Ia aa)<|p (ld uA aa<|Wk.aR a.md<|(a7 q.cells).trans aa)<|au (bj x)<|p (JB r7 oY rN (av.wk a.md) aa aa (⟨_,aa⟩) (az)<|aC)<|p mv<|p (xt aa aa)<|p (xt aa aa)<|p aE<|ay<|ac<|aB fun ae=>ag fun ah=>p mv<|p (no aa)<|nl<|ah<|cb aa (fun C=> ?_) fun C=> ?_
 have aD:ob=false :=by simpa using C
 have ar:eb F.bA x=none:=by rcases G with ⟨_,h⟩ | ⟨h,_⟩; exact h; rw [aD] at h; cases h
 exact ag fun A=>p (c8 (ps:= []) (L:= [.int .u16 0,.int .i64 0,.bool false,.int .i64 0,.int .i64 0]) DG aa<|aa)<|e<|dj rF aa aa aa aa (E) (by simp) fun aL an aj=>ay<|A<|rt<|tr<|eD aa (dT (cs:=nN sY) aa uB aa fun j aA=>aj.bG j) ej<|⟨by rw [ar]; rfl,a.md.trans' an fun k hk h=>by omega⟩
 have aF:ob=true :=by simpa using C
 obtain ⟨c,I,aq⟩:∃ c,F.bA[iv]? =some c∧eb F.bA x=some c:=by rcases G with ⟨h,_⟩ | ⟨_,h⟩; rw [aF] at h; cases h; exact h
 have aI:=(fS.1 I).1
 have M:=a6 J a.md
 exact aQ<|ae<|ag fun A=>au (aT fb)<|p (nc aa)<|p (fa gJ aa)<|p (fa tv aa)<|p (ld xp aa<|Wk.aR a.md ap)<|p mv<|p (bc Ti aa aa ab<|aO.ok ((ba M).2) fun h=>by have :=congrArg jD h; rw [show (m9 F.bA).length=F.bA.length*5 from nT (f:=nN) (m:=5) (fun _=>rfl) _] at this; simp at this; omega)<|p (di uB aa (aa)<|fA (f:=nN) (m:=5) (fun _=>rfl) (ba M).2 I)<|e<|dj rF aa aa aa aa (E) (by simp) fun aM ao am=>ay<|A<|rt<|eD aa (dT (cs:=nN c) aa uB aa fun j aA=>am.bG j) ej<|⟨by rw [aq]; rfl,a.md.trans' ao fun k hk h=>by omega⟩
theorem Q1 (B:Nat) (H:dx) (F:aU) (rows:List Rw) (ln:Nat) (seen:List Tx) (w:World) (bA:St w B H F rows ln seen) (bL:∀ q∈F.rules,q.next.length≤64):
 fF aw 86 (bh [.pointer (some ⟨H.rb,0,none⟩)]) w (fun v w'=>v= .tuple #[]∧F.rules.find? (nK F)=none∧(∃ V R' ar,dX w' B H.fb H.mc F V∧dE w' B H F R' rows ar seen)∧fE B H w w') (fun c w'=> ∃ q,F.rules.find? (nK F)=some q∧c=jn 47 q.line 118∧fE B H w w'):=by
 obtain ⟨V,R,M,ao,a1⟩:=bA
 obtain ⟨a12,kA,aK⟩:=cE M.dK
 have bM:=M.dK
 rw [aK] at bM
 have bE:Hb.aR w.heap H.fb 12=some (.slice a12 F.rules.length kA):=by rw [← aK]; exact (a7 M.cells).trans rfl
 obtain ⟨vr,vs,vn⟩:=R
 obtain ⟨ak,cv,b3⟩:=cE ao.on
 obtain rfl :vn= .slice ak F.rules.length cv:=b3
 have cq:=a1.len
 have cr:=ao.lo
 refine ke func86 aa ntmps86 aa<|sq fun b7 bb=>rg aa<|p (aV (.pointer<|some ⟨H.rb,0,none⟩) aa)<|p (nc aa)<|p (fa ig aa)<|p (ld gq aa<|(a7 ao.cells).trans aa)<|p (nc aa)<|p (fa gJ aa)<|p (fa nU aa)<|p (ld lZ aa<|bE)<|p (bJ vU aa aa)<|p mv<|nl<|tn<|bb _ _<|aJ<|lp (fun Z aj ai=> ∃ (i ar:Nat),(i≤F.rules.length)∧(∀ j q,j < i→F.rules[j]? =some q→nK F q=false)∧(dX ai B H.fb H.mc F V)∧(dE ai B H F ⟨vr,vs,.slice ak F.rules.length cv⟩ rows ar seen)∧(fE B H w ai)∧(aj 0= .pointer (some ⟨H.rb,0,none⟩))∧(aj 15= .slice a12 F.rules.length kA)∧(aj 16= .int .i64 (F.rules.length:Nat))∧(aj 17= .int .i64 (i:Nat))∧(F.rules.length - i=Z)) _ ⟨0,ln,ab,(fun j q aT=>by omega),M,ao,(Md.refl _ _),aa,aa,aa,aa,aa⟩ ?_
 rintro Z aj ai ⟨i,ar,hi,I,an,aC,aM,bP,bQ,bR,bS,rfl⟩
 refine fx 0 bP<|fx 15 bQ<|fx 16 bR<|fx 17 bS<|sq fun cc bg=>rg aa<|p (lt aa aa)<|nl<|tn<|bg _ _<|sq fun ce bi=>cd aa (fun bF=> ?_) fun bF=> ?_
 refine aQ<|tn<|bi _ _<|sq fun cf bk=>aJ<|sq fun cg bl=> ?_
 have aG:=an.dK
 rw [aK] at aG
 have aS:i < F.rules.length:=ab
 obtain ⟨vn,b2,aF⟩:=eB.get an.nx (i:=i)<|by rw [fM]; exact aS
 obtain ⟨q,A⟩:∃ q,F.rules[i]? =some q:=⟨_,cI aS⟩
 have bO:(F.rules.map (·.next)).getD i []=q.next:=by rw [da,iq,A]; rfl
 rw [bO] at aF
 have ct:=bL q<|iR A
 obtain ⟨av,ax,rfl⟩:=aF.slice
 have aW:(F.rules.zip V.rn)[i]? =some (q,.slice av q.next.length ax):=by rw [jz]; exact ⟨A,b2⟩
 have aX:(iV<|F.rules.zip V.rn).length=(F.rules.zip V.rn).length*7:=nT (f:=fD) (m:=7) (fun _=>rfl) _
 have bI:(F.rules.map fun r=>jk .i64 (r.line:Nat))[i]? =some (.int .i64 (q.line:Nat)):=by rw [iq,A]; rfl
 refine rg aa<|p (aV (.int .i64 (i:Nat)) aa)<|p (bc nd aa aa ab<|aO.ok ((ba aG).2) (fun h=>by rw [h] at aX; have h2:0=(F.rules.zip V.rn).length*7:=aX; have h3:=(fS.1 aW).1; omega)) ?_
 refine p (di m6 aa (aa)<|fA (f:=fD) (m:=7) (fun _=>rfl) (ba aG).2 aW)<|e<|al se fun cm cy co aP a3=> ?_
 skip
 refine p (cU (.int .i64 (i:Nat)) aa)<|e<|dj pG aa aa aa aa (a3) (by simp) fun b6 br a2=> ?_
 have am:Wk ai b6:=aP.md.trans' br fun k hk h=>by omega
 have a8:=an.wk am
 have C:=aC.wk am
 have cu:=aP.size
 have cs:=(dB.1 aC.cells).1
 refine nl<|tn<|bl _ _<|sq fun ch bm=>rg aa<|p (aV (.pointer<|some ⟨H.rb,0,none⟩) aa)<|p (aV (.pointer<|some ⟨H.rb,0,none⟩) aa)<|p (nc aa)<|p (fa BZ aa)<|p (ld pC aa<|(a7 C.cells).trans aa)<|p (aV (.int .i64 (i:Nat)) aa)<|p (bc kf aa aa ab<|aO.ok ((ba C.on).2)<|by simp; intro h; rw [h] at A; simp at A)<|p (ld bz aa<|aO.gN (ba C.on).2 bI)<|p (nc aa)<|p (fa u6 aa)<|e<|cT gr aa aa (v:= .int .i64 (q.line:Nat)) aa C.cells (by show _ < 7; decide) fun cB ae a6=> ?_
 have bx:=C.dD (R':=⟨vr,vs,.slice ak F.rules.length cv⟩) (ln':=q.line) ae a6 rfl C.rws C.rt
 have a9:=a8.rb C ae
 have bD:=ae.B a2 fun h=>by omega
 have bB:=(aF.wk am).md ae<|fz C.cells az
 have bt:=(aM.trans<|Wk.mw am).trans<|fE.rb C ae
 refine nl<|tn<|bm _ _<|sq fun ci bo=>rg aa<|p (fa qA aa)<|p (ld m5 aa<|(bD.aR 6).trans aa)<|p (bJ oT aa aa)<|p mv<|nl<|tn<|bo _ _<|aJ<|lp (fun Z J Y=> ∃ (j:Nat),(j≤q.next.length)∧(∀ ah,ah < j→mH F (q.next.getD ah 0)=true)∧(dX Y B H.fb H.mc F V)∧(dE Y B H F ⟨vr,vs,.slice ak F.rules.length cv⟩ rows q.line seen)∧(fE B H w Y)∧(Tg Y B 51 q.next.length (.slice av q.next.length ax)<|q.next.map bj)∧(J 0= .pointer (some ⟨H.rb,0,none⟩))∧(J 15= .slice a12 F.rules.length kA)∧(J 16= .int .i64 (F.rules.length:Nat))∧(J 17= .int .i64 (i:Nat))∧(J 33= .slice av q.next.length ax)∧(J 34= .int .i64 (q.next.length:Nat))∧(J 35= .int .i64 (j:Nat))∧(q.next.length - j=Z)) _ ⟨0,ab,(fun ah bH=>by omega),a9,bx,bt,bB,aa,aa,aa,aa,aa,aa,aa,aa⟩ ?_
 rintro Z J Y ⟨j,aT,aH,aA,aD,aN,ap,bU,bV,bW,bX,bZ,b0,b1,rfl⟩
 refine fx 0 bU<|fx 15 bV<|fx 16 bW<|fx 17 bX<|fx 33 bZ<|fx 34 b0<|fx 35 b1<|sq fun cj bp=>rg aa<|p (lt aa aa)<|nl<|tn<|bp _ _<|sq fun ck bq=>cd aa (fun bG=> ?_) fun bG=> ?_
 refine aQ<|tn<|bq _ _<|sq fun b8 aB=>aJ<|sq fun b9 bd=> ?_
 have b4:(q.next.map bj)[j]? =some (bj<|q.next.getD j 0):=by rw [iq,da,cI (by omega :j < q.next.length)]; rfl
 refine rg aa<|p (bc ca aa aa ab<|aO.ok (ap.cV.2)<|bT ab)<|p (ld dd aa<|aO.gN ap.cV.2 b4)<|p aE<|nl<|tn<|bd _ _<|sq fun cb bf=>rg aa<|p (aV (.pointer<|some ⟨H.rb,0,none⟩) aa)<|p (nc aa)<|p (fa ig aa)<|p (ld gq aa<|(a7 aD.cells).trans aa)<|p mv<|e<|cl Ay (BA B H.fb H.mc F V (q.next.getD j 0) _ aA ab) aa fun cx cz bw=> ?_
 obtain ⟨rfl,aL⟩:=bw
 have cw:=aL.size
 refine p mv<|p (xt aa aa)<|p (xt aa aa)<|e<|al tW fun cn cA cp bv a4=>e<|dj rF aa aa aa aa (a4) (by simp) fun au bs a5=> ?_
 have ac:Wk Y au:=(aL.trans bv.md).trans' bs fun k hk h=>by omega
 have ay:=aA.wk ac
 have U:=aD.wk ac
 have E:=aN.trans<|Wk.mw ac
 refine p aE<|nl<|tn<|bf _ _<|rg aa<|p (aV (.pointer<|some ⟨H.rb,0,none⟩) aa)<|p mv<|p (aV (.pointer<|some ⟨H.rb,0,none⟩) aa)<|p (nc aa)<|p (fa ig aa)<|p (ld gq aa<|(a7 U.cells).trans aa)<|p (nc aa)<|p (fa gJ aa)<|p (fa yo aa)<|p (kg uE aa aa ab)<|p (ld dd aa<|(a7 ay.cells).trans aa)<|p (bK aa aa)<|p mv<|gs (t:=60) aa (fun O=> ?_) fun O=> ?_
 refine sk aa aa aa aa<|sk aa aa aa aa<|kn aa aa aa<|kn aa aa aa<|kn aa aa aa<|sk aa aa aa aa<|p (bC aa) ?_
 refine eP aa (dW iD (iM H.rb q.line _ 118 au U.dw az) aa fun aY aZ ag=> ?_) (fun c w' a a0 M=>by
  first
   | exact absurd a.2.1 az
   | exact ⟨q,qy I A (ql (j:=j) ab<|yQ (fun h=>O<|by rw [h]) G<|by have :=of_decide_eq_false a.2.1; omega),a.1,by rw [a.2.2]; exact E⟩
   | exact ⟨q,qy I A (ql (j:=j) ab<|yR (fun h=>O<|by rw [h])<|by simpa using G),a.1,by rw [a.2.2]; exact E⟩)
 obtain ⟨rfl,aq,rfl⟩:=ag
 exact nl<|bn<|tn<|aB _ _<|rg aa<|p (ad aa aa<|bY ab)<|p mv<|nl<|tn<|⟨_,ab,j+1,ab,(fun k hk=>by rcases fu k j with h | h <;> first | exact aH k h | (rw [show k=j by omega]; exact Km ab)),ay,U,E,(ap.wk ac),aa,aa,aa,aa,aa,aa,aa,aa⟩
 refine pg aa aa aa mv<|pg aa aa aa mv<|gb (t:=62) aa (fun G=> ?_) fun G=> ?_
 refine pg aa aa aa (fa uU aa)<|pg aa aa aa (ld bz aa<|(a5.aR 1).trans aa)<|pg aa aa aa (bK aa aa)<|pg aa aa aa (bC aa)<|p (bu aa) ?_
 refine eP aa (dW iD (iM H.rb q.line _ 118 au U.dw az) aa fun aY aZ ag=> ?_) (fun c w' a a0 M=>by
  first
   | exact absurd a.2.1 az
   | exact ⟨q,qy I A (ql (j:=j) ab<|yQ (fun h=>O<|by rw [h]) G<|by have :=of_decide_eq_false a.2.1; omega),a.1,by rw [a.2.2]; exact E⟩
   | exact ⟨q,qy I A (ql (j:=j) ab<|yR (fun h=>O<|by rw [h])<|by simpa using G),a.1,by rw [a.2.2]; exact E⟩)
 obtain ⟨rfl,aq,rfl⟩:=ag
 exact nl<|bn<|tn<|aB _ _<|rg aa<|p (ad aa aa<|bY ab)<|p mv<|nl<|tn<|⟨_,ab,j+1,ab,(fun k hk=>by rcases fu k j with h | h <;> first | exact aH k h | (rw [show k=j by omega]; exact Kn G<|by have :=of_decide_eq_true aq; omega)),ay,U,E,(ap.wk ac),aa,aa,aa,aa,aa,aa,aa,aa⟩
 refine sk aa aa aa aa<|sk aa aa aa aa<|sk aa aa aa aa<|pg aa aa aa (bu aa)<|p (bu aa) ?_
 refine eP aa (dW iD (iM H.rb q.line _ 118 au U.dw az) aa fun aY aZ ag=> ?_) (fun c w' a a0 M=>by
  first
   | exact absurd a.2.1 az
   | exact ⟨q,qy I A (ql (j:=j) ab<|yQ (fun h=>O<|by rw [h]) G<|by have :=of_decide_eq_false a.2.1; omega),a.1,by rw [a.2.2]; exact E⟩
   | exact ⟨q,qy I A (ql (j:=j) ab<|yR (fun h=>O<|by rw [h])<|by simpa using G),a.1,by rw [a.2.2]; exact E⟩)
 obtain ⟨rfl,aq,rfl⟩:=ag
 exact nl<|bn<|tn<|aB _ _<|rg aa<|p (ad aa aa<|bY ab)<|p mv<|nl<|tn<|absurd aq az
 exact ext<|te _<|te _<|be<|bn<|tn<|bk _ _<|rg aa<|p (ad aa aa<|bY ab)<|p mv<|nl<|tn<|⟨_,ab,i+1,q.line,ab,(fun k b5 hk aI=>by rcases fu k i with h | h <;> first | exact I k b5 h aI | (rw [show k=i by omega,A] at aI; cases aI; exact Fq fun ah bH=>aH ah ab)),aA,aD,aN,aa,aa,aa,aa,aa⟩
 refine ext<|te _<|te _<|be<|jO<|f0 aa ?_
 exact ⟨aa,HN (fun j q aT bN=>I j q ab bN),⟨V,_,_,an,aC⟩,aM⟩
end Go.Hb
end
namespace Go.Hb
def Nx (F:aU):Prop :=(∀ l∈F.aliases,l.length≤64)∧∀ q∈F.rules,q.next.length≤64
theorem Cm {α:Type} {hd:List Tx} {rd:Nat→List Tx→Except Nat α} {eof:Nat} :∀ (n:Nat) (rows:List Rw) (r:List α×List Rw),group hd rd eof n rows= .ok r→∀ x∈r.1,∃ ln row,rd ln row= .ok x:=by
 intro n
 induction n with
 | zero=>intro rows r h; simp only [group,sg] at h; subst h; intro x a; cases a
 | succ n i=>
   intro rows r h
   cases rows with
   | nil=>simp [group] at h
   | cons q rows=>
     obtain ⟨ln,row⟩:=q
     simp only [group] at h
     split at h
     · cases h
     · cases hr:rd ln row with
       | error e=>rw [hr] at h; cases h
       | ok y=>
         rw [hr] at h
         simp only at h
         cases hg:group hd rd eof n rows with
         | error e=>rw [hg] at h; cases h
         | ok A=>
           rw [hg] at h
           simp only [sg] at h
           subst h
           intro x a
           rcases e7.1 a with a | a
           · exact ⟨ln,row,by rw [a]; exact hr⟩
           · exact i rows A hg x a
theorem Iv {kind:Nat} {s:Tx} {l:List Nat} (h:kT kind s= .ok l):l.length≤64:=by
 unfold kT at h
 split at h
 · cases h
 · rename_i a
   cases h
   exact (It<|jr.1 a).1
theorem Oq {kind ln:Nat} {row:List Tx} {l:List Nat} (h:ky kind ln row= .ok l):l.length≤64:=by
 unfold ky at h
 split at h
 · cases h
 · exact Iv h
theorem x7 {kind:Nat} {al:List (List Nat)} {s:Tx} {l:List Nat} (a:∀ l∈al,l.length≤64) (h:fX kind al s= .ok l):l.length≤64:=by
 unfold fX at h
 split at h
 · exact Iv h
 · split at h
   · cases h
   · split at h
     · cases h
     · cases h
       rename_i n _ _
       rw [da]
       cases hg:al[n - 1]? with
       | none=>simp
       | some x=>exact a x<|iR hg
theorem XU {kind ln:Nat} {al:List (List Nat)} {c:dm} {row:List Tx} {q:dp} (i:∀ l∈al,l.length≤64) (h:fI kind al c ln row= .ok q):q.next.length≤64:=by
 unfold fI at h
 split at h
 · cases h
 · split at h
   · cases h
   · split at h
     · cases h
     · split at h
       · cases h
       · rename_i nx a
         split at h
         · cases h
         · cases h
           unfold kY at a
           split at a
           · split at a
             · cases a
             · exact x7 i a
           · cases a; simp
theorem yz {eof ln:Nat} {F F':aU} {hs:List Tx} {rows rows':List Rw} {row:List Tx} (h:Nx F) (a:cw eof F hs rows ln row= .ok (F',rows')):Nx F':=by
 unfold cw at a
 split at a
 · unfold ko at a
   split at a
   · cases a
   · cases a; exact h
 · split at a
   · unfold kH at a
     split at a
     · cases a
     · split at a
       · cases a
       · cases a; exact h
   · split at a
     · unfold mN at a
       split at a
       · cases a
       · cases a; exact h
     · split at a
       · unfold mR at a
         split at a
         · cases a
         · cases a; exact h
       · split at a
         · unfold kX at a
           split at a
           · cases a
           · split at a
             · cases a
             · cases a; exact h
         · split at a
           · unfold km at a
             split at a
             · cases a
             · split at a
               · cases a
               · cases a; exact h
           · split at a
             · unfold jU at a
               split at a
               · cases a
               · split at a
                 · cases a
                 · split at a
                   · cases a
                   · rename_i r C
                     cases a
                     refine ⟨fun l i=> ?_,h.2⟩
                     rcases jF.1 i with i | i
                     · exact h.1 l i
                     · obtain ⟨_,_,h2⟩:=Cm _ _ _ C l i
                       exact Oq h2
             · unfold gO at a
               split at a
               · cases a
               · split at a
                 · cases a
                 · split at a
                   · cases a
                   · split at a
                     · cases a
                     · split at a
                       · cases a
                       · rename_i r C
                         cases a
                         refine ⟨h.1,fun q A=> ?_⟩
                         rcases jF.1 A with A | A
                         · exact h.2 q A
                         · obtain ⟨_,_,h2⟩:=Cm _ _ _ C q A
                           exact XU h.1 h2
theorem US {eof ln:Nat} {F F':aU} {hs:List Tx} {rows rows':List Rw} {row:List Tx} (i:row.getD 0 []∉eh) (a:cw eof F hs rows ln row= .ok (F',rows')):F'.sp=F.sp:=by
 unfold cw at a
 rw [if_neg i] at a
 unfold kH mN mR kX km jU gO at a
 repeat' split at a
 all_goals first
  | (cases a; done)
  | (cases a; rfl)
theorem I7 {eof ln:Nat} {F F':aU} {seen:List Tx} {rows rows':List Rw} {row:List Tx} (h:ku F seen) (i:cw eof F seen rows ln row= .ok (F',rows')):ku F' (seen++ [row.getD 0 []]):=by
 intro k hk A
 rw [jF,List.mem_singleton] at A
 have E:k∉seen:=fun h=>A<|.inl h
 have G:k≠row.getD 0 []:=fun h=>A<|.inr h
 by_cases q:row.getD 0 []∈eh
 · unfold cw at i
   rw [if_pos q] at i
   unfold ko at i
   split at i
   · cases i
   · cases i
     show (F.sp.set (eh.idxOf<|row.getD 0 []) _).getD (eh.idxOf k) 0=0
     rw [da,k5,if_neg,← da]
     · exact h k hk E
     · intro he
       have C:∀ a∈eh,eh.getD (eh.idxOf a) []=a:=az
       have h1:=C _ q
       have h2:=C _ hk
       rw [he] at h1
       exact G<|h2.symm.trans h1
 · rw [US q i]; exact h k hk E
def iJ (s:Tx):Option Value:=if s=du then some (bO #[.int .i64 (4:Nat),.func (.func 135) #[] #[]]) else if s=fH then some (bO #[.int .i64 (4:Nat),.func (.func 135) #[] #[]]) else if s=eL then some (bO #[.int .i64 (2:Nat),.func (.func 134) #[] #[]]) else if s=fk then some (bO #[.int .i64 (2:Nat),.func (.func 133) #[] #[]]) else if s=kh then some (bO #[.int .i64 (2:Nat),.func (.func 132) #[] #[]]) else if s=lP then some (bO #[.int .i64 (2:Nat),.func (.func 131) #[] #[]]) else if s=lu then some (bO #[.int .i64 (2:Nat),.func (.func 131) #[] #[]]) else if s=kV then some (bO #[.int .i64 (2:Nat),.func (.func 131) #[] #[]]) else if s=kG then some (bO #[.int .i64 (2:Nat),.func (.func 131) #[] #[]]) else if s=ki then some (bO #[.int .i64 (2:Nat),.func (.func 131) #[] #[]]) else if s=iU then some (bO #[.int .i64 (2:Nat),.func (.func 130) #[] #[]]) else if s=iL then some (bO #[.int .i64 (2:Nat),.func (.func 129) #[] #[]]) else if s=ij then some (bO #[.int .i64 (2:Nat),.func (.func 128) #[] #[]]) else none
def zF:Value→Option Value:=fun _=>none
def zG:Tx→Option Value:=fun _=>none
theorem str_inj {a b:Tx} :str a=str b↔a=b:=⟨fun h=>by unfold str at h; cases h; rfl,fun h=>by rw [h]⟩
theorem mK {f:Value→Option Value} {g:Tx→Option Value} {k:Tx} {v:Value} (h:∀ s,f (str s)=g s) (s:Tx):bW f (str k) v (str s)=if s=k then some v else g s:=by
 by_cases hs:s=k
 · subst hs; rw [vB,if_pos rfl]
 · rw [tE (fun h2=>hs<|str_inj.1 h2),if_neg hs,h s]
theorem UT (w:World):
 bp aw 83 (bh []) w (fun v w'=> ∃ b,v= .map (some b)∧b=w.heap.size∧(∃ f,dy w'.heap b jo f∧∀ s,f (str s)=iJ s)∧Wk w w'):=by
 refine enter func83 aa ntmps83 aa<|ag fun ab=>ay<|ab<|ag fun ac=>e<|vt fun a i bi aN ae=> ?_
 have aO:dy i.heap a jo zF:=dy.nil ae
 have bj:∀ s:Tx,zF (str s)=zG s:=fun _=>rfl
 have ah:Wk w i:=aN.md
 refine p (c8 (ps:= [(0,ak 2),(1,.func (.func 128) #[] #[])]) (L:= [ak 2,.func (.func 128) #[] #[]]) mP aa<|aa)<|e<|mE mi jg (aO) aa aa aa (⟨_,aa⟩) fun I aF aU=> ?_
 have a3:dy I.heap a jo (bW zF (str ij)<|bO #[ak 2,.func (.func 128) #[] #[]]):=aU
 have bk:=mK (k:=ij) (v:=bO #[ak 2,.func (.func 128) #[] #[]]) bj
 have ai:Wk w I:=ah.trans' aF fun k hk h=>by omega
 refine p (c8 (ps:= [(0,ak 2),(1,.func (.func 129) #[] #[])]) (L:= [ak 2,.func (.func 129) #[] #[]]) mP aa<|aa)<|e<|mE mi jg (a3) aa aa aa (⟨_,aa⟩) fun V aK a0=> ?_
 have a4:dy V.heap a jo (bW (bW zF (str ij)<|bO #[ak 2,.func (.func 128) #[] #[]]) (str iL)<|bO #[ak 2,.func (.func 129) #[] #[]]):=a0
 have bq:=mK (k:=iL) (v:=bO #[ak 2,.func (.func 129) #[] #[]]) bk
 have ao:Wk w V:=ai.trans' aK fun k hk h=>by omega
 refine p (c8 (ps:= [(0,ak 2),(1,.func (.func 130) #[] #[])]) (L:= [ak 2,.func (.func 130) #[] #[]]) mP aa<|aa)<|e<|mE mi jg (a4) aa aa aa (⟨_,aa⟩) fun Y aL a1=> ?_
 have a8:dy Y.heap a jo (bW (bW (bW zF (str ij)<|bO #[ak 2,.func (.func 128) #[] #[]]) (str iL)<|bO #[ak 2,.func (.func 129) #[] #[]]) (str iU)<|bO #[ak 2,.func (.func 130) #[] #[]]):=a1
 have br:=mK (k:=iU) (v:=bO #[ak 2,.func (.func 130) #[] #[]]) bq
 have ap:Wk w Y:=ao.trans' aL fun k hk h=>by omega
 refine p (c8 (ps:= [(0,ak 2),(1,.func (.func 131) #[] #[])]) (L:= [ak 2,.func (.func 131) #[] #[]]) mP aa<|aa)<|e<|mE mi jg (a8) aa aa aa (⟨_,aa⟩) fun Z aM a2=> ?_
 have a9:dy Z.heap a jo (bW (bW (bW (bW zF (str ij)<|bO #[ak 2,.func (.func 128) #[] #[]]) (str iL)<|bO #[ak 2,.func (.func 129) #[] #[]]) (str iU)<|bO #[ak 2,.func (.func 130) #[] #[]]) (str ki)<|bO #[ak 2,.func (.func 131) #[] #[]]):=a2
 have bs:=mK (k:=ki) (v:=bO #[ak 2,.func (.func 131) #[] #[]]) br
 have aq:Wk w Z:=ap.trans' aM fun k hk h=>by omega
 refine p (c8 (ps:= [(0,ak 2),(1,.func (.func 131) #[] #[])]) (L:= [ak 2,.func (.func 131) #[] #[]]) mP aa<|aa)<|e<|mE mi jg (a9) aa aa aa (⟨_,aa⟩) fun q aA aP=> ?_
 have ba:dy q.heap a jo (bW (bW (bW (bW (bW zF (str ij)<|bO #[ak 2,.func (.func 128) #[] #[]]) (str iL)<|bO #[ak 2,.func (.func 129) #[] #[]]) (str iU)<|bO #[ak 2,.func (.func 130) #[] #[]]) (str ki)<|bO #[ak 2,.func (.func 131) #[] #[]]) (str kG)<|bO #[ak 2,.func (.func 131) #[] #[]]):=aP
 have bt:=mK (k:=kG) (v:=bO #[ak 2,.func (.func 131) #[] #[]]) bs
 have ar:Wk w q:=aq.trans' aA fun k hk h=>by omega
 refine p (c8 (ps:= [(0,ak 2),(1,.func (.func 131) #[] #[])]) (L:= [ak 2,.func (.func 131) #[] #[]]) mP aa<|aa)<|e<|mE mi jg (ba) aa aa aa (⟨_,aa⟩) fun A aB aQ=> ?_
 have bb:dy A.heap a jo (bW (bW (bW (bW (bW (bW zF (str ij)<|bO #[ak 2,.func (.func 128) #[] #[]]) (str iL)<|bO #[ak 2,.func (.func 129) #[] #[]]) (str iU)<|bO #[ak 2,.func (.func 130) #[] #[]]) (str ki)<|bO #[ak 2,.func (.func 131) #[] #[]]) (str kG)<|bO #[ak 2,.func (.func 131) #[] #[]]) (str kV)<|bO #[ak 2,.func (.func 131) #[] #[]]):=aQ
 have bu:=mK (k:=kV) (v:=bO #[ak 2,.func (.func 131) #[] #[]]) bt
 have au:Wk w A:=ar.trans' aB fun k hk h=>by omega
 refine p (c8 (ps:= [(0,ak 2),(1,.func (.func 131) #[] #[])]) (L:= [ak 2,.func (.func 131) #[] #[]]) mP aa<|aa)<|e<|mE mi jg (bb) aa aa aa (⟨_,aa⟩) fun C aC aR=> ?_
 have bc:dy C.heap a jo (bW (bW (bW (bW (bW (bW (bW zF (str ij)<|bO #[ak 2,.func (.func 128) #[] #[]]) (str iL)<|bO #[ak 2,.func (.func 129) #[] #[]]) (str iU)<|bO #[ak 2,.func (.func 130) #[] #[]]) (str ki)<|bO #[ak 2,.func (.func 131) #[] #[]]) (str kG)<|bO #[ak 2,.func (.func 131) #[] #[]]) (str kV)<|bO #[ak 2,.func (.func 131) #[] #[]]) (str lu)<|bO #[ak 2,.func (.func 131) #[] #[]]):=aR
 have bv:=mK (k:=lu) (v:=bO #[ak 2,.func (.func 131) #[] #[]]) bu
 have av:Wk w C:=au.trans' aC fun k hk h=>by omega
 refine p (c8 (ps:= [(0,ak 2),(1,.func (.func 131) #[] #[])]) (L:= [ak 2,.func (.func 131) #[] #[]]) mP aa<|aa)<|e<|mE mi jg (bc) aa aa aa (⟨_,aa⟩) fun E aD aS=> ?_
 have bd:dy E.heap a jo (bW (bW (bW (bW (bW (bW (bW (bW zF (str ij)<|bO #[ak 2,.func (.func 128) #[] #[]]) (str iL)<|bO #[ak 2,.func (.func 129) #[] #[]]) (str iU)<|bO #[ak 2,.func (.func 130) #[] #[]]) (str ki)<|bO #[ak 2,.func (.func 131) #[] #[]]) (str kG)<|bO #[ak 2,.func (.func 131) #[] #[]]) (str kV)<|bO #[ak 2,.func (.func 131) #[] #[]]) (str lu)<|bO #[ak 2,.func (.func 131) #[] #[]]) (str lP)<|bO #[ak 2,.func (.func 131) #[] #[]]):=aS
 have bw:=mK (k:=lP) (v:=bO #[ak 2,.func (.func 131) #[] #[]]) bv
 have ax:Wk w E:=av.trans' aD fun k hk h=>by omega
 refine p (c8 (ps:= [(0,ak 2),(1,.func (.func 132) #[] #[])]) (L:= [ak 2,.func (.func 132) #[] #[]]) mP aa<|aa)<|e<|mE mi jg (bd) aa aa aa (⟨_,aa⟩) fun G aE aT=> ?_
 have bf:dy G.heap a jo (bW (bW (bW (bW (bW (bW (bW (bW (bW zF (str ij)<|bO #[ak 2,.func (.func 128) #[] #[]]) (str iL)<|bO #[ak 2,.func (.func 129) #[] #[]]) (str iU)<|bO #[ak 2,.func (.func 130) #[] #[]]) (str ki)<|bO #[ak 2,.func (.func 131) #[] #[]]) (str kG)<|bO #[ak 2,.func (.func 131) #[] #[]]) (str kV)<|bO #[ak 2,.func (.func 131) #[] #[]]) (str lu)<|bO #[ak 2,.func (.func 131) #[] #[]]) (str lP)<|bO #[ak 2,.func (.func 131) #[] #[]]) (str kh)<|bO #[ak 2,.func (.func 132) #[] #[]]):=aT
 have bx:=mK (k:=kh) (v:=bO #[ak 2,.func (.func 132) #[] #[]]) bw
 have az:Wk w G:=ax.trans' aE fun k hk h=>by omega
 refine p (c8 (ps:= [(0,ak 2),(1,.func (.func 133) #[] #[])]) (L:= [ak 2,.func (.func 133) #[] #[]]) mP aa<|aa)<|e<|mE mi jg (bf) aa aa aa (⟨_,aa⟩) fun J aG aV=> ?_
 have bg:dy J.heap a jo (bW (bW (bW (bW (bW (bW (bW (bW (bW (bW zF (str ij)<|bO #[ak 2,.func (.func 128) #[] #[]]) (str iL)<|bO #[ak 2,.func (.func 129) #[] #[]]) (str iU)<|bO #[ak 2,.func (.func 130) #[] #[]]) (str ki)<|bO #[ak 2,.func (.func 131) #[] #[]]) (str kG)<|bO #[ak 2,.func (.func 131) #[] #[]]) (str kV)<|bO #[ak 2,.func (.func 131) #[] #[]]) (str lu)<|bO #[ak 2,.func (.func 131) #[] #[]]) (str lP)<|bO #[ak 2,.func (.func 131) #[] #[]]) (str kh)<|bO #[ak 2,.func (.func 132) #[] #[]]) (str fk)<|bO #[ak 2,.func (.func 133) #[] #[]]):=aV
 have bl:=mK (k:=fk) (v:=bO #[ak 2,.func (.func 133) #[] #[]]) bx
 have aj:Wk w J:=az.trans' aG fun k hk h=>by omega
 refine p (c8 (ps:= [(0,ak 2),(1,.func (.func 134) #[] #[])]) (L:= [ak 2,.func (.func 134) #[] #[]]) mP aa<|aa)<|e<|mE mi jg (bg) aa aa aa (⟨_,aa⟩) fun M aH aW=> ?_
 have a5:dy M.heap a jo (bW (bW (bW (bW (bW (bW (bW (bW (bW (bW (bW zF (str ij)<|bO #[ak 2,.func (.func 128) #[] #[]]) (str iL)<|bO #[ak 2,.func (.func 129) #[] #[]]) (str iU)<|bO #[ak 2,.func (.func 130) #[] #[]]) (str ki)<|bO #[ak 2,.func (.func 131) #[] #[]]) (str kG)<|bO #[ak 2,.func (.func 131) #[] #[]]) (str kV)<|bO #[ak 2,.func (.func 131) #[] #[]]) (str lu)<|bO #[ak 2,.func (.func 131) #[] #[]]) (str lP)<|bO #[ak 2,.func (.func 131) #[] #[]]) (str kh)<|bO #[ak 2,.func (.func 132) #[] #[]]) (str fk)<|bO #[ak 2,.func (.func 133) #[] #[]]) (str eL)<|bO #[ak 2,.func (.func 134) #[] #[]]):=aW
 have bm:=mK (k:=eL) (v:=bO #[ak 2,.func (.func 134) #[] #[]]) bl
 have al:Wk w M:=aj.trans' aH fun k hk h=>by omega
 refine p (c8 (ps:= [(0,ak 4),(1,.func (.func 135) #[] #[])]) (L:= [ak 4,.func (.func 135) #[] #[]]) mP aa<|aa)<|e<|mE mi jg (a5) aa aa aa (⟨_,aa⟩) fun O aI aY=> ?_
 have a6:dy O.heap a jo (bW (bW (bW (bW (bW (bW (bW (bW (bW (bW (bW (bW zF (str ij)<|bO #[ak 2,.func (.func 128) #[] #[]]) (str iL)<|bO #[ak 2,.func (.func 129) #[] #[]]) (str iU)<|bO #[ak 2,.func (.func 130) #[] #[]]) (str ki)<|bO #[ak 2,.func (.func 131) #[] #[]]) (str kG)<|bO #[ak 2,.func (.func 131) #[] #[]]) (str kV)<|bO #[ak 2,.func (.func 131) #[] #[]]) (str lu)<|bO #[ak 2,.func (.func 131) #[] #[]]) (str lP)<|bO #[ak 2,.func (.func 131) #[] #[]]) (str kh)<|bO #[ak 2,.func (.func 132) #[] #[]]) (str fk)<|bO #[ak 2,.func (.func 133) #[] #[]]) (str eL)<|bO #[ak 2,.func (.func 134) #[] #[]]) (str fH)<|bO #[ak 4,.func (.func 135) #[] #[]]):=aY
 have bn:=mK (k:=fH) (v:=bO #[ak 4,.func (.func 135) #[] #[]]) bm
 have am:Wk w O:=al.trans' aI fun k hk h=>by omega
 refine p (c8 (ps:= [(0,ak 4),(1,.func (.func 135) #[] #[])]) (L:= [ak 4,.func (.func 135) #[] #[]]) mP aa<|aa)<|e<|mE mi jg (a6) aa aa aa (⟨_,aa⟩) fun U aJ aZ=> ?_
 have a7:dy U.heap a jo (bW (bW (bW (bW (bW (bW (bW (bW (bW (bW (bW (bW (bW zF (str ij)<|bO #[ak 2,.func (.func 128) #[] #[]]) (str iL)<|bO #[ak 2,.func (.func 129) #[] #[]]) (str iU)<|bO #[ak 2,.func (.func 130) #[] #[]]) (str ki)<|bO #[ak 2,.func (.func 131) #[] #[]]) (str kG)<|bO #[ak 2,.func (.func 131) #[] #[]]) (str kV)<|bO #[ak 2,.func (.func 131) #[] #[]]) (str lu)<|bO #[ak 2,.func (.func 131) #[] #[]]) (str lP)<|bO #[ak 2,.func (.func 131) #[] #[]]) (str kh)<|bO #[ak 2,.func (.func 132) #[] #[]]) (str fk)<|bO #[ak 2,.func (.func 133) #[] #[]]) (str eL)<|bO #[ak 2,.func (.func 134) #[] #[]]) (str fH)<|bO #[ak 4,.func (.func 135) #[] #[]]) (str du)<|bO #[ak 4,.func (.func 135) #[] #[]]):=aZ
 have bo:=mK (k:=du) (v:=bO #[ak 4,.func (.func 135) #[] #[]]) bn
 have an:Wk w U:=am.trans' aJ fun k hk h=>by omega
 exact p mv<|ay<|ac<|rt<|aX aa<|⟨a,aa,bi,⟨_,a7,fun s=>bo s⟩,an⟩
theorem Xg (E G:Nat) (w:World):
 CallsD aw 82 (bh [.pointer (some ⟨E,0,none⟩),.pointer (some ⟨G,0,none⟩)]) .returning w (fun en I w'=> ∃ v,en= .returned v∧I= .returning∧(fun w'=>Wk w w') w'):=by
 refine Gz (v:= .nilIface) func82 aa ntmps82 aa (fun O cs C=> .inr ⟨by simp [recoverD,C],aa,aa⟩) ?_
 refine p (YO CN Z1 aa)<|p mv<|p (xt aa aa)<|p (xt aa aa)<|e<|al p7 fun M Y V A a=>e<|dj jV aa aa aa aa (a) (by simp) fun Z q U=>p aE<|nl<|tn<|sq fun J i=>rg aa<|p mv<|nl<|tn<|i _ _<|cf (aa)<|aQ<|f0 aa ?_
 exact A.md.trans' q fun k hk h=>by omega
theorem Xf (a i:Nat) (ln:Nat) (er:Int) (w:World) (h2:∃ v:Value,w.heap[a]? =some (.cells [v].toArray 60 (0,0))) (h3:∃ L:List Value,L.length=3∧w.heap[i]? =some (.cells L.toArray 47 (0,0))) (U:a≠i):
 CallsD aw 82 (bh [.pointer (some ⟨a,0,none⟩),.pointer (some ⟨i,0,none⟩)]) (.panicking<|jn 47 ln er) w (fun en ao w'=> ∃ v,en= .returned v∧ao=(.panicking [{v:= .iface 47 (.agg [.int .i64 1,.int .i64 (ln:Nat),.int .i64 er].toArray),recovered:=true}])∧(fun w'=>w'.heap[a]? =some (.cells [.pointer none].toArray 60 (0,0))∧w'.heap[i]? =some (.cells [.int .i64 1,.int .i64 (ln:Nat),.int .i64 er].toArray 47 (0,0))∧Md (fun k=>k=a∨k=i) w w') w'):=by
 obtain ⟨v2,h2⟩:=h2
 obtain ⟨J,ah,h3⟩:=h3
 have ay:=(dB.1 h2).1
 have az:=(dB.1 h3).1
 refine Gz (v:= .iface 47<|.agg [.int .i64 1,.int .i64 (ln:Nat),.int .i64 er].toArray) func82 aa ntmps82 aa (fun au cs am=> .inl<|by simp [recoverD,am,jn]) ?_
 refine p (YN CN aa)<|p mv<|p (xt aa aa)<|p (xt aa aa)<|e<|al p7 fun V aA av G Z=>e<|dj jV aa aa aa aa (Z) (by simp) fun q A Y=> ?_
 have ae:bP q.heap V [.int .i64 1,.int .i64 (ln:Nat),.int .i64 er]:=Y
 refine p aE<|nl<|tn<|sq fun ar ag=>rg aa<|p mv<|nl<|tn<|ag _ _<|ct (aa) ?_
 have I:(fun w'=>Md (fun k=>k=a∨k=i) q w') q.drew:=(Md.refl _ _).drew
 refine bN (fun w'=>Md (fun k=>k=a∨k=i) q w') aa wide I<|hp 0 aa aj (fun w' ai=>di lh aa (aa) fun j ax=>bP.bG (Md.B ai ae fun h=>by omega) j) I<|he 1 aa aj<|cT Bf aa aa (v:= .pointer none) aa (A.aJ (Wk.aJ G.md h2) fun h=>by omega) (by show 0 < 1; decide) fun ap C ac=> ?_
 have O:(fun w'=>Md (fun k=>k=a∨k=i) q w') ap:=I.trans' C fun _ _ h=> .inl h
 refine ⟨O,?_⟩
 refine he 2 aa aj<|gj jV aa aa aa aa (C.aJ (A.aJ (Wk.aJ G.md h3) fun h=>by omega) fun h=>U h.symm) (by rw [ah]; decide) fun aq E M=> ?_
 have ak:(fun w'=>Md (fun k=>k=a∨k=i) q w') aq:=O.trans' E fun _ _ h=> .inr h
 refine ⟨ak,?_⟩
 refine hn aj<|f0 aa ?_
 have an:J.take 0 ++ [jk .i64 1,.int .i64 (ln:Nat),.int .i64 er]++J.drop (0 +3)= [jk .i64 1,.int .i64 (ln:Nat),.int .i64 er]:=by rw [gV ab]; rfl
 rw [an] at M
 exact ⟨E.aJ ac U,M,(((G.md.mono fun _ _ h=>h.elim).trans' A fun k hk h=>by omega).trans' (im C) fun _ _ h=> .inl h).trans' E fun _ _ h=> .inr h⟩
theorem KG (a i:Nat) (w:World):(invoke (.fn (.func 82) #[aT a,aT i]) #[]).run aw w= .ok (.enter 82 #[aT a,aT i]) w:=by
 have h:=QM #[aT a,aT i] w
 simp [invoke,h]
theorem xY {n:Nat} {D:List Deferred} {G:List Nat} {σ:Nat→Value} {t:Nat} (h:t < n):ev ⟨n,D,G,none⟩ σ (.tmp t)=σ t:=by
 show cond (Nat.blt t n) (σ t) undef=_
 rw [show Nat.blt t n=true from by simpa using h]; rfl
theorem Xj {n:Nat} {G:List Nat} {fn:Func} {R:Value→World→Prop} {σ:Nat→Value} {w:World} {a i ln:Nat} {er:Int} (I:fn.results= #[.cell 2 60,.cell 3 47]) (O:3 < n) (J:σ 2= .pointer (some ⟨a,0,none⟩)) (M:σ 3= .pointer (some ⟨i,0,none⟩)) (h2:∃ v:Value,w.heap[a]? =some (.cells [v].toArray 60 (0,0))) (h3:∃ L:List Value,L.length=3∧w.heap[i]? =some (.cells L.toArray 47 (0,0))) (E:a≠i)
 (q:∀ w',Md (fun k=>k=a∨k=i) w w'→R (.tuple #[.pointer none,.agg [.int .i64 1,.int .i64 (ln:Nat),.int .i64 er].toArray]) w'):qb ⟨n,[{target:= .fn (.func 82) #[.pointer (some ⟨a,0,none⟩),.pointer (some ⟨i,0,none⟩)],args:= #[]}],G,none⟩ (qf aw fn R) (.panic<|jn 47 ln er) σ w:=by
 refine Tp (KG a i w) (Xf a i ln er w h2 h3 E) ?_
 rintro w' ⟨A,C,hm⟩
 exact ⟨_,yX I (mL<|vJ ((xY ab).trans J) gq<|(a7 A).trans aa) (mL<|dT (cs:= [.int .i64 1,.int .i64 (ln:Nat),.int .i64 er]) ((xY ab).trans M) lh aa fun j _=>by rw [gW,a7 C]; simp),q w' hm⟩
theorem Xk {n:Nat} {G:List Nat} {fn:Func} {R:Value→World→Prop} {σ:Nat→Value} {w:World} {a i:Nat} {v:Value} {L:List Value} (I:fn.results= #[.cell 2 60,.cell 3 47]) (O:3 < n) (J:σ 2= .pointer (some ⟨a,0,none⟩)) (M:σ 3= .pointer (some ⟨i,0,none⟩)) (h2:w.heap[a]? =some (.cells [v].toArray 60 (0,0))) (h3:w.heap[i]? =some (.cells L.toArray 47 (0,0))) (q:L.length=3)
 (A:∀ w',Wk w w'→R (.tuple #[v,.agg L.toArray]) w'):qb ⟨n,[{target:= .fn (.func 82) #[.pointer (some ⟨a,0,none⟩),.pointer (some ⟨i,0,none⟩)],args:= #[]}],G,none⟩ (qf aw fn R) .ret σ w:=by
 refine To (KG a i w) (Xg a i w) ?_
 intro w' hm
 have C:=Wk.aJ hm h2
 have E:=Wk.aJ hm h3
 exact ⟨_,yX I (mL<|vJ ((xY ab).trans J) gq<|(a7 C).trans aa) (mL<|dT (cs:=L) ((xY ab).trans M) lh q fun j _=>by rw [gW,a7 E]; simp),A w' hm⟩
end Go.Hb
section
namespace Go.Hb
open Go.Hb.nE
theorem UB (B:Nat) (H:dx) (F:aU) (rows:List Rw) (ln:Nat) (seen:List Tx) (r:List Tx) (a:Nat) (ar:Option Addr) (cr:Nat) (w:World) (i:St w B H F rows ln seen) (q:Tg w a 9 r.length (.slice ar r.length cr) (r.map str)) (A:∀ x∈r,x.length≤70000) (hw:r.length=width (r.getD 0 [])) (G:ku F seen) (E:width (r.getD 0 [])=2→r.getD 0 []∉seen) (C:F.dt.length+F.aliases.length+F.bA.length+F.rules.length+rows.length < 70000) (hk:r.getD 0 []=ij):fF aw 128 (bh [.pointer (some ⟨H.rb,0,none⟩),.slice ar r.length cr]) w (ju B H seen (cw H.eof F seen rows ln r) w) (jt B H (cw H.eof F seen rows ln r) w):=by
 have h:=VC B H F rows ln seen r a ar cr w i q (by rw [hw,hk]; decide) A
 rw [show cw H.eof F seen rows ln r=kH F seen rows ln r from by unfold cw; rw [hk]; rfl]
 exact h
theorem UJ (B:Nat) (H:dx) (F:aU) (rows:List Rw) (ln:Nat) (seen:List Tx) (r:List Tx) (a:Nat) (ar:Option Addr) (cr:Nat) (w:World) (i:St w B H F rows ln seen) (q:Tg w a 9 r.length (.slice ar r.length cr) (r.map str)) (A:∀ x∈r,x.length≤70000) (hw:r.length=width (r.getD 0 [])) (G:ku F seen) (E:width (r.getD 0 [])=2→r.getD 0 []∉seen) (C:F.dt.length+F.aliases.length+F.bA.length+F.rules.length+rows.length < 70000) (hk:r.getD 0 []=iL):fF aw 129 (bh [.pointer (some ⟨H.rb,0,none⟩),.slice ar r.length cr]) w (ju B H seen (cw H.eof F seen rows ln r) w) (jt B H (cw H.eof F seen rows ln r) w):=by
 have h:=QY B H F rows ln seen r a ar cr w i q (by rw [hw,hk]; decide) A
 rw [show cw H.eof F seen rows ln r=mN F rows ln r from by unfold cw; rw [hk]; rfl]
 exact h
theorem UL (B:Nat) (H:dx) (F:aU) (rows:List Rw) (ln:Nat) (seen:List Tx) (r:List Tx) (a:Nat) (ar:Option Addr) (cr:Nat) (w:World) (i:St w B H F rows ln seen) (q:Tg w a 9 r.length (.slice ar r.length cr) (r.map str)) (A:∀ x∈r,x.length≤70000) (hw:r.length=width (r.getD 0 [])) (G:ku F seen) (E:width (r.getD 0 [])=2→r.getD 0 []∉seen) (C:F.dt.length+F.aliases.length+F.bA.length+F.rules.length+rows.length < 70000) (hk:r.getD 0 []=iU):fF aw 130 (bh [.pointer (some ⟨H.rb,0,none⟩),.slice ar r.length cr]) w (ju B H seen (cw H.eof F seen rows ln r) w) (jt B H (cw H.eof F seen rows ln r) w):=by
 have h:=Y9 B H F rows ln seen r a ar cr w i q (by rw [hw,hk]; decide) A
 rw [show cw H.eof F seen rows ln r=mR F rows ln r from by unfold cw; rw [hk]; rfl]
 exact h
theorem UF (B:Nat) (H:dx) (F:aU) (rows:List Rw) (ln:Nat) (seen:List Tx) (r:List Tx) (a:Nat) (ar:Option Addr) (cr:Nat) (w:World) (i:St w B H F rows ln seen) (q:Tg w a 9 r.length (.slice ar r.length cr) (r.map str)) (C:∀ x∈r,x.length≤70000) (hw:r.length=width (r.getD 0 [])) (E:ku F seen) (A:width (r.getD 0 [])=2→r.getD 0 []∉seen) (G:F.dt.length+F.aliases.length+F.bA.length+F.rules.length+rows.length < 70000) (hk:r.getD 0 []=ki):fF aw 131 (bh [.pointer (some ⟨H.rb,0,none⟩),.slice ar r.length cr]) w (ju B H seen (cw H.eof F seen rows ln r) w) (jt B H (cw H.eof F seen rows ln r) w):=by
 have h:=vQ B H F rows ln seen r a ar cr w i q (by rw [hw,hk]; decide) C (by rw [hk]; decide)<|E _ (by rw [hk]; decide)<|A<|by rw [hk]; decide
 rw [show cw H.eof F seen rows ln r=ko F rows ln r from by unfold cw; rw [hk]; rfl]
 exact h
theorem UC (B:Nat) (H:dx) (F:aU) (rows:List Rw) (ln:Nat) (seen:List Tx) (r:List Tx) (a:Nat) (ar:Option Addr) (cr:Nat) (w:World) (i:St w B H F rows ln seen) (q:Tg w a 9 r.length (.slice ar r.length cr) (r.map str)) (C:∀ x∈r,x.length≤70000) (hw:r.length=width (r.getD 0 [])) (E:ku F seen) (A:width (r.getD 0 [])=2→r.getD 0 []∉seen) (G:F.dt.length+F.aliases.length+F.bA.length+F.rules.length+rows.length < 70000) (hk:r.getD 0 []=kG):fF aw 131 (bh [.pointer (some ⟨H.rb,0,none⟩),.slice ar r.length cr]) w (ju B H seen (cw H.eof F seen rows ln r) w) (jt B H (cw H.eof F seen rows ln r) w):=by
 have h:=vQ B H F rows ln seen r a ar cr w i q (by rw [hw,hk]; decide) C (by rw [hk]; decide)<|E _ (by rw [hk]; decide)<|A<|by rw [hk]; decide
 rw [show cw H.eof F seen rows ln r=ko F rows ln r from by unfold cw; rw [hk]; rfl]
 exact h
theorem UD (B:Nat) (H:dx) (F:aU) (rows:List Rw) (ln:Nat) (seen:List Tx) (r:List Tx) (a:Nat) (ar:Option Addr) (cr:Nat) (w:World) (i:St w B H F rows ln seen) (q:Tg w a 9 r.length (.slice ar r.length cr) (r.map str)) (C:∀ x∈r,x.length≤70000) (hw:r.length=width (r.getD 0 [])) (E:ku F seen) (A:width (r.getD 0 [])=2→r.getD 0 []∉seen) (G:F.dt.length+F.aliases.length+F.bA.length+F.rules.length+rows.length < 70000) (hk:r.getD 0 []=kV):fF aw 131 (bh [.pointer (some ⟨H.rb,0,none⟩),.slice ar r.length cr]) w (ju B H seen (cw H.eof F seen rows ln r) w) (jt B H (cw H.eof F seen rows ln r) w):=by
 have h:=vQ B H F rows ln seen r a ar cr w i q (by rw [hw,hk]; decide) C (by rw [hk]; decide)<|E _ (by rw [hk]; decide)<|A<|by rw [hk]; decide
 rw [show cw H.eof F seen rows ln r=ko F rows ln r from by unfold cw; rw [hk]; rfl]
 exact h
theorem UA (B:Nat) (H:dx) (F:aU) (rows:List Rw) (ln:Nat) (seen:List Tx) (r:List Tx) (a:Nat) (ar:Option Addr) (cr:Nat) (w:World) (i:St w B H F rows ln seen) (q:Tg w a 9 r.length (.slice ar r.length cr) (r.map str)) (C:∀ x∈r,x.length≤70000) (hw:r.length=width (r.getD 0 [])) (E:ku F seen) (A:width (r.getD 0 [])=2→r.getD 0 []∉seen) (G:F.dt.length+F.aliases.length+F.bA.length+F.rules.length+rows.length < 70000) (hk:r.getD 0 []=lu):fF aw 131 (bh [.pointer (some ⟨H.rb,0,none⟩),.slice ar r.length cr]) w (ju B H seen (cw H.eof F seen rows ln r) w) (jt B H (cw H.eof F seen rows ln r) w):=by
 have h:=vQ B H F rows ln seen r a ar cr w i q (by rw [hw,hk]; decide) C (by rw [hk]; decide)<|E _ (by rw [hk]; decide)<|A<|by rw [hk]; decide
 rw [show cw H.eof F seen rows ln r=ko F rows ln r from by unfold cw; rw [hk]; rfl]
 exact h
theorem UG (B:Nat) (H:dx) (F:aU) (rows:List Rw) (ln:Nat) (seen:List Tx) (r:List Tx) (a:Nat) (ar:Option Addr) (cr:Nat) (w:World) (i:St w B H F rows ln seen) (q:Tg w a 9 r.length (.slice ar r.length cr) (r.map str)) (C:∀ x∈r,x.length≤70000) (hw:r.length=width (r.getD 0 [])) (E:ku F seen) (A:width (r.getD 0 [])=2→r.getD 0 []∉seen) (G:F.dt.length+F.aliases.length+F.bA.length+F.rules.length+rows.length < 70000) (hk:r.getD 0 []=lP):fF aw 131 (bh [.pointer (some ⟨H.rb,0,none⟩),.slice ar r.length cr]) w (ju B H seen (cw H.eof F seen rows ln r) w) (jt B H (cw H.eof F seen rows ln r) w):=by
 have h:=vQ B H F rows ln seen r a ar cr w i q (by rw [hw,hk]; decide) C (by rw [hk]; decide)<|E _ (by rw [hk]; decide)<|A<|by rw [hk]; decide
 rw [show cw H.eof F seen rows ln r=ko F rows ln r from by unfold cw; rw [hk]; rfl]
 exact h
theorem UE (B:Nat) (H:dx) (F:aU) (rows:List Rw) (ln:Nat) (seen:List Tx) (r:List Tx) (a:Nat) (ar:Option Addr) (cr:Nat) (w:World) (i:St w B H F rows ln seen) (q:Tg w a 9 r.length (.slice ar r.length cr) (r.map str)) (A:∀ x∈r,x.length≤70000) (hw:r.length=width (r.getD 0 [])) (G:ku F seen) (E:width (r.getD 0 [])=2→r.getD 0 []∉seen) (C:F.dt.length+F.aliases.length+F.bA.length+F.rules.length+rows.length < 70000) (hk:r.getD 0 []=kh):fF aw 132 (bh [.pointer (some ⟨H.rb,0,none⟩),.slice ar r.length cr]) w (ju B H seen (cw H.eof F seen rows ln r) w) (jt B H (cw H.eof F seen rows ln r) w):=by
 have h:=VG B H F rows ln seen r a ar cr w i q (by rw [hw,hk]; decide) A
 rw [show cw H.eof F seen rows ln r=kX F rows ln r from by unfold cw; rw [hk]; rfl]
 exact h
theorem UI (B:Nat) (H:dx) (F:aU) (rows:List Rw) (ln:Nat) (seen:List Tx) (r:List Tx) (a:Nat) (ar:Option Addr) (cr:Nat) (w:World) (i:St w B H F rows ln seen) (q:Tg w a 9 r.length (.slice ar r.length cr) (r.map str)) (A:∀ x∈r,x.length≤70000) (hw:r.length=width (r.getD 0 [])) (G:ku F seen) (E:width (r.getD 0 [])=2→r.getD 0 []∉seen) (C:F.dt.length+F.aliases.length+F.bA.length+F.rules.length+rows.length < 70000) (hk:r.getD 0 []=fk):fF aw 133 (bh [.pointer (some ⟨H.rb,0,none⟩),.slice ar r.length cr]) w (ju B H seen (cw H.eof F seen rows ln r) w) (jt B H (cw H.eof F seen rows ln r) w):=by
 have h:=Xq B H F rows ln seen r a ar cr w i q (by rw [hw,hk]; decide) A
 rw [show cw H.eof F seen rows ln r=km H.eof F rows ln r from by unfold cw; rw [hk]; rfl]
 exact h
theorem Uz (B:Nat) (H:dx) (F:aU) (rows:List Rw) (ln:Nat) (seen:List Tx) (r:List Tx) (a:Nat) (ar:Option Addr) (cr:Nat) (w:World) (i:St w B H F rows ln seen) (q:Tg w a 9 r.length (.slice ar r.length cr) (r.map str)) (A:∀ x∈r,x.length≤70000) (hw:r.length=width (r.getD 0 [])) (G:ku F seen) (E:width (r.getD 0 [])=2→r.getD 0 []∉seen) (C:F.dt.length+F.aliases.length+F.bA.length+F.rules.length+rows.length < 70000) (hk:r.getD 0 []=eL):fF aw 134 (bh [.pointer (some ⟨H.rb,0,none⟩),.slice ar r.length cr]) w (ju B H seen (cw H.eof F seen rows ln r) w) (jt B H (cw H.eof F seen rows ln r) w):=by
 have h:=Ou B H F rows ln seen r a ar cr w i q (by rw [hw,hk]; decide) A
 rw [show cw H.eof F seen rows ln r=jU H.eof F seen rows ln r from by unfold cw; rw [hk]; rfl]
 exact h
theorem UH (B:Nat) (H:dx) (F:aU) (rows:List Rw) (ln:Nat) (seen:List Tx) (r:List Tx) (a:Nat) (ar:Option Addr) (cr:Nat) (w:World) (i:St w B H F rows ln seen) (q:Tg w a 9 r.length (.slice ar r.length cr) (r.map str)) (C:∀ x∈r,x.length≤70000) (hw:r.length=width (r.getD 0 [])) (G:ku F seen) (E:width (r.getD 0 [])=2→r.getD 0 []∉seen) (A:F.dt.length+F.aliases.length+F.bA.length+F.rules.length+rows.length < 70000) (hk:r.getD 0 []=fH):fF aw 135 (bh [.pointer (some ⟨H.rb,0,none⟩),.slice ar r.length cr]) w (ju B H seen (cw H.eof F seen rows ln r) w) (jt B H (cw H.eof F seen rows ln r) w):=by
 have h:=GD B H F rows ln seen r a ar cr w i q (by rw [hw,hk]; decide) C A
 rw [show cw H.eof F seen rows ln r=gO H.eof F rows ln r from by unfold cw; rw [hk]; rfl]
 exact h
theorem UK (B:Nat) (H:dx) (F:aU) (rows:List Rw) (ln:Nat) (seen:List Tx) (r:List Tx) (a:Nat) (ar:Option Addr) (cr:Nat) (w:World) (i:St w B H F rows ln seen) (q:Tg w a 9 r.length (.slice ar r.length cr) (r.map str)) (C:∀ x∈r,x.length≤70000) (hw:r.length=width (r.getD 0 [])) (G:ku F seen) (E:width (r.getD 0 [])=2→r.getD 0 []∉seen) (A:F.dt.length+F.aliases.length+F.bA.length+F.rules.length+rows.length < 70000) (hk:r.getD 0 []=du):fF aw 135 (bh [.pointer (some ⟨H.rb,0,none⟩),.slice ar r.length cr]) w (ju B H seen (cw H.eof F seen rows ln r) w) (jt B H (cw H.eof F seen rows ln r) w):=by
 have h:=GD B H F rows ln seen r a ar cr w i q (by rw [hw,hk]; decide) C A
 rw [show cw H.eof F seen rows ln r=gO H.eof F rows ln r from by unfold cw; rw [hk]; rfl]
 exact h
theorem I8 (B:Nat) (H:dx) (F:aU) (rows:List Rw) (ln:Nat) (seen:List Tx) (r:List Tx) (i:Nat) (ar:Option Addr) (cr:Nat) (w:World) (q:St w B H F rows ln seen) (A:Tg w i 9 r.length (.slice ar r.length cr) (r.map str)) (G:∀ x∈r,x.length≤70000) (hw:r.length=width (r.getD 0 [])) (I:ku F seen) (E:width (r.getD 0 [])=2→r.getD 0 []∉seen) (C:F.dt.length+F.aliases.length+F.bA.length+F.rules.length+rows.length < 70000) {v:Value} (a:iJ (r.getD 0 [])=some v):∃ f:Nat,v= .agg [.int .i64 (width (r.getD 0 []):Nat),.func (.func f) #[] #[]].toArray∧bo aw f∧fF aw f (bh [.pointer (some ⟨H.rb,0,none⟩),.slice ar r.length cr]) w (ju B H seen (cw H.eof F seen rows ln r) w) (jt B H (cw H.eof F seen rows ln r) w):=by
 unfold iJ at a
 by_cases hk:r.getD 0 []=du
 · rw [if_pos hk] at a; cases a; exact ⟨_,by rw [hk]; rfl,FL,UK B H F rows ln seen r i ar cr w q A G hw I E C hk⟩
 · rw [if_neg hk] at a; clear hk
   by_cases hk:r.getD 0 []=fH
   · rw [if_pos hk] at a; cases a; exact ⟨_,by rw [hk]; rfl,FL,UH B H F rows ln seen r i ar cr w q A G hw I E C hk⟩
   · rw [if_neg hk] at a; clear hk
     by_cases hk:r.getD 0 []=eL
     · rw [if_pos hk] at a; cases a; exact ⟨_,by rw [hk]; rfl,Pl,Uz B H F rows ln seen r i ar cr w q A G hw I E C hk⟩
     · rw [if_neg hk] at a; clear hk
       by_cases hk:r.getD 0 []=fk
       · rw [if_pos hk] at a; cases a; exact ⟨_,by rw [hk]; rfl,Pk,UI B H F rows ln seen r i ar cr w q A G hw I E C hk⟩
       · rw [if_neg hk] at a; clear hk
         by_cases hk:r.getD 0 []=kh
         · rw [if_pos hk] at a; cases a; exact ⟨_,by rw [hk]; rfl,Pj,UE B H F rows ln seen r i ar cr w q A G hw I E C hk⟩
         · rw [if_neg hk] at a; clear hk
           by_cases hk:r.getD 0 []=lP
           · rw [if_pos hk] at a; cases a; exact ⟨_,by rw [hk]; rfl,uH,UG B H F rows ln seen r i ar cr w q A G hw I E C hk⟩
           · rw [if_neg hk] at a; clear hk
             by_cases hk:r.getD 0 []=lu
             · rw [if_pos hk] at a; cases a; exact ⟨_,by rw [hk]; rfl,uH,UA B H F rows ln seen r i ar cr w q A G hw I E C hk⟩
             · rw [if_neg hk] at a; clear hk
               by_cases hk:r.getD 0 []=kV
               · rw [if_pos hk] at a; cases a; exact ⟨_,by rw [hk]; rfl,uH,UD B H F rows ln seen r i ar cr w q A G hw I E C hk⟩
               · rw [if_neg hk] at a; clear hk
                 by_cases hk:r.getD 0 []=kG
                 · rw [if_pos hk] at a; cases a; exact ⟨_,by rw [hk]; rfl,uH,UC B H F rows ln seen r i ar cr w q A G hw I E C hk⟩
                 · rw [if_neg hk] at a; clear hk
                   by_cases hk:r.getD 0 []=ki
                   · rw [if_pos hk] at a; cases a; exact ⟨_,by rw [hk]; rfl,uH,UF B H F rows ln seen r i ar cr w q A G hw I E C hk⟩
                   · rw [if_neg hk] at a; clear hk
                     by_cases hk:r.getD 0 []=iU
                     · rw [if_pos hk] at a; cases a; exact ⟨_,by rw [hk]; rfl,Ph,UL B H F rows ln seen r i ar cr w q A G hw I E C hk⟩
                     · rw [if_neg hk] at a; clear hk
                       by_cases hk:r.getD 0 []=iL
                       · rw [if_pos hk] at a; cases a; exact ⟨_,by rw [hk]; rfl,Pf,UJ B H F rows ln seen r i ar cr w q A G hw I E C hk⟩
                       · rw [if_neg hk] at a; clear hk
                         by_cases hk:r.getD 0 []=ij
                         · rw [if_pos hk] at a; cases a; exact ⟨_,by rw [hk]; rfl,Pe,UB B H F rows ln seen r i ar cr w q A G hw I E C hk⟩
                         · rw [if_neg hk] at a; clear hk
                           cases a
theorem I5 {s:Tx} (a:iJ s=none):width s=0:=by
 unfold iJ at a
 by_cases V:s=du
 · rw [if_pos V] at a; cases a
 · rw [if_neg V] at a
   by_cases M:s=fH
   · rw [if_pos M] at a; cases a
   · rw [if_neg M] at a
     by_cases i:s=eL
     · rw [if_pos i] at a; cases a
     · rw [if_neg i] at a
       by_cases O:s=fk
       · rw [if_pos O] at a; cases a
       · rw [if_neg O] at a
         by_cases G:s=kh
         · rw [if_pos G] at a; cases a
         · rw [if_neg G] at a
           by_cases J:s=lP
           · rw [if_pos J] at a; cases a
           · rw [if_neg J] at a
             by_cases q:s=lu
             · rw [if_pos q] at a; cases a
             · rw [if_neg q] at a
               by_cases E:s=kV
               · rw [if_pos E] at a; cases a
               · rw [if_neg E] at a
                 by_cases C:s=kG
                 · rw [if_pos C] at a; cases a
                 · rw [if_neg C] at a
                   by_cases I:s=ki
                   · rw [if_pos I] at a; cases a
                   · rw [if_neg I] at a
                     by_cases Y:s=iU
                     · rw [if_pos Y] at a; cases a
                     · rw [if_neg Y] at a
                       by_cases U:s=iL
                       · rw [if_pos U] at a; cases a
                       · rw [if_neg U] at a
                         by_cases A:s=ij
                         · rw [if_pos A] at a; cases a
                         · rw [if_neg A] at a
                           unfold width eh; simp [A,U,Y,I,C,E,q,J,G,O,i,M,V]
theorem Cs (s:Tx):iJ s=none∨∃ (wd f:Nat),iJ s=some (bO #[.int .i64 (wd:Nat),.func (.func f) #[] #[]])∧width s=wd∧wd≠0:=by
 by_cases a:s=du
 · exact .inr ⟨4,135,by unfold iJ; rw [if_pos a],by rw [a]; decide,az⟩
 by_cases i:s=fH
 · exact .inr ⟨4,135,by unfold iJ; rw [if_neg a,if_pos i],by rw [i]; decide,az⟩
 by_cases q:s=eL
 · exact .inr ⟨2,134,by unfold iJ; rw [if_neg a,if_neg i,if_pos q],by rw [q]; decide,az⟩
 by_cases A:s=fk
 · exact .inr ⟨2,133,by unfold iJ; rw [if_neg a,if_neg i,if_neg q,if_pos A],by rw [A]; decide,az⟩
 by_cases C:s=kh
 · exact .inr ⟨2,132,by unfold iJ; rw [if_neg a,if_neg i,if_neg q,if_neg A,if_pos C],by rw [C]; decide,az⟩
 by_cases E:s=lP
 · exact .inr ⟨2,131,by unfold iJ; rw [if_neg a,if_neg i,if_neg q,if_neg A,if_neg C,if_pos E],by rw [E]; decide,az⟩
 by_cases G:s=lu
 · exact .inr ⟨2,131,by unfold iJ; rw [if_neg a,if_neg i,if_neg q,if_neg A,if_neg C,if_neg E,if_pos G],by rw [G]; decide,az⟩
 by_cases I:s=kV
 · exact .inr ⟨2,131,by unfold iJ; rw [if_neg a,if_neg i,if_neg q,if_neg A,if_neg C,if_neg E,if_neg G,if_pos I],by rw [I]; decide,az⟩
 by_cases J:s=kG
 · exact .inr ⟨2,131,by unfold iJ; rw [if_neg a,if_neg i,if_neg q,if_neg A,if_neg C,if_neg E,if_neg G,if_neg I,if_pos J],by rw [J]; decide,az⟩
 by_cases M:s=ki
 · exact .inr ⟨2,131,by unfold iJ; rw [if_neg a,if_neg i,if_neg q,if_neg A,if_neg C,if_neg E,if_neg G,if_neg I,if_neg J,if_pos M],by rw [M]; decide,az⟩
 by_cases O:s=iU
 · exact .inr ⟨2,130,by unfold iJ; rw [if_neg a,if_neg i,if_neg q,if_neg A,if_neg C,if_neg E,if_neg G,if_neg I,if_neg J,if_neg M,if_pos O],by rw [O]; decide,az⟩
 by_cases U:s=iL
 · exact .inr ⟨2,129,by unfold iJ; rw [if_neg a,if_neg i,if_neg q,if_neg A,if_neg C,if_neg E,if_neg G,if_neg I,if_neg J,if_neg M,if_neg O,if_pos U],by rw [U]; decide,az⟩
 by_cases V:s=ij
 · exact .inr ⟨2,128,by unfold iJ; rw [if_neg a,if_neg i,if_neg q,if_neg A,if_neg C,if_neg E,if_neg G,if_neg I,if_neg J,if_neg M,if_neg O,if_neg U,if_pos V],by rw [V]; decide,az⟩
 refine .inl ?_
 unfold iJ
 rw [if_neg a,if_neg i,if_neg q,if_neg A,if_neg C,if_neg E,if_neg G,if_neg I,if_neg J,if_neg M,if_neg O,if_neg U,if_neg V]
end Go.Hb
end
namespace Go.Hb.xe
theorem T9 {α:Type} {l:List α} {i:Nat} {d:α} (h:i < l.length):l.getD i d∈l:=by
 rw [da,cI h]; exact List.getElem_mem h
def jX (n:Nat) (a:List (List UInt8)):List (Nat×List UInt8):=(a.zipIdx n).map fun q=>(q.2,q.1)
theorem Wu (n:Nat) (l:List UInt8) (a:List (List UInt8)):jX n (l::a)=(n,l)::jX (n+1) a:=by simp [jX,List.zipIdx_cons]
theorem Wv (n:Nat):jX n []= []:=rfl
theorem CT (n:Nat) (a:List (List UInt8)):(jX n a).map nD=a:=by
 unfold jX; rw [List.map_map]; exact List.zipIdx_map_fst n a
theorem Kk (n:Nat) (a:List (List UInt8)):(jX n a).length=a.length:=by simp [jX]
def xT (x:Nat×List UInt8):Array Value:= #[.int .i64 x.1,str x.2]
theorem CS {a:List (List UInt8)} {n:Nat} {pre:List (Nat×List UInt8)} {x:Nat×List UInt8} {rest:List (Nat×List UInt8)} (h:jX n a=pre++x::rest):pre.length < a.length∧x.1=n+pre.length∧a=pre.map nD++x.2::rest.map nD:=by
 have h1:=congrArg jD h
 rw [Kk,bM,c7] at h1
 have h2:=congrArg (List.map nD) h
 rw [CT,ir,List.map_cons] at h2
 refine ⟨ab,?_,h2⟩
 have h3:=congrArg (fun l=>l[pre.length]?) h
 simp only [jX,iq,List.getElem?_zipIdx,mV (cD _),Nat.sub_self,uj] at h3
 cases h4:a[pre.length]? with
 | none=>rw [h4] at h3; cases h3
 | some q=>rw [h4] at h3; cases h3; rfl
theorem xS (s:List UInt8) (w:World):
 bp aw 126 (bh [str s]) w (fun v w'=> ∃ b,v= .func (.func 189) #[] #[aT b]∧w.heap.size≤b∧w'.heap[b]? =some (.cells [str s].toArray 9 (0,0))∧Wk w w'):=by
 exact enter func126 aa ntmps126 aa<|ag fun a=>e<|rB aa aa fun q G E C A=>ay<|a<|ag fun i=>p CM<|ay<|i<|rt<|aX aa<|⟨q,aa,ab,A,C.md⟩
theorem Bs (s:List UInt8) (b:Nat) (hs:s.length≤65536) (l:Nat) (a:List (Nat×List UInt8)→World→Prop) (w:World) (J:a [] w) (aC:∀ pre W,a pre W→W.heap[b]? =some (.cells [str s].toArray 9 (0,0))) (bN:∀ pre i G,a pre i→Wk i G→a pre G) (aI:∀ pre x rest i,(jX 1<|bL s)=pre++x::rest→a pre i→YieldAt Fence.wide 0 aw l (xT x) i fun e W'=>e= .returned (.bool true)∧a (pre++ [x]) W'):
 bp aw 189 (bh [.func (.yield l) #[] #[],aT b]) w (fun v w'=>a (jX 1<|bL s) w'):=by
 have O:=aC _ _ J
 refine enter func189 aa ntmps189 aa<|aB fun V=>ag fun Z=>p (ld bV aa<|(a7 O).trans aa)<|p (cz u9 aa aa)<|p (gt aa aa)<|nl<|Z<|cd aa (fun h=>absurd h ab) fun aL=> ?_
 refine aQ<|V<|ag fun ac=>p (ld bV aa<|(a7 O).trans aa)<|e<|cl Gx (LV s qJ _ ab az) aa fun v12 aS ar=> ?_
 obtain ⟨rfl,an⟩:=ar
 refine ay<|ac<|ag fun ae=>ay<|ae<|aJ<|lp (fun I A E=> ∃ (r:List UInt8) (pre:List (Nat×List UInt8)),(r.length≤s.length)∧((jX 1<|bL s)=pre++jX (pre.length+1) (gh [] r))∧(a pre E)∧(pre.length≤s.length)∧(A 0= .func (.yield l) #[] #[])∧(A 3=str r)∧(A 4=ak (pre.length+1))∧(r.length=I)) _ ⟨k0 s,[],(zo s),aa,(bN _ _ _ J an),(Nat.zero_le _),aa,aa,(iv<|by first | rfl | (rw [bM]; rfl)),aa⟩ ?_
 rintro I A E ⟨r,pre,aO,U,M,aM,aF,aG,aH,rfl⟩
 refine fx 0 aF<|fx 3 aG<|fx 4 aH<|aB fun ah=>ag fun ai=>au (str r)<|p (oQ aa aa)<|nl<|ai<|cd aa (fun q=> ?_) fun q=> ?_
 have C:(jX 1<|bL s)=pre++(pre.length+1,jM (mA 10 r))::jX (pre.length+2) (gh []<|nO 10 r):=by rw [U,VV q,Wu]
 have aN:=R6 (c:=10) q
 have aK:=RX 10 r
 refine aQ<|ah<|aB fun aj=>aJ<|ag fun al=>au (str r)<|e<|cl PF (R7 r 10 _ ab) aa fun aP aU av=> ?_
 obtain ⟨rfl,ao⟩:=av
 refine p mv<|p (xt aa aa)<|p (xt aa aa)<|p (xt aa aa)<|p aE<|p aE<|p aE<|nl<|al<|ag fun am=>p mv<|ay<|am<|aB fun Y=> ?_
 refine Xy ?_
 refine py aa (aV (.func (.yield l) #[] #[]) aa)<|py aa (aV (ak<|pre.length+1) aa)<|py aa mv<|ey aa<|cl Gv (Y8 (mA 10 r) _ ab) aa fun aR aW ax=> ?_
 obtain ⟨rfl,ap⟩:=ax
 have aq:=bN _ _ _ M<|Md.trans ao ap
 refine ZO aa aa (aI pre (pre.length+1,jM (mA 10 r)) _ _ C aq) fun aX aA=> ?_
 refine py aa (no aa)<|Wn ?_
 refine Y<|cf (aa)<|aQ<|bn<|aj<|rg aa<|au (ak<|pre.length+1)<|p (bF ((pre.length+2:Nat):Int) aa aa<|bl ab ab) ?_
 exact p aE<|nl<|tn<|⟨_,ab,nO 10 r,pre++ [(pre.length+1,jM (mA 10 r))],ab,(by rw [C,dH,bM]; rfl),aA,(by have h1:=CS C; have h2:=nY s; rw [bM,e9]; omega),aa,aa,(iv<|by first | rfl | (rw [bM]; rfl)),aa⟩
 refine ext<|bf<|bf<|be<|f0 aa ?_
 show a (jX 1<|bL s) E
 have aD:r= []:=Decidable.of_not_not q
 rw [U,aD,CI,Wv,ei]
 exact M
theorem xR (s:List UInt8) (b:Nat) (hs:s.length≤65536):EN aw 189 #[.pointer (some ⟨b,0,none⟩)] xT (jX 1<|bL s) (fun W=>W.heap[b]? =some (.cells [str s].toArray 9 (0,0))):=
 fun l a W i q bN C=>Calls.mono (Bs s b hs l a W i q bN C) fun e w' ⟨v,he,A⟩=>⟨⟨v,he⟩,A⟩
theorem Lx (s:List UInt8) (w:World) (hs:s.length≤1048576):
 bp aw 81 (bh [str s]) w (fun v w'=>(∃ a,v= .tuple #[a,.int .i64 (if 65536 < s.length then 10 else 0)]∧(if 65536 < s.length then a= .slice none 0 0 else bw w' w.heap.size 9 1 (a) (bL s).length ((bL s).map str)))∧Wk w w'):=by
 refine uO [] func81 aa ntmps81 aa ?_
 refine cW<|cM<|rg aa<|p aE<|p aE<|nl<|cB<|cW<|cW<|cM<|rg aa<|p (aV (str s) aa)<|p (cz u9 aa aa)<|p (gt aa aa)<|nl<|cB<|cM<|cd aa (fun aF=> ?_) fun aF=> ?_
 refine sq fun aM ay=>rg aa<|p aE<|p aE<|nl<|tn<|ay _ _<|rt<|prt<|HD aa aa aa ?_
 have G:65536 < s.length:=ab
 exact ⟨⟨.slice none 0 0,by show gD #[.slice none 0 0,.int .i64 10]=_; rw [if_pos G],by rw [if_pos G]⟩,Md.refl _ _⟩
 refine aQ<|cB<|cW<|cM<|rg aa<|e<|fg ZX fun al aK aT aA an=>nl<|cB<|cW<|cW<|cM<|rg aa<|p (aV (str s) aa)<|e<|cl FK (xS s _) aa fun v11 ak aB=> ?_
 obtain ⟨Y,rfl,aR,am,ao⟩:=aB
 have I:Wk w ak:=Md.trans aA.md ao
 have aC:=ao.aJ an
 have aS:=(dB.1 am).1
 have aZ:al < aK.heap.size:=(dB.1 an).1
 have G:s.length≤65536:=ab
 refine nl<|cB ?_
 apply KU (xT) (jX 1<|bL s) (fun W=>W.heap[Y]? =some (.cells [str s].toArray 9 (0,0))) (fun pre E=> ∃ v,E.heap[al]? =some (.cells [v].toArray 87 (0,0))∧bw E ak.heap.size 9 1 v pre.length ((pre.map nD).map str)∧E.heap[Y]? =some (.cells [str s].toArray 9 (0,0))∧ak.heap.size≤E.heap.size∧Wk w E) rfl FX (fun _=>rfl) (xR s Y G) (⟨.slice none 0 0,aC,dC _ _ _ _,am,cD _,I⟩) (fun _ _ ⟨_,_,_,h,_⟩=>h) (fun pre A C F ⟨v,h1,h2,h3,h5,h4⟩ hm U=>⟨v,zd h1 hm U,LD h2 hm U,zd h3 hm U,gk h5 hm.size,LF h4 hm I.size U⟩)
 intro l x E K J
 exact rg aa<|p (cU (str x.2) aa)<|nl<|tn<|J
 intro l pre x rest E aG ac
 obtain ⟨v,V,q,ah,aj,Z⟩:=ac
 obtain ⟨aY,a1,a2⟩:=CS aG
 have aW:=nY s
 have a0:=(dB.1 ah).1
 refine aJ<|rg aa<|p (ld jT aa<|(a7 V).trans aa)<|p mv<|e<|fZ fQ aa aa fun aN aI ae i aq=> ?_
 have au:Wk w aI:=Md.trans Z i.md
 have ae:=i.md.aJ V
 refine e<|ap fQ (a6 q i.md) aa (gk aj i.md.size) aa (aO.ec aq) (aa) (aa) ab ab fun aH a4 ai M a3 aU=> ?_
 have av:=Wk.own au (a6 q i.md) M I.size
 have aD:=M.aJ (i.md.aJ ah) fun h=>by have :=dS (a6 q i.md) h; omega
 have ag:=M.aJ ae fun h=>dI (a6 q i.md) ae az h
 refine e<|cT G8 aa aa (eS ai) ag (by simp) fun aL O ar=> ?_
 have ax:Wk w aL:=Md.trans' av O fun k hk h=>by omega
 exact nl<|bn<|⟨(eV.wk i.md).trans ((eV.md M<|pT<|a6 q i.md).trans<|eV.md O fun k hk=>⟨_,_,_,hk ▸ ag⟩),aH,ar,dz (by rw [ir,ir,bM]; exact ai) O (fun k hk h=>dI ai ag az<|h ▸ hk),O.aJ aD (fun h=>by omega),gk aj (gk i.md.size<|gk M.size O.size),ax⟩
 intro D E aP ac J
 obtain ⟨v,V,q,ah,aj,Z⟩:=ac
 have aX:=(dB.1 J).1
 refine cB<|cW<|cM<|rg aa<|p (ld jT aa<|(a7 V).trans aa)<|p aE<|p aE<|nl<|cB<|rY<|HE aa aa aa J ?_
 have G:¬65536 < s.length:=ab
 rw [CT,Kk] at q
 exact ⟨⟨v,by show gD #[v,.int .i64 0]=_; rw [if_neg G],by rw [if_neg G]; exact eE (dz q (mF _ _ _) fun k hk h=>by obtain ⟨c,e,z,h1⟩:=pT q k hk; rw [h,J] at h1; cases h1) I.size⟩,Md.trans' Z (mF _ _ _) fun k hk h=>by have :=I.size; omega⟩
end Go.Hb.xe
section
namespace Go.Hb
open Go.Hb.xe
set_option maxHeartbeats 1000000 in
theorem KV (s:List UInt8) (w:World) (hs:s.length≤1048576):
 bp aw 80 (bh [str s]) w (fun v w'=>(∃ a,v= .tuple #[a,.int .i64 (if 65536 < s.length then 10 else 0)]∧(if 65536 < s.length then a= .slice none 0 0 else ∃ vs,bw w' w.heap.size 209 2 a (bR s).length (kK vs)∧gZ w' w.heap.size 9 vs (bR s)))∧Wk w w'):=by
 refine uO [] func80 aa ntmps80 aa ?_
 refine cW<|cM<|rg aa<|p aE<|p aE<|nl<|cB<|cW<|cW<|cM<|rg aa<|p (aV (str s) aa)<|p (cz u9 aa aa)<|p (gt aa aa)<|nl<|cB<|cM<|cd aa (fun bx=> ?_) fun bx=> ?_
 refine sq fun aL ah=>rg aa<|p aE<|p aE<|nl<|tn<|ah _ _<|rt<|prt<|HD aa aa aa ?_
 have U:65536 < s.length:=ab
 exact ⟨⟨.slice none 0 0,by show gD #[.slice none 0 0,.int .i64 10]=_; rw [if_pos U],by rw [if_pos U]⟩,Md.refl _ _⟩
 refine aQ<|cB<|cW<|cM<|rg aa<|e<|fg ZR fun am b4 cg br aP=>nl<|cB<|cW<|cW<|cM<|rg aa<|p (aV (str s) aa)<|e<|cl FK (xS s _) aa fun ct ar bs=> ?_
 obtain ⟨ax,rfl,ce,aN,aS⟩:=bs
 have Z:Wk w ar:=Md.trans br.md aS
 have co:am < b4.heap.size:=(dB.1 aP).1
 have bu:=aS.aJ aP
 have cf:=(dB.1 aN).1
 have U:s.length≤65536:=ab
 refine nl<|cB ?_
 apply KU (xT) (jX 1<|bL s) (fun W=>W.heap[ax]? =some (.cells [str s].toArray 9 (0,0))) (fun pre J=> ∃ v vs,J.heap[am]? =some (.cells [v].toArray 187 (0,0))∧bw J ar.heap.size 209 2 v (lB 1<|pre.map nD).length (kK vs)∧gZ J ar.heap.size 9 vs (lB 1<|pre.map nD)∧J.heap[ax]? =some (.cells [str s].toArray 9 (0,0))∧ar.heap.size≤J.heap.size∧Wk w J) rfl FX (fun _=>rfl) (xR s ax U) (⟨.slice none 0 0,[],bu,dC _ _ _ _,gZ.nil _ _ _,aN,cD _,Z⟩) (fun _ _ ⟨_,_,_,_,_,h,_⟩=>h) (fun pre A C F ⟨v,vs,h1,h2,a5,h3,h5,h4⟩ hm ag=>⟨v,vs,zd h1 hm ag,LD h2 hm ag,a5.md hm (fun k hk cur z=>(ag k hk).2 cur _ z),zd h3 hm ag,gk h5 hm.size,LF h4 hm Z.size ag⟩)
 intro l x J K ac
 exact sq fun aL ah=>rg aa<|p (cU (.int .i64 x.1) aa)<|nl<|tn<|ah _ _<|rg aa<|p (cU (str x.2) aa)<|nl<|tn<|ac
 intro l pre x rest J b0 aB
 obtain ⟨v,vs,aH,ak,ao,aG,aq,aA⟩:=aB
 obtain ⟨cn,b1,b2⟩:=CS b0
 have ck:=nY s
 have cq:=(dB.1 aG).1
 have cr:x.2.length≤s.length:=CF<|by rw [b2]; simp
 have ci:=uT x.2 []
 have bF:=Dp (pre.map nD) 1
 rw [fM] at bF
 refine aJ<|sq fun aL ah=>rg aa<|p mv<|e<|cl Pd (Tq x.2 _ ab) aa fun cu a0 bt=> ?_
 obtain ⟨aj,bd⟩:=bt
 obtain ⟨E,an,rfl⟩:=cE aj
 have aT:=(ba aj).2
 have bz:=(ba aj).1
 refine p aE<|nl<|tn<|ah _ _ ?_
 refine ep (fun av au=> ∃ (n cp:Nat),(n≤(cQ [] x.2).length)∧(n≤cp)∧(nX (cQ [] x.2)=(cQ [] x.2).take n)∧(Wk a0 au)∧(av 4= .pointer (some ⟨am,0,none⟩))∧(av 5= .int .i64 x.1)∧(av 7= .slice E n cp)) ?_ ?_
 refine sq fun a3 aC=>rg aa<|p mv<|p (bJ eZ aa aa)<|p mv<|nl<|tn<|aC _ _<|aJ<|lp (fun aM Y a2=> ∃ (i:Nat),(i≤(cQ [] x.2).length)∧(∀ q,q < i→vH ((cQ [] x.2).getD q [])=false)∧(Wk a0 a2)∧(Y 4= .pointer (some ⟨am,0,none⟩))∧(Y 5= .int .i64 x.1)∧(Y 7= .slice E (cQ [] x.2).length an)∧(Y 19= .slice E (cQ [] x.2).length an)∧(Y 20= .int .i64 (cQ [] x.2).length)∧(Y 21= .int .i64 i)∧((cQ [] x.2).length - i=aM)) _ ⟨0,ab,(fun q bE=>by omega),(Md.refl _ _),aa,aa,aa,aa,aa,aa,aa⟩ ?_
 rintro aM Y a2 ⟨i,hi,aK,ae,bW,bX,bZ,bQ,bS,bU,rfl⟩
 refine fx 4 bW<|fx 5 bX<|fx 7 bZ<|fx 19 bQ<|fx 20 bS<|fx 21 bU<|sq fun b6 bj=>rg aa<|p (lt aa aa)<|nl<|tn<|bj _ _<|sq fun b7 bk=>cd aa (fun bA=> ?_) fun bA=> ?_
 refine aQ<|tn<|bk _ _<|sq fun b8 bl=>aJ<|sq fun b9 bm=>rg aa<|p (aV (.int .i64 i) aa)<|p (bc cR aa aa ab<|aO.ok (aT.wk ae)<|bT ab)<|p (ld bV aa<|cj.get (i:=i) (aT.wk ae) ab)<|p (cU (.int .i64 i) aa)<|p aE<|nl<|tn<|bm _ _<|sq fun ca bo=>rg aa<|p mv<|p (je 0 u9 aa aa<|lF.2 (BN _ _ _<|T9 ab).1)<|p (bK aa aa)<|nl<|tn<|bo _ _<|cd aa (fun bB=> ?_) fun bB=> ?_
 exact sq fun cb bq=>rg aa<|p (aV (.slice E (cQ [] x.2).length an) aa)<|p (aV (.int .i64 i) aa)<|p (aV (.int .i64 i) aa)<|p (Ra cR aa aa aa ab)<|p aE<|nl<|tn<|bq _ _<|ext<|my az<|te _<|te _<|be<|tn<|⟨i,i,hi,(cD _),(yE hi aK<|.inr<|decide_eq_true ab),ae,aa,aa,aa⟩
 exact aQ<|bn<|tn<|bl _ _<|rg aa<|p (ad aa aa<|bY ab)<|p mv<|nl<|tn<|⟨_,ab,i+1,ab,(fun q bE=>by rcases fu q i with h | h <;> first | exact aK q h | (rw [show q=i by omega]; exact decide_eq_false ab)),ae,aa,aa,aa,aa,aa,aa,aa⟩
 exact ext<|te _<|te _<|be<|tn<|⟨(cQ [] x.2).length,an,(cD _),bz,(by have h:=yE hi aK (.inl ab); rwa [show i=(cQ [] x.2).length from by omega] at h),ae,aa,aa,aa⟩
 rintro av au ⟨n,cp,hn,bD,aW,ay,bI,bN,bO⟩
 refine fx 4 bI<|fx 5 bN<|fx 7 bO ?_
 have G:Wk J au:=Md.trans bd ay
 have aF:=G.aJ aH
 have aY:=a6 ak G
 have aZ:=ao.wk G
 have aU:=G.aJ aG
 have aR:Wk w au:=Md.trans aA G
 refine sq fun a3 aC=>rg aa<|p (aV (.slice E n cp) aa)<|p (bJ eZ aa aa)<|p (gt aa aa)<|nl<|tn<|aC _ _<|cd aa (fun bC=> ?_) fun bC=> ?_
 have al:lx x.2 (1 +pre.length)= [(x.1,(cQ [] x.2).take n)]:=by unfold lx; rw [aW,if_neg (fun h=>by have h:=congrArg jD h; rw [dQ,fU] at h; omega),← b1]
 refine rg aa<|p (ld sJ aa<|(a7 aF).trans aa)<|p (aV (.int .i64 x.1) aa)<|p (aV (.slice E n cp) aa)<|p (c8 (ps:= [(0,.int .i64 x.1),(1,.slice E n cp)]) (L:= [.int .i64 x.1,.slice E n cp]) YC aa<|aa)<|e<|kQ Lq aa aa aa fun a4 a1 aD I a8=> ?_
 have a9:bP a1.heap a4 [.int .i64 x.1,.slice E n cp]:=a8
 have bf:Wk w a1:=Md.trans aR I.md
 have V:=a6 aY I.md
 have aD:=I.md.aJ aF
 refine e<|ap Lq (V) aa (by have :=I.size; have :=G.size; omega) aa (aO.ec a9) (aa) (aa) ab ab fun b3 cv aI M cs ch=> ?_
 have bg:=Wk.own bf V M Z.size
 have bv:=M.aJ (I.md.aJ aU) fun h=>by have :=dS V h; omega
 have ai:=M.aJ aD fun h=>dI V aD az h
 have bG:=(aZ.wk I.md).md M<|ik V az
 have aX:=dz (a6 (a6 aj ay) I.md) M fun k hk=>mI (a6 (a6 aj ay) I.md) V az hk
 refine e<|cT GZ aa aa (eS aI) ai (by simp) fun b5 O bb=> ?_
 have bi:Wk w b5:=Md.trans' bg O fun k hk h=>by omega
 have bH:=(bG.md O<|fz ai az).snoc (n:=x.1) (r:=(cQ [] x.2).take n) (v:= .slice E n cp)<|by rw [dQ,Nat.min_eq_left hn,List.map_take]; exact (Tg.jP<|eE (dz aX O fun k hk h=>dI aX ai az<|h ▸ hk) aq).clip bD
 exact nl<|bn<|⟨(eV.wk G).trans ((eV.wk I.md).trans<|(eV.md M<|pT V).trans<|eV.md O fun k hk=>⟨_,_,_,hk ▸ ai⟩),b3,vs++ [(x.1,.slice E n cp)],bb,(by rw [ir,show [x].map nD= [x.2] from aa,np,fM,al]; rw [bM,Dv]; exact dz aI O fun k hk h=>dI aI ai az<|h ▸ hk),(by rw [ir,show [x].map nD= [x.2] from aa,np,fM,al]; exact bH),O.aJ bv (fun h=>by omega),gk aq (gk G.size<|gk I.md.size<|gk M.size O.size),bi⟩
 have al:lx x.2 (1 +pre.length)= []:=by unfold lx; rw [aW,if_pos (by rw [show n=0 by omega]; rfl)]
 exact aQ<|bn<|⟨eV.wk G,v,vs,aF,(by rw [ir,show [x].map nD= [x.2] from aa,np,fM,al]; rw [ei]; exact aY),(by rw [ir,show [x].map nD= [x.2] from aa,np,fM,al]; rw [ei]; exact aZ),aU,gk aq G.size,aR⟩
 intro D J cc aB ac
 obtain ⟨v,vs,aH,ak,ao,aG,aq,aA⟩:=aB
 have cm:=(dB.1 ac).1
 refine cB<|cW<|cM<|rg aa<|p (ld sJ aa<|(a7 aH).trans aa)<|p aE<|p aE<|nl<|cB<|rY<|HE aa aa aa ac ?_
 have U:¬65536 < s.length:=ab
 rw [CT] at ak ao
 exact ⟨⟨v,by show gD #[v,.int .i64 0]=_; rw [if_neg U],by rw [if_neg U]; exact ⟨vs,eE (dz ak (mF _ _ _) fun k hk h=>by obtain ⟨c,e,z,h1⟩:=pT ak k hk; rw [h,ac] at h1; cases h1) Z.size,(ao.md (mF _ _ _) fun k hk cur z=>by rw [hk,ac]; simp).mono Z.size⟩⟩,Md.trans' aA (mF _ _ _) fun k hk h=>by have :=Z.size; omega⟩
end Go.Hb
end
section
namespace Go.Hb.kq
open Go.Hb.nE Go.Hb.xe
theorem qE {eof ln:Nat} {F F':aU} {hs:List Tx} {rows rows':List Rw} {row:List Tx} (a:cw eof F hs rows ln row= .ok (F',rows')):rows'.length≤rows.length:=by
 unfold cw at a
 repeat' split at a
 · unfold ko at a; split at a; cases a; cases a; exact cD _
 · unfold kH at a; repeat' split at a
   all_goals first | (cases a; done) | (cases a; exact cD _)
 · unfold mN at a; split at a; cases a; cases a; exact cD _
 · unfold mR at a; split at a; cases a; cases a; exact cD _
 · unfold kX at a; repeat' split at a
   all_goals first | (cases a; done) | (cases a; exact cD _)
 · unfold km at a; repeat' split at a
   all_goals first | (cases a; done) | (cases a; exact (yx _ _ _<|by assumption).1)
 · unfold jU at a; repeat' split at a
   all_goals first | (cases a; done) | (cases a; exact (yx _ _ _<|by assumption).1)
 · unfold gO at a; repeat' split at a
   all_goals first | (cases a; done) | (cases a; exact (yx _ _ _<|by assumption).1)
theorem vG {eof k:Nat} {F:aU} {hs:List Tx} :gM eof k F hs []= .ok F:=by cases k <;> simp [gM]
section
variable {eof k n:Nat} {F:aU} {hs:List Tx} {r:List Tx} {rest:List Rw} {T:Except (Nat×Nat) aU} (h:gM eof k F hs ((n,r)::rest)=T) (hk:rest.length+1≤k)
include h hk
theorem KJ (a:width (r.getD 0 [])=0):T= .error (n,110):=by
 obtain ⟨m,rfl⟩:∃ m,k=m+1:=⟨k - 1,ab⟩
 rw [← h,gM,if_pos a]
theorem KK (a:width (r.getD 0 [])≠0) (h1:r.length≠width (r.getD 0 [])):T= .error (n,111):=by
 obtain ⟨m,rfl⟩:∃ m,k=m+1:=⟨k - 1,ab⟩
 rw [← h,gM,if_neg a,if_pos h1]
theorem Dh (a:width (r.getD 0 [])≠0) (h1:r.length=width (r.getD 0 [])) (h2:width (r.getD 0 [])≠4) (h3:r.getD 0 []∈hs):T= .error (n,112):=by
 obtain ⟨m,rfl⟩:∃ m,k=m+1:=⟨k - 1,ab⟩
 have hw:width (r.getD 0 [])=2:=by
  unfold width at a h2 ⊢
  split
  · rfl
  · rename_i hn
    rw [if_neg hn] at a h2
    split at h2
    · exact absurd aa h2
    · rename_i i; rw [if_neg i] at a; exact absurd rfl a
 rw [← h,gM,if_neg a,if_neg (fun h4=>h4 h1),if_pos ⟨hw,h3⟩]
theorem Di {e:Nat×Nat} (a:width (r.getD 0 [])≠0) (h1:r.length=width (r.getD 0 [])) (h2:width (r.getD 0 [])=2→r.getD 0 []∉hs) (h3:cw eof F hs rest n r= .error e):T= .error e:=by
 obtain ⟨m,rfl⟩:∃ m,k=m+1:=⟨k - 1,ab⟩
 rw [← h,gM,if_neg a,if_neg (fun h4=>h4 h1),if_neg (fun h4=>h2 h4.1 h4.2),h3]
theorem Dj {F':aU} {rows':List Rw} (a:width (r.getD 0 [])≠0) (h1:r.length=width (r.getD 0 [])) (h2:width (r.getD 0 [])=2→r.getD 0 []∉hs) (h3:cw eof F hs rest n r= .ok (F',rows')):gM eof (k - 1) F' (hs++ [r.getD 0 []]) rows'=T∧rows'.length≤k - 1:=by
 obtain ⟨m,rfl⟩:∃ m,k=m+1:=⟨k - 1,ab⟩
 refine ⟨?_,by have :=qE h3; omega⟩
 rw [← h,gM,if_neg a,if_neg (fun h4=>h4 h1),if_neg (fun h4=>h2 h4.1 h4.2),h3]; rfl
end
theorem E0 {s:Tx} (h:65536 < s.length):fy s= .error (0,10):=by unfold fy; rw [if_pos h]
theorem oA {s:Tx} {e:Nat×Nat} (h:¬65536 < s.length) (h1:gM ((bL s).length+1) (bR s).length hZ [] (bR s)= .error e):fy s= .error e:=by unfold fy; rw [if_neg h,h1]
theorem z7 {s:Tx} {F:aU} {q:dp} (h:¬65536 < s.length) (h1:gM ((bL s).length+1) (bR s).length hZ [] (bR s)= .ok F) (h2:F.rules.find? (nK F)=some q):fy s= .error (q.line,118):=by unfold fy; rw [if_neg h,h1]; simp only; rw [h2]
theorem E2 {s:Tx} {F:aU} (h:¬65536 < s.length) (h1:gM ((bL s).length+1) (bR s).length hZ [] (bR s)= .ok F) (h2:F.rules.find? (nK F)=none):fy s= .ok F:=by unfold fy; rw [if_neg h,h1]; simp only; rw [h2]
def qG (s:Tx):Value:=match iJ s with | some (.agg cs)=>cs.getD 1 .nilFunc | _=> .nilFunc
theorem UP (s:Tx):(iJ s).getD (.agg #[.int .i64 0,.nilFunc])= .agg [.int .i64 (width s:Nat),qG s].toArray∧(iJ s).isSome=decide (width s≠0):=by
 rcases Cs s with h | ⟨wd,f,h,hw,a⟩
 · have a:=I5 h
   unfold qG
   rw [h,a]; exact ⟨rfl,rfl⟩
 · unfold qG
   rw [h,hw,decide_eq_true a]; exact ⟨rfl,rfl⟩
theorem UW (s:Tx):[jk .i64 (width s:Nat),qG s].all gF=true :=by
 rcases Cs s with h | ⟨wd,f,h,hw,a⟩ <;> unfold qG <;> rw [h] <;> rfl
theorem I4 {s:Tx} (h:width s≠0):∃ v,iJ s=some v∧∀ (wd:Nat) (f:Nat),v= .agg [.int .i64 (wd:Nat),.func (.func f) #[] #[]].toArray→qG s= .func (.func f) #[] #[]:=by
 rcases Cs s with h1 | ⟨wd,f,h1,hw,i⟩
 · exact absurd (I5 h1) h
 · refine ⟨_,h1,fun q a he=> ?_⟩
   unfold qG
   rw [h1,he]; rfl
theorem Le {f:Value→Option Value} {seen:List Tx} (k:Tx) (a:∀ s:Tx,(f<|str s).getD (.int .i64 0)= .int .i64 (seen.count s:Nat)) (s:Tx):(bW f (str k) (.int .i64 (seen.count k+1:Nat))<|str s).getD (.int .i64 0)= .int .i64 ((seen++ [k]).count s:Nat):=by
 rw [List.count_append]
 by_cases h:s=k
 · subst h; rw [vB]; simp
 · rw [tE (fun h2=>h<|str_inj.1 h2),a s,List.count_singleton,show (k==s)=false from by simpa using fun h2=>h h2.symm]; rfl
theorem dE.Ld {w w':World} {B:Nat} {H:dx} {F:aU} {R:gX} {rows:List Rw} {ln:Nat} {seen q:List Tx} {f:Value→Option Value} (h:dE w B H F R rows ln seen) (hm:Md (fun k=>k=H.ms) w w') (A:dy w'.heap H.ms jo f) (hd:∀ s:Tx,(f<|str s).getD (.int .i64 0)= .int .i64 (q.count s:Nat)):dE w' B H F R rows ln q:=by
 obtain ⟨g,E,G⟩:=h.tm
 obtain ⟨f0,C,_⟩:=h.sm
 have a:TF w [1] (fun k=>k=H.ms):=TF.eq (eH C) az
 exact ⟨hm.ic a h.cells az,h.rws.md hm (fun k hk cur z i=>a.no (dA i) az hk),h.rt.md hm (fun k hk cur z i=>a.no (dA i) az hk),⟨f,A,hd⟩,⟨g,E.md hm (fun h2=>h.ne.1 h2.symm),G⟩,cx h.on hm a az,h.lo,h.ne⟩
theorem dX.ms {w w':World} {B:Nat} {H:dx} {F a:aU} {V:ff} {R:gX} {rows:List Rw} {ln:Nat} {seen:List Tx} (h:dX w B H.fb H.mc a V) (i:dE w B H F R rows ln seen) (hm:Md (fun k=>k=H.ms) w w'):dX w' B H.fb H.mc a V:=by
 obtain ⟨g,q,_⟩:=i.sm
 exact h.md (L:= [1]) hm (TF.eq (eH q) az) az fun h=>i.ne.2.1 h.symm
theorem fE.ms {w w':World} {B:Nat} {H:dx} {F:aU} {R:gX} {rows:List Rw} {ln:Nat} {seen:List Tx} (a:dE w B H F R rows ln seen) (hm:Md (fun k=>k=H.ms) w w'):fE B H w w':=hm.mono fun k _ hk=>⟨hk ▸ a.lo.2.1,.inl hk⟩
structure pq (w0 w:World) (H:dx) (b2 b3 bt:Nat):Prop where
 c2:w.heap[b2]? =some (.cells [.pointer none].toArray 60 (0,0))
 c3:w.heap[b3]? =some (.cells [.int .i64 0,.int .i64 0,.int .i64 0].toArray 47 (0,0))
 lo:w0.heap.size≤b2∧w0.heap.size≤b3∧b2≠b3
 tb:∃ f,dy w.heap bt jo f∧∀ s,f (str s)=iJ s
 ne:bt≠H.ms∧bt≠H.mt∧bt≠H.mc
 wk:Wk w0 w
theorem pq.md {A w w':World} {H:dx} {a i q:Nat} (h:pq A w H a i q) (hm:Wk w w'):pq A w' H a i q:=by
 obtain ⟨f,C,E⟩:=h.tb
 exact ⟨Wk.aJ hm h.c2,Wk.aJ hm h.c3,h.lo,⟨f,C.wk hm,E⟩,h.ne,h.wk.trans hm⟩
theorem pq.mw {a w w':World} {H:dx} {i q A:Nat} {F:aU} {R:gX} {V:ff} {rows:List Rw} {ln:Nat} {seen:List Tx} (h:pq a w H i q A) (G:dX w a.heap.size H.fb H.mc F V) (C:dE w a.heap.size H F R rows ln seen) (hm:fE a.heap.size H w w'):pq a w' H i q A:=by
 obtain ⟨f,E,J⟩:=h.tb
 obtain ⟨f1,I,_⟩:=C.sm
 obtain ⟨f2,M,_⟩:=C.tm
 obtain ⟨f3,O,_⟩:=G.cm
 have hn:=fun e (U:([197,127,130,72,133,79,5]:List Nat).contains (e+2)=false)=>Wr.ne (B:=a.heap.size) (eH I) (eH M) (eH O) U
 refine ⟨hm.aJ h.c2 (fun hk=>hn 60 az _ hk _ _ h.c2),hm.aJ h.c3 (fun hk=>hn 47 az _ hk _ _ h.c3),h.lo,⟨f,E.md hm ?_,J⟩,h.ne,hm.wk h.wk<|cD _⟩
 rintro ⟨_,h1 | h1 | h1 | h1⟩
 · exact h.ne.1 h1
 · exact h.ne.2.1 h1
 · exact h.ne.2.2 h1
 · rw [eH E] at h1; exact absurd h1 az
def N6 (w':World) (B:Nat) (F:aU) (v:Value):Prop := ∃ fb mc V,v= .tuple #[.pointer (some ⟨fb,0,none⟩),.agg [.int .i64 0,.int .i64 0,.int .i64 0].toArray]∧dX w' B fb mc F V∧(∃ seen,kM F [] seen)∧Nx F
def N5 (e:Nat×Nat) (v:Value):Prop :=v= .tuple #[.pointer none,.agg [.int .i64 1,.int .i64 (e.1:Nat),.int .i64 (e.2:Nat)].toArray]
def pz (s:Tx) (w:World) (v:Value) (w':World):Prop :=(match fy s with | .ok F=>N6 w' w.heap.size F v | .error e=>N5 e v)∧Wk w w'
theorem pz.no {s:Tx} {w w':World} {l e:Nat} (h:fy s= .error (l,e)) (hm:Wk w w'):pz s w (.tuple #[.pointer none,.agg [.int .i64 1,.int .i64 (l:Nat),.int .i64 (e:Nat)].toArray]) w':=by
 unfold pz; rw [h]; exact ⟨rfl,hm⟩
theorem rW {n:Nat} {G:List Nat} {fn:Func} {σ:Nat→Value} {s:Tx} {w W:World} {H:dx} {i q A l e:Nat} (E:fn.results= #[.cell 2 60,.cell 3 47]) (C:3 < n) (I:σ 2= .pointer (some ⟨i,0,none⟩)) (J:σ 3= .pointer (some ⟨q,0,none⟩)) (a:pq w W H i q A) (M:fy s= .error (l,e)):qb ⟨n,[{target:= .fn (.func 82) #[.pointer (some ⟨i,0,none⟩),.pointer (some ⟨q,0,none⟩)],args:= #[]}],G,none⟩ (qf aw fn<|pz s w) (.panic<|jn 47 l (e:Nat)) σ W:=
 Xj E C I J ⟨_,a.c2⟩ ⟨_,rfl,a.c3⟩ a.lo.2.2 (fun w' hm=>pz.no M<|a.wk.trans' hm fun k hk h=>by rcases h with rfl | rfl; have :=a.lo.1; omega; have :=a.lo.2.1; omega)
theorem Sp {x:Nat} (h:x≠0):eJ hZ x=false :=by
 unfold eJ hZ eb
 simp [h]
theorem Wk.dr {w:World} :Wk w w.drew:=(Md.refl _ _).drew
theorem Om (s:Tx) (w:World) (hs:s.length≤1048576):
 bp aw 45 (bh [str s]) w (pz s w):=by
 refine SX [2,3] func45 aa ntmps45 aa ?_
 refine cW<|cM<|rg aa<|e<|fg ZW fun aI fo eJ cu cZ=>e<|fg p7 fun aK er eM bv c6=> ?_
 have e3:=cu.size
 have e7:=bv.size
 have dg:Wk w er:=cu.md.trans bv.md
 have d6:=Wk.aJ bv.md cZ
 refine nl<|cB<|cW<|cM<|rg aa<|p (aV (str s) aa)<|e<|cl Gs (KV s _ hs) aa fun fi fm dG=> ?_
 obtain ⟨⟨eE,rfl,cy⟩,hE15⟩:=dG
 have cg:=dg.trans hE15
 have cG:=Wk.aJ hE15 d6
 have cH:=Wk.aJ hE15 c6
 have e2:=hE15.size
 refine p mv<|p (xt aa aa)<|p (xt aa aa)<|p aE<|p aE<|nl<|cB<|cW<|cW<|cM<|rg aa<|p mv<|p (cO aa aa)<|nl<|cB<|cM<|cd aa (fun bG=> ?_) fun bG=> ?_
 have cx:65536 < s.length:=Classical.byContradiction fun h=>bG<|by rw [if_neg h]
 exact sq fun cL bo=>rg aa<|p mv<|p (c8 (ps:= [(0,.int .i64 1),(2,.int .i64 (if 65536 < s.length then 10 else 0))]) (L:= [.int .i64 1,.int .i64 0,.int .i64 (if 65536 < s.length then 10 else 0)]) tH aa<|aa)<|e<|cT Bf aa aa (v:= .pointer none) aa cG az fun fw cs db=>e<|gj jV aa aa aa aa (cs.aJ cH fun h=>by omega) az fun fy ct dc=>nl<|tn<|bo _ _<|rt<|prt<|Tl (yX aa (mL<|vJ aa aa<|(a7<|ct.aJ db fun h=>by omega).trans aa)<|mL<|dT aa aa aa fun j eU=>by rw [gW,a7 dc,if_pos cx]; simp)<|pz.no (E0 cx)<|(cg.trans' cs fun k hk h=>by omega).trans' ct fun k hk h=>by omega
 have an:¬65536 < s.length:=fun h=>bG<|by rw [if_pos h]; decide
 rw [if_neg an] at cy
 obtain ⟨vs,cF,d7⟩:=cy
 obtain ⟨ar,cr,rfl⟩:=cE cF
 refine aQ<|cB<|cW<|cM<|rg aa<|p (aV (str s) aa)<|e<|cl Gt (Lx s _ hs) aa fun v24 cK dH=> ?_
 obtain ⟨⟨a24,rfl,cz⟩,hE24⟩:=dH
 rw [if_neg an] at cz
 obtain ⟨fd,qp,rfl⟩:=cE cz
 have df:=cg.trans hE24
 have eV:=nY s
 have e4:=hE24.size
 refine p mv<|p (xt aa aa)<|p (xt aa aa)<|p aE<|p aE<|nl<|cB<|cW<|cM<|rg aa<|e<|vt fun M fr eK cv c4=> ?_
 have e5:=cv.size
 refine p (c8 (ps:= [(1,.map (some M))]) (L:= [.int .i64 0,.string ⟨⟨[]⟩⟩,.string ⟨⟨[]⟩⟩,.int .u16 0,.int .u16 0,.int .u16 0,.int .u16 0,.int .u16 0,.int .i64 0,.slice none 0 0,.slice none 0 0,.slice none 0 0,.slice none 0 0,.map (some M)]) Yw aa<|aa)<|e<|oE aa fun I ft eL bt c5=> ?_
 have e6:=bt.size
 refine p mv<|p mv<|p (bJ eZ aa aa)<|p (bF (((bL s).length+1:Nat):Int) aa aa<|bl ab ab)<|e<|vt fun U fu eN bd c9=> ?_
 have e8:=bd.size
 refine e<|vt fun Y fv eO aY da=> ?_
 have fb:=aY.size
 refine p (c8 (ps:= [(0,.pointer (some ⟨I,0,none⟩)),(1,.slice ar (bR s).length cr),(3,.int .i64 ((bL s).length+1:Nat)),(4,.map (some U)),(5,.map (some Y))]) (L:= [.pointer (some ⟨I,0,none⟩),.slice ar (bR s).length cr,.int .i64 0,.int .i64 ((bL s).length+1:Nat),.map (some U),.map (some Y),.slice none 0 0]) YB aa<|aa)<|e<|oE aa fun A aG eS aN bk=> ?_
 have fc:=aN.size
 have dV:=Wk.aJ (bd.md.trans<|aY.md.trans aN.md) c5
 refine p aE<|nl<|cB<|cW<|cM ?_
 have ah:(fun w'=>Md (fun k=>k=I) aG w') aG.drew:=(Md.refl _ _).drew
 refine bN (fun w'=>Md (fun k=>k=I) aG w') aa wide ah<|hp 0 aa aj (fun _ _=>mv) ah<|hp 1 aa aj (fun _ _=>nc aa) ah<|hp 2 aa aj (fun _ _=>fa ig aa) ah<|hp 3 aa aj (fun w' J=>ld gq aa<|Md.aR J ((a7 bk).trans aa) fun h=>by omega) ah<|hp 4 aa aj (fun _ _=>mv) ah<|hp 5 aa aj (fun _ _=>nc aa) ah<|hp 6 aa aj (fun _ _=>fa ig aa) ah<|hp 7 aa aj (fun w' J=>ld gq aa<|Md.aR J ((a7 bk).trans aa) fun h=>by omega) ah<|hp 8 aa aj (fun _ _=>nc aa) ah<|hp 9 aa aj (fun _ _=>fa gJ aa) ah<|hp 10 aa aj (fun _ _=>fa tu aa) ah<|he 11 aa aj<|cT gr aa aa (v:= .int .i64 (1:Nat)) aa dV (by show 0 +0 +0 < 14; decide) fun eu du dd=> ?_
 have aZ:(fun w'=>Md (fun k=>k=I) aG w') eu:=ah.trans' du fun _ _ h=>h
 refine ⟨aZ,?_⟩
 refine hp 12 aa aj (fun _ _=>nc aa) aZ<|hp 13 aa aj (fun _ _=>fa gJ aa) aZ<|hp 14 aa aj (fun _ _=>fa B5 aa) aZ<|he 15 aa aj<|cT gr aa aa (v:= .int .i64 (3:Nat)) aa dd (by show _ < 14; decide) fun ev dv de=> ?_
 have bE:(fun w'=>Md (fun k=>k=I) aG w') ev:=aZ.trans' dv fun _ _ h=>h
 refine ⟨bE,?_⟩
 refine hn aj<|cB<|cW<|SA VJ #[.pointer (some ⟨aI,0,none⟩),.pointer (some ⟨aK,0,none⟩)] aa az ?_
 refine cW<|cM<|rg aa<|e<|cl QN (UT _) aa fun v53 am dJ=> ?_
 obtain ⟨aB,rfl,eT,eg,ch⟩:=dJ
 have dh:Wk cK aG:=cv.md.trans<|bt.md.trans<|bd.md.trans<|aY.md.trans aN.md
 have aM:Md (fun k=>k=I) aG am:=bE.trans' ch fun _ _ h=>h.elim
 have aX:Wk cK am:=Md.trans' dh aM fun k hk h=>by omega
 have e0:=aM.size
 have di:=df.trans aX
 have dR:am.heap[I]? =some (.cells (oI hZ ⟨.slice none 0 0,.slice none 0 0,.slice none 0 0,.slice none 0 0,[],[]⟩ M).toArray 125 (0,0)):=Wk.aJ ch de
 have dU:am.heap[A]? =some (.cells (vF (⟨A,I,U,Y,M,(bL s).length+1⟩:dx) ⟨.slice ar (bR s).length cr,vs,.slice none 0 0⟩ 0).toArray 195 (0,0)):=aM.aJ bk fun h=>by omega
 have d1:dy am.heap M (pO .u16) (fun _=>none):=dy.md (dy.wk (dy.nil c4)<|bt.md.trans<|bd.md.trans<|aY.md.trans aN.md) aM fun h=>by omega
 have d2:dy am.heap U jo (fun _=>none):=dy.md (dy.wk (dy.nil c9)<|aY.md.trans aN.md) aM fun h=>by omega
 have d3:dy am.heap Y (pO .u16) (fun _=>none):=dy.md (dy.wk (dy.nil da) aN.md) aM fun h=>by omega
 have dj:dX am w.heap.size I M hZ ⟨.slice none 0 0,.slice none 0 0,.slice none 0 0,.slice none 0 0,[],[]⟩:=⟨dR,dC _ _ _ _,dC _ _ _ _,eB.nil _ _ _,dC _ _ _ _,dC _ _ _ _,eB.nil _ _ _,⟨_,d1,fun _=>rfl⟩,⟨ab,ab⟩,rfl⟩
 have dB:dE am w.heap.size (⟨A,I,U,Y,M,(bL s).length+1⟩:dx) hZ ⟨.slice ar (bR s).length cr,vs,.slice none 0 0⟩ (bR s) 0 []:=⟨dU,(((Tg.jP cF).mono ab).wk<|hE24.trans aX).YZ,(d7.mono ab).wk (hE24.trans aX),⟨_,d2,fun _=>rfl⟩,⟨_,d3,fun x b6=>by rw [Sp b6]; rfl⟩,dC _ _ _ _,⟨by show w.heap.size≤A; omega,by show w.heap.size≤U; omega,by show w.heap.size≤Y; omega⟩,⟨by show U≠Y; omega,by show U≠M; omega,by show Y≠M; omega⟩⟩
 have eY:=yV s
 have dN:St am w.heap.size (⟨A,I,U,Y,M,(bL s).length+1⟩:dx) hZ (bR s) 0 []:=⟨_,_,dj,dB,⟨by show 0 +0 +0 +0 +(bR s).length≤70000; omega,by show 0 +(bR s).length≤70000; omega,fun q bZ=>by have h:=yW bZ; exact ⟨h.2.2.1,ab,fun x b6=>by have :=(h.2.2.2.2 x b6).2; omega⟩,.inl rfl,fun l a5=>by cases a5⟩⟩
 have ef:ku hZ []:=fun k hk _=>by have h:∀ k∈eh,hZ.sp.getD (eh.idxOf k) 0=0:=az
                                  exact h k hk
 have d4:Nx hZ:=⟨fun l a5=>(by cases a5),fun l a5=>by cases a5⟩
 have e1:=bE.size
 have d5:pq w am (⟨A,I,U,Y,M,(bL s).length+1⟩:dx) aI aK aB:=⟨Wk.aJ (hE24.trans aX) cG,Wk.aJ (hE24.trans aX) cH,⟨ab,ab,ab⟩,eg,⟨by show aB≠U; omega,by show aB≠Y; omega,by show aB≠M; omega⟩,di⟩
 refine p aE<|nl<|cB<|cW<|cM<|aJ<|lp (fun ce ba a8=> ∃ (k:Nat) (F:aU) (rows:List Rw) (ln:Nat) (seen:List Tx),(gM (⟨A,I,U,Y,M,(bL s).length+1⟩:dx).eof k F seen rows=gM ((bL s).length+1) (bR s).length hZ [] (bR s))∧(rows.length≤k)∧(St a8 w.heap.size (⟨A,I,U,Y,M,(bL s).length+1⟩:dx) F rows ln seen)∧(ku F seen)∧(Nx F)∧(pq w a8 (⟨A,I,U,Y,M,(bL s).length+1⟩:dx) aI aK aB)∧(ba 2= .pointer (some ⟨aI,0,none⟩))∧(ba 3= .pointer (some ⟨aK,0,none⟩))∧(ba 8= .pointer (some ⟨A,0,none⟩))∧(ba 9= .map (some aB))∧(rows.length=ce)) _ ⟨(bR s).length,hZ,bR s,0,[],aa,(cD _),dN,ef,d4,d5,aa,aa,aa,aa,aa⟩ ?_
 rintro ce ba a8 ⟨k,F,rows,ln,seen,ai,hk,J,bi,bg,bW,d9,ea,eb,ec,rfl⟩
 refine fx 2 d9<|fx 3 ea<|fx 8 eb<|fx 9 ec ?_
 obtain ⟨V,R,O,au,aL⟩:=J
 obtain ⟨vr,vs,vn⟩:=R
 obtain ⟨ca,cc,ei⟩:=au.rws.slice
 obtain rfl :vr= .slice ca rows.length cc:=ei
 refine sq fun cL bo=>sq fun ew dm=>rg aa<|p (aV (.pointer<|some ⟨A,0,none⟩) aa)<|p (nc aa)<|p (fa u0 aa)<|p (ld sJ aa<|(a7 au.cells).trans aa)<|p (bJ zi aa aa)<|p (gt aa aa)<|nl<|tn<|dm _ _<|cd aa (fun bH=> ?_) fun bH=> ?_
 obtain ⟨⟨n,r⟩,rest,rfl⟩:∃ q rest,rows=q::rest:=by
  cases rows with
  | nil=>exact absurd bH<|by simp
  | cons q rest=>exact ⟨q,rest,rfl⟩
 have b3:=aL.row (n,r)<|List.mem_cons_self ..
 have dP:=aL.len
 have dQ:=aL.sl
 simp only [c7] at dP dQ hk
 refine aQ<|tn<|bo _ _<|aJ<|sq fun ex dn=>rg aa<|p (aV (.pointer<|some ⟨A,0,none⟩) aa)<|e<|cl Gu (LP w.heap.size (⟨A,I,U,Y,M,(bL s).length+1⟩:dx) F ⟨.slice ca (rest.length+1) cc,vs,vn⟩ n r rest ln seen a8 au) aa fun fj es dK=> ?_
 obtain ⟨⟨R1,dD⟩,hT1,hM1⟩:=dK
 obtain ⟨b9,cb,rfl⟩:=hT1.slice
 have dk:=O.rb au hM1
 have cC:=bW.mw O au<|fE.rb au hM1
 have eX:0 < r.length:=lF.2 b3.1
 have cf:=kM.pH aL
 have cI:=UP<|r.getD 0 []
 obtain ⟨eG,d0,cA⟩:=cC.tb
 refine p aE<|nl<|tn<|dn _ _<|sq fun ey dp=>rg aa<|p (aV (.map<|some aB) aa)<|p mv<|p (bc cR aa aa ab<|aO.ok (hT1.cV.2)<|bT ab)<|p (ld bV aa<|cj.get (i:=0) hT1.cV.2 ab)<|p (JB mi Z0 jg (d0) aa aa (⟨_,aa⟩) ((congrArg (fun o=>Option.getD o _)<|cA<|r.getD 0 []).trans cI.1)<|(congrArg Option.isSome<|cA<|r.getD 0 []).trans cI.2)<|p mv<|p (xt aa aa)<|p (xt aa aa)<|e<|fg ZS fun cS fl eI dz cX=>e<|gj Sh aa aa aa (UW _) cX az fun b8 dt cY=> ?_
 have bb:Wk es b8:=dz.md.trans' dt fun k hk h=>by omega
 have bf:b8.heap[cS]? =some (.cells [.int .i64 (width (r.getD 0 []):Nat),qG (r.getD 0 [])].toArray 202 (0,0)):=cY
 have ay:=dk.wk bb
 have Z:=dD.wk bb
 have aP:=hT1.wk bb
 have aA:=cC.md bb
 refine p aE<|nl<|tn<|dp _ _<|sq fun ez dq=>rg aa<|p (aV (.pointer<|some ⟨A,0,none⟩) aa)<|p mv ?_
 refine eP aa (dW iD (iM A n _ 110 b8 Z.dw az) aa fun v72 et dL=> ?_) (fun c w' ae aT O=>by
  obtain ⟨rfl,av,rfl⟩:=ae
  exact rW aa az ((O 2<|.head _).trans aa) ((O 3<|.tail _<|.head _).trans aa) aA (oA an<|KJ ai hk<|jr.1<|of_decide_eq_false av))
 obtain ⟨rfl,ak,rfl⟩:=dL
 have ak:width (r.getD 0 [])≠0:=of_decide_eq_true ak
 refine nl<|tn<|dq _ _<|sq fun eA ds=>rg aa<|p (aV (.pointer<|some ⟨A,0,none⟩) aa)<|p mv<|p (bJ eZ aa aa)<|p (fa Ij aa)<|p (ld bz aa<|(a7 bf).trans aa)<|p (bK aa aa) ?_
 refine eP aa (dW iD (iM A n _ 111 et Z.dw az) aa fun fk ax dM=> ?_) (fun c w' ae aT O=>by
  obtain ⟨rfl,av,rfl⟩:=ae
  exact rW aa az ((O 2<|.head _).trans aa) ((O 3<|.tail _<|.head _).trans aa) aA (oA an<|KK ai hk ak fun h=>of_decide_eq_false av<|by rw [h]))
 obtain ⟨rfl,ao,rfl⟩:=dM
 have ao:r.length=width (r.getD 0 []):=by have :=of_decide_eq_true ao; omega
 refine nl<|tn<|ds _ _<|sq fun eC cn=> ?_
 obtain ⟨ff,ed,ee⟩:=Z.sm
 have C:(fun w'=>Wk ax w') ax.drew:=(Md.refl _ _).drew
 refine bN (fun w'=>Wk ax w') aa wide C<|hp 0 aa aj (fun _ _=>aV (.pointer<|some ⟨A,0,none⟩) aa) C<|hp 1 aa aj (fun _ _=>fa Ij aa) C<|hp 2 aa aj (fun w' J=>ld bz aa<|Wk.aR J<|(a7 bf).trans aa) C<|hp 3 aa aj (fun _ _=>bK aa aa) C<|hp 4 aa aj (fun _ _=>mv) C<|iK (t:=84) aa (fun a4=> ?_) fun a4=> ?_
 refine oK 5 aa aj aa aa aa aa C<|oK 6 aa aj aa aa aa aa C<|oK 7 aa aj aa aa aa aa C<|oK 8 aa aj aa aa aa aa C<|oK 9 aa aj aa aa aa aa C<|oK 10 aa aj aa aa aa aa C<|oK 11 aa aj aa aa aa aa C<|oK 12 aa aj aa aa aa aa C<|oK 13 aa aj aa aa aa aa C<|hp 14 aa aj (fun _ _=>bC aa) C ?_
 refine tx 15 aa aj aa (dW iD (iM A n _ 112 ax.drew (Wk.aR C Z.dw) az) aa fun eo aH bB=> ?_) (fun c w' ae aT O=>by
  obtain ⟨rfl,av,rfl⟩:=ae
  first
   | exact absurd av az
   | exact rW rfl az ((O 2<|.head _).trans rfl) ((O 3<|.tail _<|.head _).trans rfl) (aA.md Wk.dr) (oA an<|Dh ai hk ak ao (fun h=>a4<|by rw [h]; rfl)<|jr.1 fun h=>of_decide_eq_false av<|by rw [q9.2 h]; rfl))
 obtain ⟨rfl,b7,a6⟩:=bB
 have aD:width (r.getD 0 [])=2→r.getD 0 []∉seen:=by
  first
   | exact fun h=>absurd a4 ab
   | exact fun _=>q9.1<|by have :=of_decide_eq_true b7; omega
 have E:Wk ax aH:=by rw [a6]; exact Wk.dr
 obtain ⟨ej,bS,bP⟩:=I4 ak
 obtain ⟨cU,b5,bI,bO⟩:=I8 w.heap.size (⟨A,I,U,Y,M,(bL s).length+1⟩:dx) F rest n seen r w.heap.size b9 cb aH ⟨_,_,ay.wk E,Z.wk E,cf⟩ (aP.wk E) b3.2.2 ao bi aD ab bS
 have bQ:=bP _ _ b5
 have bD:(fun w'=>Wk ax w') aH:=by rw [a6]; exact C
 refine ⟨bD,?_⟩
 refine hn aj<|tn<|cn _ _<|sq fun cN bq=>rg aa<|p (fa Ik aa)<|p (ld E6 aa<|(a7<|Wk.aJ E bf).trans<|congrArg some bQ)<|p (aV (.pointer<|some ⟨A,0,none⟩) aa)<|p mv ?_
 refine eP aa (Mv bI aa bO aa fun en aF bx=> ?_) (fun c w' ae aT O=>by
  obtain ⟨l,e,ac,rfl,aq⟩:=ae
  exact rW aa az ((O 2<|.head _).trans aa) ((O 3<|.tail _<|.head _).trans aa) ((aA.md E).mw (ay.wk E) (Z.wk E) aq) (oA an<|Di ai hk ak ao aD ac))
 obtain ⟨rfl,F',rows',ln',ac,⟨cP,bj,aW,ag,ap⟩,aq⟩:=bx
 have bY:=(aA.md E).mw (ay.wk E) (Z.wk E) aq
 obtain ⟨ek,b0,_⟩:=Z.sm
 obtain ⟨el,b1,_⟩:=Z.tm
 obtain ⟨em,b2,_⟩:=ay.cm
 have a0:=(aP.wk E).md aq<|Wr.ne (eH<|b0.wk E) (eH<|b1.wk E) (eH<|b2.wk E) az
 obtain ⟨fs,a2,a3⟩:=ag.sm
 have dS:=ui (a:=r.getD 0 []) (l:=seen)
 have a1:=Dj ai hk ak ao aD ac
 refine nl<|tn<|bq _ _ ?_
 have G:(fun w'=>Wk aF w') aF.drew:=(Md.refl _ _).drew
 refine eR (fun w'=>Wk aF w') 9 aa wide G<|lq 0 aa aj (fun _ _=>aV (.pointer<|some ⟨A,0,none⟩) aa) G<|lq 1 aa aj (fun _ _=>nc aa) G<|lq 2 aa aj (fun _ _=>fa tp aa) G<|lq 3 aa aj (fun w' J=>ld sK aa<|Wk.aR J<|(a7 ag.cells).trans aa) G<|lq 4 aa aj (fun _ _=>mv) G<|lq 5 aa aj (fun _ _=>bc cR aa aa ab<|aO.ok (aO.wk a0.cV.2 G)<|bT ab) G<|lq 6 aa aj (fun w' J=>ld bV aa<|Wk.aR J<|cj.get (i:=0) a0.cV.2 ab) G<|lq 7 aa aj (fun w' J=>oM qU oY jg (dy.md (a2) J id) aa aa (⟨_,aa⟩)<|a3<|r.getD 0 []) G<|lq 8 aa aj (fun _ _=>bF ((seen.count (r.getD 0 [])+1:Nat):Int) aa aa<|bl ab ab) G<|dO 9 aa aj aj<|tQ qU jg (a2.wk G) aa aa aa (⟨_,aa⟩) fun a9 br bw=> ?_
 have aC:=im br
 have bA:dE a9 w.heap.size (⟨A,I,U,Y,M,(bL s).length+1⟩:dx) F' bj rows' ln' (seen++ [r.getD 0 []]):=dE.Ld ag aC bw<|Le _ a3
 have bm:=dX.ms aW ag aC
 have bX:=bY.mw aW ag<|fE.ms ag aC
 have d8:=qE ac
 have G:St a9 w.heap.size (⟨A,I,U,Y,M,(bL s).length+1⟩:dx) F' rows' ln' (seen++ [r.getD 0 []]):=⟨_,_,bm,bA,⟨ap.len,by rw [bM,e9]; omega,ap.row,ap.kd,ap.al⟩⟩
 have b4:=I7 bi ac
 have bU:=yz bg ac
 exact eQ aj<|bn<|tn<|⟨_,by simp only [c7]; have :=qE ac; omega,k - 1,F',rows',ln',seen++ [r.getD 0 []],a1.1,a1.2,G,b4,bU,bX,aa,aa,aa,aa,aa⟩
 refine lr 5 aa aj aa aa aa (fun _ _=>aV (.pointer<|some ⟨A,0,none⟩) aa) C<|lr 6 aa aj aa aa aa (fun _ _=>nc aa) C<|lr 7 aa aj aa aa aa (fun _ _=>fa tp aa) C<|lr 8 aa aj aa aa aa (fun w' J=>ld sK aa<|Wk.aR J<|(a7 Z.cells).trans aa) C<|lr 9 aa aj aa aa aa (fun _ _=>mv) C<|lr 10 aa aj aa aa aa (fun _ _=>bc cR aa aa ab<|aO.ok (aO.wk aP.cV.2 C)<|bT ab) C<|lr 11 aa aj aa aa aa (fun w' J=>ld bV aa<|Wk.aR J<|cj.get (i:=0) aP.cV.2 ab) C<|lr 12 aa aj aa aa aa (fun w' J=>oM qU oY jg (dy.md (ed) J id) aa aa (⟨_,aa⟩)<|ee<|r.getD 0 []) C<|lr 13 aa aj aa aa aa (fun _ _=>bK aa aa) C<|hp 14 aa aj (fun _ _=>bu aa) C ?_
 refine tx 15 aa aj aa (dW iD (iM A n _ 112 ax.drew (Wk.aR C Z.dw) az) aa fun eo aH bB=> ?_) (fun c w' ae aT O=>by
  obtain ⟨rfl,av,rfl⟩:=ae
  first
   | exact absurd av az
   | exact rW rfl az ((O 2<|.head _).trans rfl) ((O 3<|.tail _<|.head _).trans rfl) (aA.md Wk.dr) (oA an<|Dh ai hk ak ao (fun h=>a4<|by rw [h]; rfl)<|jr.1 fun h=>of_decide_eq_false av<|by rw [q9.2 h]; rfl))
 obtain ⟨rfl,b7,a6⟩:=bB
 have aD:width (r.getD 0 [])=2→r.getD 0 []∉seen:=by
  first
   | exact fun h=>absurd a4 ab
   | exact fun _=>q9.1<|by have :=of_decide_eq_true b7; omega
 have E:Wk ax aH:=by rw [a6]; exact Wk.dr
 obtain ⟨ej,bS,bP⟩:=I4 ak
 obtain ⟨cU,b5,bI,bO⟩:=I8 w.heap.size (⟨A,I,U,Y,M,(bL s).length+1⟩:dx) F rest n seen r w.heap.size b9 cb aH ⟨_,_,ay.wk E,Z.wk E,cf⟩ (aP.wk E) b3.2.2 ao bi aD ab bS
 have bQ:=bP _ _ b5
 have bD:(fun w'=>Wk ax w') aH:=by rw [a6]; exact C
 refine ⟨bD,?_⟩
 refine hn aj<|tn<|cn _ _<|sq fun cN bq=>rg aa<|p (fa Ik aa)<|p (ld E6 aa<|(a7<|Wk.aJ E bf).trans<|congrArg some bQ)<|p (aV (.pointer<|some ⟨A,0,none⟩) aa)<|p mv ?_
 refine eP aa (Mv bI aa bO aa fun en aF bx=> ?_) (fun c w' ae aT O=>by
  obtain ⟨l,e,ac,rfl,aq⟩:=ae
  exact rW aa az ((O 2<|.head _).trans aa) ((O 3<|.tail _<|.head _).trans aa) ((aA.md E).mw (ay.wk E) (Z.wk E) aq) (oA an<|Di ai hk ak ao aD ac))
 obtain ⟨rfl,F',rows',ln',ac,⟨cP,bj,aW,ag,ap⟩,aq⟩:=bx
 have bY:=(aA.md E).mw (ay.wk E) (Z.wk E) aq
 obtain ⟨ek,b0,_⟩:=Z.sm
 obtain ⟨el,b1,_⟩:=Z.tm
 obtain ⟨em,b2,_⟩:=ay.cm
 have a0:=(aP.wk E).md aq<|Wr.ne (eH<|b0.wk E) (eH<|b1.wk E) (eH<|b2.wk E) az
 obtain ⟨fs,a2,a3⟩:=ag.sm
 have dS:=ui (a:=r.getD 0 []) (l:=seen)
 have a1:=Dj ai hk ak ao aD ac
 refine nl<|tn<|bq _ _ ?_
 have G:(fun w'=>Wk aF w') aF.drew:=(Md.refl _ _).drew
 refine eR (fun w'=>Wk aF w') 9 aa wide G<|lq 0 aa aj (fun _ _=>aV (.pointer<|some ⟨A,0,none⟩) aa) G<|lq 1 aa aj (fun _ _=>nc aa) G<|lq 2 aa aj (fun _ _=>fa tp aa) G<|lq 3 aa aj (fun w' J=>ld sK aa<|Wk.aR J<|(a7 ag.cells).trans aa) G<|lq 4 aa aj (fun _ _=>mv) G<|lq 5 aa aj (fun _ _=>bc cR aa aa ab<|aO.ok (aO.wk a0.cV.2 G)<|bT ab) G<|lq 6 aa aj (fun w' J=>ld bV aa<|Wk.aR J<|cj.get (i:=0) a0.cV.2 ab) G<|lq 7 aa aj (fun w' J=>oM qU oY jg (dy.md (a2) J id) aa aa (⟨_,aa⟩)<|a3<|r.getD 0 []) G<|lq 8 aa aj (fun _ _=>bF ((seen.count (r.getD 0 [])+1:Nat):Int) aa aa<|bl ab ab) G<|dO 9 aa aj aj<|tQ qU jg (a2.wk G) aa aa aa (⟨_,aa⟩) fun a9 br bw=> ?_
 have aC:=im br
 have bA:dE a9 w.heap.size (⟨A,I,U,Y,M,(bL s).length+1⟩:dx) F' bj rows' ln' (seen++ [r.getD 0 []]):=dE.Ld ag aC bw<|Le _ a3
 have bm:=dX.ms aW ag aC
 have bX:=bY.mw aW ag<|fE.ms ag aC
 have d8:=qE ac
 have G:St a9 w.heap.size (⟨A,I,U,Y,M,(bL s).length+1⟩:dx) F' rows' ln' (seen++ [r.getD 0 []]):=⟨_,_,bm,bA,⟨ap.len,by rw [bM,e9]; omega,ap.row,ap.kd,ap.al⟩⟩
 have b4:=I7 bi ac
 have bU:=yz bg ac
 exact eQ aj<|bn<|tn<|⟨_,by simp only [c7]; have :=qE ac; omega,k - 1,F',rows',ln',seen++ [r.getD 0 []],a1.1,a1.2,G,b4,bU,bX,aa,aa,aa,aa,aa⟩
 obtain rfl :rows= []:=by
  cases rows with
  | nil=>rfl
  | cons q rest=>exact absurd (by simp only [c7]; omega) bH
 rw [vG] at ai
 refine ext<|te _<|te _<|be<|cB<|cW<|cM<|rg aa<|p (aV (.pointer<|some ⟨A,0,none⟩) aa) ?_
 refine eP aa (dW QO (Q1 w.heap.size (⟨A,I,U,Y,M,(bL s).length+1⟩:dx) F [] ln seen a8 ⟨_,_,O,au,aL⟩ bg.2) aa fun fh cJ dF=> ?_) (fun c w' ae aT ci=>by
  obtain ⟨q,bZ,rfl,bs⟩:=ae
  exact rW aa az ((ci 2<|.head _).trans aa) ((ci 3<|.tail _<|.head _).trans aa) (bW.mw O au bs) (z7 an ai.symm bZ))
 obtain ⟨rfl,dY,⟨cQ,eD,fe,ck,dI⟩,bs⟩:=dF
 have aS:=bW.mw O au bs
 have eW:=aS.lo
 refine nl<|cB<|cW<|cM<|rg aa<|p (aV (.pointer<|some ⟨A,0,none⟩) aa)<|p (nc aa)<|p (fa ig aa)<|p (ld gq aa<|(a7 dI.cells).trans aa)<|p (c8 (ps:= []) (L:= [.int .i64 0,.int .i64 0,.int .i64 0]) tH aa<|aa)<|e<|cT Bf aa aa (v:= .pointer<|some ⟨I,0,none⟩) aa aS.c2 az fun fq co c0=>e<|gj jV aa aa aa aa (co.aJ aS.c3 fun h=>by omega) az fun ep cp c1=> ?_
 have cq:Md (fun k=>k=aI∨k=aK) cJ ep:=(co.mono fun _ _ h=> .inl h).trans' cp fun _ _ h=> .inr h
 refine nl<|cB<|rY ?_
 have cw:TF cJ [62,49] (fun k=>k=aI∨k=aK):=TF.or (TF.eq (dA aS.c2) az)<|TF.eq (dA aS.c3) az
 obtain ⟨eF,dZ,_⟩:=ck.cm
 have dl:=ck.md cq cw az<|cw.no (eH dZ) az
 exact Xk aa az aa aa (cp.aJ c0 fun h=>by omega) c1 aa (fun w' hm=>by
  unfold pz
  rw [E2 an ai.symm dY]
  exact ⟨⟨I,M,cQ,aa,dl.wk hm,⟨seen,aL⟩,bg⟩,(aS.wk.trans' cq fun k hk h=>by omega).trans hm⟩)
end Go.Hb.kq
end
namespace Go.Hb.jR
def lK (F:aU) (V:ff):List Value:= [.int .i64 (F.kind:Nat),str F.rE,str F.tr,bj (F.sp.getD 0 0),bj (F.sp.getD 1 0),bj (F.sp.getD 2 0),bj (F.sp.getD 3 0),bj (F.sp.getD 4 0),.int .i64 (F.least:Nat),V.v9,V.v10,V.v11,V.v12]
structure po (w:World) (B:Nat) (F:aU) (V:ff):Prop where
 o9:bw w B 128 2 V.v9 F.dt.length (kZ F.dt)
 eY:bw w B 70 1 V.v10 F.aliases.length V.sa
 al:eB w B 51 V.sa F.aliases
 ez:bw w B 131 5 V.v11 F.bA.length (m9 F.bA)
 dK:bw w B 77 7 V.v12 F.rules.length (iV<|F.rules.zip V.rn)
 nx:eB w B 51 V.rn (F.rules.map (·.next))
theorem Ah {w:World} {B e:Nat} {vs:List Value} {C:List (List Nat)} (h:eB w B e vs C):vs.all gF=true :=by
 rw [ml]
 intro v A
 obtain ⟨i,hi⟩:=wS A
 have h1:=(fS.1 hi).1
 obtain ⟨u,hu,q⟩:=eB.get h (i:=i)<|by rw [← h.1]; exact h1
 rw [hi] at hu; cases hu
 obtain ⟨a,c,rfl⟩:=q.slice; rfl
theorem XP {w:World} {B e:Nat} {rs:List dp} {vs:List Value} {A:List (List Nat)} (h:eB w B e vs A):(iV<|rs.zip vs).all gF=true :=by
 rw [ml]
 intro v a
 obtain ⟨q,i,a⟩:=List.mem_flatMap.1 a
 have h1:=ml.1 (Ah h) q.2 (List.of_mem_zip i).2
 simp only [fD,e7,uu,or_false] at a
 rcases a with rfl | rfl | rfl | rfl | rfl | rfl | rfl <;> first | rfl | exact h1
theorem XQ {rs:List dp} {vs:List Value} {i:Nat} {v:Value} (hi:i < rs.length) (E:i < vs.length):(iV<|rs.zip vs).set (i*7 +6) v=iV (rs.zip<|vs.set i v):=by
 obtain ⟨r,C⟩:∃ r,rs[i]? =some r:=⟨_,cI hi⟩
 obtain ⟨u,hu⟩:∃ u,vs[i]? =some u:=⟨_,cI E⟩
 have G:(rs.zip vs)[i]? =some (r,u):=jz.2 ⟨C,hu⟩
 have O:rs.zip (vs.set i v)=(rs.zip vs).set i (r,v):=by
  apply qa
  intro j
  rw [k5]
  by_cases A:i=j
  · subst A
    rw [if_pos rfl,if_pos (fS.1 G).1]
    exact jz.2 ⟨C,by simp [E]⟩
  · rw [if_neg A]
    cases h1:(rs.zip vs)[j]? with
    | none=>
      rw [List.getElem?_eq_none_iff,zT] at h1 ⊢
      rw [wW]; exact h1
    | some q=>
      have h2:=jz.1 h1
      exact jz.2 ⟨h2.1,by rw [k5,if_neg A]; exact h2.2⟩
 have U:(rs.zip vs).length=min rs.length vs.length:=zT
 have a:(iV<|rs.zip vs).length=(rs.zip vs).length*7:=nT (f:=fD) (m:=7) (fun _=>rfl) _
 rw [O,show iV ((rs.zip vs).set i (r,v))=(iV<|rs.zip vs).take (i*7)++fD (r,v)++(iV<|rs.zip vs).drop (i*7 +7) from H7 (f:=fD) (m:=7) (fun _=>rfl) _ ab]
 apply qa
 intro j
 have I:=fun c a=>BK (f:=fD) (m:=7) (fun _=>rfl) (c:=c) G a
 have J:∀ c,c < 7→(iV<|rs.zip vs)[i*7 +c]? =(fD (r,u))[c]? :=fun c h=>I c h
 have M:((iV<|rs.zip vs).take<|i*7).length=i*7:=by rw [dQ,a]; omega
 rw [k5]
 by_cases h1:j < i*7
 · rw [if_neg ab,dH,mm ab,List.getElem?_take,if_pos h1]
 · rw [dH,mV ab,M]
   by_cases h2:j < i*7 +7
   · rw [mm (by show _ < 7; omega)]
     obtain ⟨c,rfl⟩:∃ c,j=i*7 +c:=⟨j - i*7,ab⟩
     have h3:c < 7:=ab
     rw [J c h3,show i*7 +c - i*7=c by omega]
     match c,h3 with
     | 0,_=>rw [if_neg ab]; rfl
     | 1,_=>rw [if_neg ab]; rfl
     | 2,_=>rw [if_neg ab]; rfl
     | 3,_=>rw [if_neg ab]; rfl
     | 4,_=>rw [if_neg ab]; rfl
     | 5,_=>rw [if_neg ab]; rfl
     | 6,_=>rw [if_pos rfl,if_pos ab]; rfl
   · rw [if_neg ab,mV (by show 7≤_; omega),show (fD (r,v)).length=7 from rfl,List.getElem?_drop]
     congr 1; omega
theorem oa {l:List (dp×Value)} {i:Nat} {q:dp×Value} (h:l[i]? =some q):iV l≠[]:=fun h2=>by
 have h3:(iV l).length=l.length*7:=nT (f:=fD) (m:=7) (fun _=>rfl) _
 have h4:=(fS.1 h).1
 rw [h2] at h3
 have h5:0=l.length*7:=h3
 omega
theorem Ao {F:aU} {V:ff} (C:V.v9.oneCell'=true) (i:V.v10.oneCell'=true) (q:V.v11.oneCell'=true) (A:V.v12.oneCell'=true):(lK F V).all gF=true :=by
 rw [ml]
 intro v a
 simp only [lK,e7,uu,or_false] at a
 rcases a with rfl | rfl | rfl | rfl | rfl | rfl | rfl | rfl | rfl | rfl | rfl | rfl | rfl <;> first | rfl | assumption
theorem OO {w:World} {B fb mc:Nat} {F:aU} {V:ff} (h:dX w B fb mc F V):(lK F V).all gF=true :=Ao (eS h.o9) (eS h.eY) (eS h.ez)<|eS h.dK
theorem Bq {α:Type} {l m:List α} {i:Nat} (h:l.drop i=m.drop i):l[i]? =m[i]? :=by
 have h1:=congrArg (·[0]?) h
 simpa using h1
theorem Dw {α:Type} {l:List α} {i:Nat} {x:α} (h:i < l.length):(l.set i x).take (i+1)=l.take i++ [x]:=by
 rw [List.take_add_one,List.take_set_of_le (cD i)]; simp [h]
theorem set_drop {α:Type} {l m:List α} {i:Nat} {x:α} (h:l.drop i=m.drop i):(l.set i x).drop (i+1)=m.drop (i+1):=by
 rw [List.drop_set_of_lt (Nat.lt_succ_self i),show i.succ=i+1 from rfl]
 simpa [List.drop_drop] using congrArg (List.drop 1) h
theorem Fh {w:World} {B e i:Nat} {vs:List Value} {a:List (List Nat)} {v:Value} (h:eB w B e (vs.take i) (a.take i)) (hi:i < a.length) (A:i < vs.length) (q:Tg w B e (a.getD i []).length v ((a.getD i []).map bj)):eB w B e ((vs.set i v).take<|i+1) (a.take<|i+1):=by
 rw [Dw A,fK a i [] hi]; exact h.snoc q
theorem Rh (a:Option Addr) (n c:Nat) (xs:List Value) (w:World) (M:aO w.heap a xs) (ae:xs.length=n*2) (V:a=none→n=0) (h1:xs.all gF=true) (hn:n≤1048576):
 bp aw 48 (bh [.slice a n c]) w (fun ai w'=>bw w' w.heap.size 128 2 ai n xs∧Wk w w'):=by
 refine enter func48 aa ntmps48 aa<|ag fun E=>ay<|E<|aB fun G=>ag fun I=>au (.slice a n c)<|p (s9 Zb aa aa)<|nl<|I<|cb aa (fun A=> ?_) fun A=> ?_
 have Y:a=none:=by simpa using A
 refine ag fun i=>ay<|i<|rt<|tr<|aX aa ?_
 have Z:=V Y
 subst Z
 obtain rfl :=fY (show xs.length=0 by omega)
 exact ⟨dC _ _ _ _,Md.refl _ _⟩
 refine aQ<|G<|ag fun i=>e<|m7 y5 fun al aq am q J=> ?_
 have C:=J w.heap.size ab
 refine au (.slice a n c)<|e<|ap y5 (C) aa (by have :=q.size; omega) aa (M.wk q.md) (ae) (h1) ab ab fun aj ak ac U ao an=> ?_
 have O:=Wk.own q.md C U<|cD _
 refine ay<|i<|rt<|aX aa ?_
 have ah:bw ak w.heap.size 128 2 aj n xs:=by simpa using ac
 exact ⟨ah,O⟩
theorem Rg (v:Value) (n:Nat) (xs:List Value) (w:World) (A:Rd w.heap v n 2 xs) (h1:xs.all gF=true) (hn:n≤1048576):bp aw 48 [v].toArray w (fun v w'=>bw w' w.heap.size 128 2 v n xs∧Wk w w'):=by
 obtain ⟨a,c,rfl,i,C,q⟩:=A
 exact Rh a n c xs w i C q h1 hn
theorem Rc (a:Option Addr) (n c:Nat) (xs:List Value) (w:World) (M:aO w.heap a xs) (ae:xs.length=n*5) (V:a=none→n=0) (h1:xs.all gF=true) (hn:n≤1048576):
 bp aw 49 (bh [.slice a n c]) w (fun ai w'=>bw w' w.heap.size 131 5 ai n xs∧Wk w w'):=by
 refine enter func49 aa ntmps49 aa<|ag fun E=>ay<|E<|aB fun G=>ag fun I=>au (.slice a n c)<|p (s9 L9 aa aa)<|nl<|I<|cb aa (fun A=> ?_) fun A=> ?_
 have Y:a=none:=by simpa using A
 refine ag fun i=>ay<|i<|rt<|tr<|aX aa ?_
 have Z:=V Y
 subst Z
 obtain rfl :=fY (show xs.length=0 by omega)
 exact ⟨dC _ _ _ _,Md.refl _ _⟩
 refine aQ<|G<|ag fun i=>e<|m7 y7 fun al aq am q J=> ?_
 have C:=J w.heap.size ab
 refine au (.slice a n c)<|e<|ap y7 (C) aa (by have :=q.size; omega) aa (M.wk q.md) (ae) (h1) ab ab fun aj ak ac U ao an=> ?_
 have O:=Wk.own q.md C U<|cD _
 refine ay<|i<|rt<|aX aa ?_
 have ah:bw ak w.heap.size 131 5 aj n xs:=by simpa using ac
 exact ⟨ah,O⟩
theorem Rb (v:Value) (n:Nat) (xs:List Value) (w:World) (A:Rd w.heap v n 5 xs) (h1:xs.all gF=true) (hn:n≤1048576):bp aw 49 [v].toArray w (fun v w'=>bw w' w.heap.size 131 5 v n xs∧Wk w w'):=by
 obtain ⟨a,c,rfl,i,C,q⟩:=A
 exact Rc a n c xs w i C q h1 hn
theorem Rl (a:Option Addr) (n c:Nat) (xs:List Value) (w:World) (M:aO w.heap a xs) (ae:xs.length=n*1) (V:a=none→n=0) (h1:xs.all gF=true) (hn:n≤1048576):
 bp aw 50 (bh [.slice a n c]) w (fun ai w'=>bw w' w.heap.size 70 1 ai n xs∧Wk w w'):=by
 refine enter func50 aa ntmps50 aa<|ag fun E=>ay<|E<|aB fun G=>ag fun I=>au (.slice a n c)<|p (s9 zm aa aa)<|nl<|I<|cb aa (fun A=> ?_) fun A=> ?_
 have Y:a=none:=by simpa using A
 refine ag fun i=>ay<|i<|rt<|tr<|aX aa ?_
 have Z:=V Y
 subst Z
 obtain rfl :=fY (show xs.length=0 by omega)
 exact ⟨dC _ _ _ _,Md.refl _ _⟩
 refine aQ<|G<|ag fun i=>e<|m7 y6 fun al aq am q J=> ?_
 have C:=J w.heap.size ab
 refine au (.slice a n c)<|e<|ap y6 (C) aa (by have :=q.size; omega) aa (M.wk q.md) (ae) (h1) ab ab fun aj ak ac U ao an=> ?_
 have O:=Wk.own q.md C U<|cD _
 refine ay<|i<|rt<|aX aa ?_
 have ah:bw ak w.heap.size 70 1 aj n xs:=by simpa using ac
 exact ⟨ah,O⟩
theorem Rk (v:Value) (n:Nat) (xs:List Value) (w:World) (A:Rd w.heap v n 1 xs) (h1:xs.all gF=true) (hn:n≤1048576):bp aw 50 [v].toArray w (fun v w'=>bw w' w.heap.size 70 1 v n xs∧Wk w w'):=by
 obtain ⟨a,c,rfl,i,C,q⟩:=A
 exact Rl a n c xs w i C q h1 hn
theorem Rj (a:Option Addr) (n c:Nat) (xs:List Value) (w:World) (M:aO w.heap a xs) (ae:xs.length=n*7) (V:a=none→n=0) (h1:xs.all gF=true) (hn:n≤1048576):
 bp aw 52 (bh [.slice a n c]) w (fun ai w'=>bw w' w.heap.size 77 7 ai n xs∧Wk w w'):=by
 refine enter func52 aa ntmps52 aa<|ag fun E=>ay<|E<|aB fun G=>ag fun I=>au (.slice a n c)<|p (s9 vU aa aa)<|nl<|I<|cb aa (fun A=> ?_) fun A=> ?_
 have Y:a=none:=by simpa using A
 refine ag fun i=>ay<|i<|rt<|tr<|aX aa ?_
 have Z:=V Y
 subst Z
 obtain rfl :=fY (show xs.length=0 by omega)
 exact ⟨dC _ _ _ _,Md.refl _ _⟩
 refine aQ<|G<|ag fun i=>e<|m7 y8 fun al aq am q J=> ?_
 have C:=J w.heap.size ab
 refine au (.slice a n c)<|e<|ap y8 (C) aa (by have :=q.size; omega) aa (M.wk q.md) (ae) (h1) ab ab fun aj ak ac U ao an=> ?_
 have O:=Wk.own q.md C U<|cD _
 refine ay<|i<|rt<|aX aa ?_
 have ah:bw ak w.heap.size 77 7 aj n xs:=by simpa using ac
 exact ⟨ah,O⟩
theorem Ri (v:Value) (n:Nat) (xs:List Value) (w:World) (A:Rd w.heap v n 7 xs) (h1:xs.all gF=true) (hn:n≤1048576):bp aw 52 [v].toArray w (fun v w'=>bw w' w.heap.size 77 7 v n xs∧Wk w w'):=by
 obtain ⟨a,c,rfl,i,C,q⟩:=A
 exact Rj a n c xs w i C q h1 hn
theorem Rf (a:Option Addr) (n c:Nat) (xs:List Value) (w:World) (M:aO w.heap a xs) (ae:xs.length=n*2) (V:a=none→n=0) (h1:xs.all gF=true) (hn:n≤1048576):
 bp aw 90 (bh [.slice a n c]) w (fun ai w'=>bw w' w.heap.size 72 2 ai n xs∧Wk w w'):=by
 refine enter func90 aa ntmps90 aa<|ag fun E=>ay<|E<|aB fun G=>ag fun I=>au (.slice a n c)<|p (s9 vW aa aa)<|nl<|I<|cb aa (fun A=> ?_) fun A=> ?_
 have Y:a=none:=by simpa using A
 refine ag fun i=>ay<|i<|rt<|tr<|aX aa ?_
 have Z:=V Y
 subst Z
 obtain rfl :=fY (show xs.length=0 by omega)
 exact ⟨dC _ _ _ _,Md.refl _ _⟩
 refine aQ<|G<|ag fun i=>e<|m7 y9 fun al aq am q J=> ?_
 have C:=J w.heap.size ab
 refine au (.slice a n c)<|e<|ap y9 (C) aa (by have :=q.size; omega) aa (M.wk q.md) (ae) (h1) ab ab fun aj ak ac U ao an=> ?_
 have O:=Wk.own q.md C U<|cD _
 refine ay<|i<|rt<|aX aa ?_
 have ah:bw ak w.heap.size 72 2 aj n xs:=by simpa using ac
 exact ⟨ah,O⟩
theorem Re (v:Value) (n:Nat) (xs:List Value) (w:World) (A:Rd w.heap v n 2 xs) (h1:xs.all gF=true) (hn:n≤1048576):bp aw 90 [v].toArray w (fun v w'=>bw w' w.heap.size 72 2 v n xs∧Wk w w'):=by
 obtain ⟨a,c,rfl,i,C,q⟩:=A
 exact Rf a n c xs w i C q h1 hn
theorem Ab (B fb mc:Nat) (F:aU) (V:ff) (w:World) (aI:dX w B fb mc F V) (dQ:F.dt.length+F.aliases.length+F.bA.length+F.rules.length≤70000) (bV:Nx F):
 bp aw 20 (bh [aT fb]) w (fun v w'=>(∃ bu,v= .agg (lK F bu).toArray∧po w' w.heap.size F bu)∧Wk w w'):=by
 refine enter func20 aa ntmps20 aa<|ag fun cn=>e<|fg MI fun a9 ac dR bg bz=> ?_
 have dZ:=bg.size
 have am:=aI.wk bg.md
 refine nl<|cn<|aB fun cv=>ag fun cw=>au (aT fb)<|p (lN vV aa aa)<|nl<|cw<|cf (aa)<|aQ<|cv<|ag fun cx=>au (aT fb)<|p (nc aa) ?_
 refine p (fa gJ aa)<|p (di Af aa (aa) (show ∀ j,j < 13→Hb.aR ac.heap fb (0 +j)=(lK F V)[j]? from fun j aP=>(a7 am.cells).trans<|by match j,aP with | 0,_=>rfl | 1,_=>rfl | 2,_=>rfl | 3,_=>rfl | 4,_=>rfl | 5,_=>rfl | 6,_=>rfl | 7,_=>rfl | 8,_=>rfl | 9,_=>rfl | 10,_=>rfl | 11,_=>rfl | 12,_=>rfl))<|e<|fg MI fun Z E dU bM cH=> ?_
 have d2:=bM.size
 refine e<|gj Be aa aa aa (OO am) cH az fun a1 bL cJ=> ?_
 have bC:Wk ac a1:=bM.md.trans' bL fun q a h=>by omega
 have d3:=bL.size
 have cR:=am.wk bC
 have aM:a1.heap[Z]? =some (.cells (lK F ⟨V.v9,V.v10,V.v11,V.v12,V.sa,V.rn⟩).toArray 58 (0,0)):=cJ
 refine nl<|cx<|ag fun cy=>p (fa yq aa)<|p (ld E8 aa<|(a7 aM).trans aa)<|e<|cl Qw (Rg V.v9 F.dt.length (kZ F.dt) a1 (Rd.jP cR.o9) (H6 (fun _=>rfl) _) ab) aa fun U ch cW=> ?_
 obtain ⟨bZ,bb⟩:=cW
 have dW:=bb.size
 have b1:=eE bZ (show E.heap.size≤a1.heap.size by omega)
 refine p (fa yq aa)<|e<|cT G3 aa aa (v:=U) (eS bZ) (bb.aJ aM) (by show _ < 13; omega) fun a2 bd cK=> ?_
 have bF:Wk ac a2:=(bC.trans bb).trans' bd fun q a h=>by omega
 have d4:=bd.size
 have cS:=am.wk bF
 have b2:=dz b1 bd fun q a h=>by have :=(dS b1 a).1; omega
 have bR:a2.heap[Z]? =some (.cells (lK F ⟨U,V.v10,V.v11,V.v12,V.sa,V.rn⟩).toArray 58 (0,0)):=cK
 refine nl<|cy<|ag fun cz=>p (fa tv aa)<|p (ld xp aa<|(a7 bR).trans aa)<|e<|cl Qx (Rb V.v11 F.bA.length (m9 F.bA) a2 (Rd.jP cS.ez) (H6 (fun _=>rfl) _) ab) aa fun v20 eb cX=> ?_
 obtain ⟨b4,aA⟩:=cX
 have d0:=aA.size
 have b5:=eE b4 (show E.heap.size≤a2.heap.size by omega)
 refine p (fa tv aa)<|e<|cT G5 aa aa (v:=v20) (eS b4) (aA.aJ bR) (by show _ < 13; omega) fun a3 aL cL=> ?_
 have bH:Wk ac a3:=(bF.trans aA).trans' aL fun q a h=>by omega
 have d6:=aL.size
 have bK:=am.wk bH
 have b3:=dz (a6 b2 aA) aL fun q a h=>by have :=(dS (a6 b2 aA) a).1; omega
 have b6:=dz b5 aL fun q a h=>by have :=(dS b5 a).1; omega
 have bS:a3.heap[Z]? =some (.cells (lK F ⟨U,V.v10,v20,V.v12,V.sa,V.rn⟩).toArray 58 (0,0)):=cL
 refine nl<|cz<|ag fun cA=>p (fa pM aa)<|p (ld ry aa<|(a7 bS).trans aa)<|e<|cl Qy (Rk V.v10 F.aliases.length V.sa a3 (Rd.jP bK.eY) (Ah bK.al) ab) aa fun v24 ec cY=> ?_
 obtain ⟨b7,ao⟩:=cY
 have d1:=ao.size
 have b8:=eE b7 (show E.heap.size≤a3.heap.size by omega)
 refine p (fa pM aa)<|e<|cT G4 aa aa (v:=v24) (eS b7) (ao.aJ bS) (by show _ < 13; omega) fun ck aD cM=> ?_
 have cQ:Wk ac ck:=(bH.trans ao).trans' aD fun q a h=>by omega
 have d7:=aD.size
 have dp:=dz (a6 b3 ao) aD fun q a h=>by have :=(dS (a6 b3 ao) a).1; omega
 have dh:=dz (a6 b6 ao) aD fun q a h=>by have :=(dS (a6 b6 ao) a).1; omega
 have bW:=dz b8 aD fun q a h=>by have :=(dS b8 a).1; omega
 have bT:ck.heap[Z]? =some (.cells (lK F ⟨U,v24,v20,V.v12,V.sa,V.rn⟩).toArray 58 (0,0)):=cM
 obtain ⟨ae,ah,rfl⟩:=cE bW
 have dG:=aI.al.1
 refine nl<|cA<|aB fun cB=>ag fun cC=>p (fa pM aa)<|p (ld ry aa<|(a7 bT).trans aa)<|p (bJ zm aa aa)<|p mv<|nl<|cC<|aJ<|lp (fun ax av G=> ∃ (i:Nat) (sa:List Value),(i≤F.aliases.length)∧(sa.length=F.aliases.length)∧(sa.drop i=V.sa.drop i)∧(eB G E.heap.size 51 (sa.take i)<|F.aliases.take i)∧(bw G E.heap.size 70 1 (.slice ae F.aliases.length ah) F.aliases.length<|sa)∧(bw G E.heap.size 128 2 (U) F.dt.length<|kZ F.dt)∧(bw G E.heap.size 131 5 (v20) F.bA.length<|m9 F.bA)∧(G.heap[Z]? =some (.cells (lK F ⟨U,.slice ae F.aliases.length ah,v20,V.v12,V.sa,V.rn⟩).toArray 58 (0,0)))∧(Wk ac G)∧(E.heap.size≤G.heap.size)∧(av 2=aT a9)∧(av 3=aT Z)∧(av 27= .slice ae F.aliases.length ah)∧(av 28=ak (F.aliases.length))∧(av 29=ak i)∧(F.aliases.length - i=ax)) _ ⟨0,V.sa,ab,dG,aa,(eB.nil _ _ _),bW,dp,dh,bT,cQ,(ab),aa,aa,aa,aa,aa,aa⟩ ?_
 rintro ax av G ⟨i,sa,hi,aF,cc,bm,O,aZ,aX,aE,aH,d8,dw,dB,dx,dy,dA,rfl⟩
 refine fx 2 dw<|fx 3 dB<|fx 27 dx<|fx 28 dy<|fx 29 dA<|ag fun co=>p (lt aa aa)<|nl<|co<|aB fun cp=>cd aa (fun aM=> ?_) fun aM=> ?_
 refine aQ<|cp<|aB fun a4=>aJ<|aB fun a5=> ?_
 obtain ⟨ea,dH,bk⟩:=eB.get (am.wk aH).al (show i < F.aliases.length by omega)
 obtain ⟨cD,ci,rfl⟩:=bk.slice
 refine rg aa<|au (ak i)<|p (bc Bw aa aa ab<|aO.ok ((ba O).2) fun h=>by rw [h] at aF; simp at aF; omega)<|p (ld m5 aa<|aO.gN (ba O).2<|(Bq cc).trans dH)<|p (cU (ak i) aa)<|ay<|a5 ?_
 have an:(fun w'=>Wk G w') G.drew:=(Md.refl _ _).drew
 refine eR (fun w'=>Wk G w') 6 aa wide an<|lq 0 aa aj (fun _ _=>fa pM aa) an<|lq 1 aa aj (fun w' ar=>ld ry aa<|Wk.aR ar<|(a7 aE).trans aa) an<|lq 2 aa aj (fun _ _=>aV (ak i) aa) an<|lq 3 aa aj (fun _ _=>mv) an<|gE 4 aa aj<|cl rD (sX cD (F.aliases.getD i []).length ci ((F.aliases.getD i []).map bj) G.drew (aO.wk bk.cV.2 an) (by simp) (fun h=>Tg.tB bk (by simp) h) (sP _)<|by have :=bV.1 _ (dY (d:= []) (show i < F.aliases.length by omega)); omega) aa fun dJ cj cZ=> ?_
 obtain ⟨bq,bD⟩:=cZ
 have I:Wk G cj:=an.trans bD
 have c2:=I
 have bN:(fun w'=>Wk G w') cj:=an.trans bD
 refine ⟨bN,?_⟩
 refine lq 5 aa aj (fun _ _=>bc Bw aa aa ab<|aO.ok ((ba O).2) fun h=>by rw [h] at aF; simp at aF; omega) bN<|dO 6 aa aj aj<|tI (j:=i) (a6 O I) s5 aa aa (eS bq) (by simp) ab fun dM ap dc=> ?_
 have cN:Wk ac dM:=Wk.own (aH.trans I) (a6 O I) ap ab
 have dk:=dz (eE bq (show E.heap.size≤G.heap.size by omega)) ap fun q a=>mI bq (a6 O I) az a
 have c4:=(bm.wk I).md ap<|ik (a6 O I) az
 have dm:=dz (a6 aZ I) ap fun q a=>mI (a6 aZ I) (a6 O I) az a
 have df:=dz (a6 aX I) ap fun q a=>mI (a6 aX I) (a6 O I) az a
 have c8:=ap.aJ (Wk.aJ I aE) fun h=>by have :=(dS (a6 O I) h).1; omega
 exact eQ aj<|bn<|a4<|rg aa<|p (ad aa aa<|bY ab)<|p mv<|nl<|tn<|⟨_,ab,i+1,sa.set i dJ,ab,(by rw [wW]; exact aF),(set_drop cc),(Fh c4 ab ab<|Tg.jP dk),dc,dm,df,c8,cN,(by have :=c2.size; have :=ap.size; omega),aa,aa,aa,aa,aa,aa⟩
 refine ext<|bf<|bf<|be<|cB<|ag fun a4=>p (fa nU aa)<|p (ld lZ aa<|(a7 aE).trans aa)<|e<|cl Qz (Ri V.v12 F.rules.length (iV<|F.rules.zip V.rn) G (Rd.jP (am.wk aH).dK) (XP aI.nx) ab) aa fun ce ed c0=> ?_
 obtain ⟨b9,Y⟩:=c0
 have d5:=Y.size
 have ca:=eE b9 (show E.heap.size≤G.heap.size by omega)
 rw [eU ab,eU ab] at bm
 refine p (fa nU aa)<|e<|cT G6 aa aa (v:=ce) (eS b9) (Wk.aJ Y aE) (by show _ < 13; omega) fun cg aq cF=> ?_
 have cO:Wk ac cg:=(aH.trans Y).trans' aq fun q a h=>by omega
 have dV:=aq.size
 have dq:=dz (a6 aZ Y) aq fun q a h=>by have :=(dS (a6 aZ Y) a).1; omega
 have de:=dz (a6 O Y) aq fun q a h=>by have :=(dS (a6 O Y) a).1; omega
 have dj:=dz (a6 aX Y) aq fun q a h=>by have :=(dS (a6 aX Y) a).1; omega
 have bX:=dz ca aq fun q a h=>by have :=(dS ca a).1; omega
 have c6:=(bm.wk Y).md aq<|fz (Wk.aJ Y aE) az
 have bQ:cg.heap[Z]? =some (.cells (lK F ⟨U,.slice ae F.aliases.length ah,v20,ce,V.sa,V.rn⟩).toArray 58 (0,0)):=cF
 obtain ⟨a12,kA,rfl⟩:=cE bX
 have du:V.rn.length=F.rules.length:=by have :=aI.nx.1; rwa [fM] at this
 refine nl<|a4<|aB fun a5=>ag fun cq=>p (fa nU aa)<|p (ld lZ aa<|(a7 bQ).trans aa)<|p (bJ vU aa aa)<|p mv<|nl<|cq<|aJ<|lp (fun ax aG C=> ∃ (i:Nat) (rn:List Value),(i≤F.rules.length)∧(rn.length=F.rules.length)∧(rn.drop i=V.rn.drop i)∧(eB C E.heap.size 51 (rn.take i)<|(F.rules.map (·.next)).take i)∧(bw C E.heap.size 77 7 (.slice a12 F.rules.length kA) F.rules.length<|iV<|F.rules.zip rn)∧(bw C E.heap.size 128 2 (U) F.dt.length<|kZ F.dt)∧(bw C E.heap.size 70 1 (.slice ae F.aliases.length ah) F.aliases.length<|sa)∧(eB C E.heap.size 51 sa F.aliases)∧(bw C E.heap.size 131 5 (v20) F.bA.length<|m9 F.bA)∧(C.heap[Z]? =some (.cells (lK F ⟨U,.slice ae F.aliases.length ah,v20,.slice a12 F.rules.length kA,V.sa,V.rn⟩).toArray 58 (0,0)))∧(Wk ac C)∧(E.heap.size≤C.heap.size)∧(aG 2=aT a9)∧(aG 3=aT Z)∧(aG 47=ak (F.rules.length))∧(aG 48=ak i)∧(F.rules.length - i=ax)) _ ⟨0,V.rn,ab,du,aa,(eB.nil _ _ _),bX,dq,de,c6,dj,bQ,cO,(ab),aa,aa,aa,aa,aa⟩ ?_
 rintro ax aG C ⟨i,rn,hi,dv,cb,bo,J,a0,aW,bO,aY,aN,aC,d9,dC,dD,dE,dF,rfl⟩
 refine fx 2 dC<|fx 3 dD<|fx 47 dE<|fx 48 dF<|ag fun cr=>p (lt aa aa)<|nl<|cr<|aB fun ct=>cd aa (fun c7=> ?_) fun c7=> ?_
 refine aQ<|ct<|aB fun a8=>aJ<|aB fun cu=> ?_
 obtain ⟨vn,dI,bl⟩:=eB.get (am.wk aC).nx (show i < (F.rules.map (·.next)).length by rw [fM]; omega)
 obtain ⟨bv,bx,rfl⟩:=bl.slice
 obtain ⟨q,bs⟩:∃ q,F.rules[i]? =some q:=⟨_,cI ab⟩
 have ds:(F.rules.map (·.next)).getD i []=q.next:=by rw [da,iq,bs]; rfl
 have dr:=bV.2 q<|iR bs
 rw [← ds] at dr
 have bt:(F.rules.zip rn)[i]? =some (q,.slice bv ((F.rules.map (·.next)).getD i []).length bx):=jz.2 ⟨bs,(Bq cb).trans dI⟩
 refine rg aa<|au (ak i)<|p (cU (ak i) aa)<|nl<|cu ?_
 have M:(fun w'=>Wk C w') C.drew:=(Md.refl _ _).drew
 refine eR (fun w'=>Wk C w') 12 aa wide M<|bB 0 aa (fun _=>fa nU aa) (fun _=>M)<|dP 1 aa (fun w' ar=>ld lZ aa<|Wk.aR ar<|(a7 aN).trans aa) M<|bE 2 aa (ak i) M<|bB 3 aa (fun _=>fa nU aa) (fun _=>M)<|dP 4 aa (fun w' ar=>ld lZ aa<|Wk.aR ar<|(a7 aN).trans aa) M<|bE 5 aa (ak i) M<|bB 6 aa (fun _=>bc nd aa aa ab<|aO.ok ((ba J).2)<|oa bt) (fun _=>M)<|bB 7 aa (fun _=>fa qA aa) (fun _=>M)<|dP 8 aa (fun w' ar=>ld m5 aa<|Wk.aR ar<|fA (f:=fD) (m:=7) (fun _=>rfl) (ba J).2 bt 6 az) M<|gE 9 aa aj<|cl rD (sX bv ((F.rules.map (·.next)).getD i []).length bx (((F.rules.map (·.next)).getD i []).map bj) C.drew (aO.wk bl.cV.2 M) (by simp) (fun h=>Tg.tB bl (by simp) h) (sP _) ab) aa fun dL cm c1=> ?_
 obtain ⟨br,bI⟩:=c1
 have A:Wk C cm:=M.trans bI
 have c3:=A
 have bi:(fun w'=>Wk C w') cm:=M.trans bI
 refine ⟨bi,?_⟩
 refine bB 10 aa (fun _=>bc nd aa aa ab<|aO.ok ((ba J).2)<|oa bt) (fun _=>bi)<|bB 11 aa (fun _=>fa qA aa) (fun _=>bi)<|dO 12 aa aj aj<|tI (j:=i*7 +6) (a6 J A) s5 aa aa (eS br) (by rw [Int.toNat_natCast]; omega) ab fun ch ai b0=> ?_
 rw [XQ ab ab] at b0
 have cP:Wk ac ch:=Wk.own (aC.trans A) (a6 J A) ai ab
 have dl:=dz (eE br (show E.heap.size≤C.heap.size by omega)) ai fun q a=>mI br (a6 J A) az a
 have db:=(bo.wk A).md ai<|ik (a6 J A) az
 have c5:=(bO.wk A).md ai<|ik (a6 J A) az
 have dn:=dz (a6 a0 A) ai fun q a=>mI (a6 a0 A) (a6 J A) az a
 have dd:=dz (a6 aW A) ai fun q a=>mI (a6 aW A) (a6 J A) az a
 have dg:=dz (a6 aY A) ai fun q a=>mI (a6 aY A) (a6 J A) az a
 have c9:=ai.aJ (Wk.aJ A aN) fun h=>by have :=(dS (a6 J A) h).1; omega
 exact eQ aj<|bn<|a8<|rg aa<|p (ad aa aa<|bY ab)<|p mv<|nl<|tn<|⟨_,ab,i+1,rn.set i dL,ab,(by rw [wW]; exact dv),(set_drop cb),(Fh db (by rw [fM]; omega) ab<|Tg.jP dl),b0,dn,dd,c5,dg,c9,cP,(by have :=c3.size; have :=ai.size; omega),aa,aa,aa,aa,aa⟩
 refine ext<|bf<|bf<|be<|a5<|ag fun a8=>p (di Af aa (aa) (show ∀ j,j < 13→Hb.aR C.heap Z (0 +j)=(lK F ⟨U,.slice ae F.aliases.length ah,v20,.slice a12 F.rules.length kA,V.sa,V.rn⟩)[j]? from fun j aP=>(a7 aN).trans<|by match j,aP with | 0,_=>rfl | 1,_=>rfl | 2,_=>rfl | 3,_=>rfl | 4,_=>rfl | 5,_=>rfl | 6,_=>rfl | 7,_=>rfl | 8,_=>rfl | 9,_=>rfl | 10,_=>rfl | 11,_=>rfl | 12,_=>rfl))<|e<|gj Be aa aa aa (Ao (eS a0) (eS aW) (eS aY)<|eS J) (Wk.aJ aC bz) az fun dN aK cG=>nl<|a8<|rt<|uQ aa (dT (cs:=lK F ⟨U,.slice ae F.aliases.length ah,v20,.slice a12 F.rules.length kA,V.sa,V.rn⟩) aa Af aa fun j aP=>(bP.bG ⟨_,cG⟩ j).trans aa) ?_
 have aS:∀ {t s n:Nat} {v:Value} {xs:List Value},bw C E.heap.size t s v n xs→bw dN w.heap.size t s v n xs:=fun h=>eE (dz h aK fun q a h2=>by have :=(dS h a).1; omega) ab
 rw [eU ab,eU (by rw [fM]; omega)] at bo
 have bU:∀ k,k=a9→∀ cur z,C.heap[k]?≠some (.cells cur 51 z):=fz (Wk.aJ aC bz) az
 exact ⟨⟨⟨U,.slice ae F.aliases.length ah,v20,.slice a12 F.rules.length kA,sa,rn⟩,aa,⟨aS a0,aS aW,(bO.md aK bU).mono ab,aS aY,aS J,(bo.md aK bU).mono ab⟩⟩,(bg.md.trans aC).trans' aK fun q a h=>by omega⟩
end Go.Hb.jR
section
namespace Go.Hb
open Go.Hb.nE Go.Hb.kq Go.Hb.jR
noncomputable def ll (r:List Tx):Nat×Int:=if r.length≠1 then (0,111) else ee (r.getD 0 []) 8192
def Oa (i w':World) (X:Except Nat bH) (v:Value):Prop :=(∃ x a,X= .ok x∧v= .tuple #[.agg [str x.1,a].toArray,.int .i64 (0:Nat)]∧bw w' i.heap.size 51 1 a x.2.length (x.2.map bj))∨(∃ e,X= .error e∧e≠0∧v= .tuple #[.agg [str [],.slice none 0 0].toArray,.int .i64 (e:Nat)])
theorem Kp {s:Tx} {i:Nat} (hi:i < s.length):(s.take<|i+1).drop i= [s.getD i 0]:=by
 rw [vM 0 (cD i) hi,gV (by rw [dQ]; omega),List.nil_append]
theorem Mh (b:UInt8):pZ [b]=iT b:=by unfold pZ; rw [O6]; cases iT b <;> rfl
theorem He {F:aU} {x:Nat} (h:(eb F.bA x).isSome=true∨x∈F.sp):eJ F x=true :=by
 unfold eJ; rcases h with h | h
 · rw [h,Bool.or_true]
 · rw [decide_eq_true h]; rfl
theorem Sn {F:aU} {x:Nat} (h:(eb F.bA x).isSome=false) (h1:x∉F.sp):eJ F x=false :=by
 unfold eJ; rw [h,decide_eq_false h1]; rfl
theorem Yq {F:aU} (h:F.sp.length=5):[F.sp.getD 0 0,F.sp.getD 1 0,F.sp.getD 2 0,F.sp.getD 3 0,F.sp.getD 4 0]=F.sp:=by
 match F.sp,h with
 | [a,b,c,d,e],_=>rfl
theorem U5 (a:Option Addr) (c:Nat) (l:List Nat) (x:Nat) (w:World) (E:aO w.heap a (l.map bj)) (ap:l.length≤1048576):
 bp aw 206 (bh [.slice a l.length c,bj x]) w (fun v w'=>(∃ k:Int,v= .int .i64 k∧(0≤k↔x∈l)∧ -1≤k∧k≤1048576)∧Wk w w'):=by
 refine enter func206 aa ntmps206 aa<|ag fun O=>ay<|O<|aB fun U=>ag fun V=>au (.slice a l.length c)<|p (bJ oT aa aa)<|p mv<|nl<|V<|aJ<|lp (fun C q M=> ∃ (i:Nat),(i≤l.length)∧(∀ j,j < i→l.getD j 0≠x)∧(M=w)∧(q 0= .slice a l.length c)∧(q 1=bj x)∧(q 7=ak (l.length))∧(q 8=ak i)∧(l.length - i=C)) _ ⟨0,ab,(fun j I=>by omega),aa,aa,aa,aa,aa,aa⟩ ?_
 rintro C q M ⟨i,hi,J,ai,al,am,an,ao,rfl⟩
 refine fx 0 al<|fx 1 am<|fx 7 an<|fx 8 ao ?_
 subst ai
 refine ag fun Y=>p (lt aa aa)<|nl<|Y<|aB fun Z=>cd aa (fun aj=> ?_) fun aj=> ?_
 refine aQ<|Z<|aB fun A=>aJ<|ag fun ac=>au (ak i)<|p (cU (ak i) aa)<|nl<|ac<|ag fun ae=>au (bj x)<|au (.slice a l.length c)<|au (ak i)<|p (bc ca aa aa ab<|aO.ok (E)<|bT ab)<|p (ld dd aa<|aO.gN E (show (l.map bj)[i]? =some (bj<|l.getD i 0) by rw [iq,da,cI (by omega :i < l.length)]; rfl)) ?_
 refine p (bK aa aa)<|nl<|ae<|cd aa (fun G=> ?_) fun G=> ?_
 exact ag fun ah=>au (ak i)<|p (cU (ak i) aa)<|nl<|ah<|rt<|br<|tr<|tr<|br<|tr<|aX aa<|⟨⟨(i:Nat),aa,⟨fun _=>by obtain rfl :x=l.getD i 0:=ab; exact dY ab,fun _=>by omega⟩,ab,ab⟩,Md.refl _ _⟩
 exact aQ<|bn<|A<|rg aa<|p (ad aa aa<|bY ab)<|p mv<|nl<|tn<|⟨_,ab,i+1,ab,(fun j I=>by rcases fu j i with h | h <;> first | exact J j h | (rw [show j=i by omega]; exact fun h2=>G<|by rw [h2])),aa,aa,aa,aa,aa,aa⟩
 exact ext<|bf<|bf<|be<|U<|ag fun A=>p aE<|nl<|A<|rt<|aX aa<|⟨⟨-1,aa,⟨fun h=>absurd h ab,fun h=>by obtain ⟨j,I,e⟩:=nZ 0 h; exact absurd e<|J j ab⟩,ab,ab⟩,Md.refl _ _⟩
theorem RM (a:Option Addr) (c:Nat) (l:List Nat) (x:Nat) (w:World) (A:aO w.heap a (l.map bj)) (G:l.length≤1048576):
 bp aw 142 (bh [.slice a l.length c,bj x]) w (fun v w'=>v= .bool (decide (x∈l))∧Wk w w'):=by
 refine enter func142 aa ntmps142 aa<|ag fun i=>ay<|i<|ag fun q=>au (.slice a l.length c)<|au (bj x)<|e<|cl PJ (U5 a c l x w A G) aa fun M O C=> ?_
 obtain ⟨⟨I,rfl,E,J⟩,hE7⟩:=C
 exact p (ge aa aa)<|ay<|q<|rt<|aX aa<|⟨by show bU (decide (I≥0))=_; exact congrArg bU (decide_eq_decide.2 E),hE7⟩
theorem s6 (ln er:Int) (w:World):
 bp aw 87 (bh [.int .i64 ln,.int .i64 er]) w (fun v w'=>v= .agg [.int .i64 2,.int .i64 ln,.int .i64 er].toArray∧Wk w w'):=by
 exact enter func87 aa ntmps87 aa<|ag fun a=>e<|al p7 fun I U J G C=>nl<|a<|ag fun i=>au (.int .i64 ln)<|au (.int .i64 er)<|p (c8 (ps:= [(0,.int .i64 2),(1,.int .i64 ln),(2,.int .i64 er)]) (L:= [.int .i64 2,.int .i64 ln,.int .i64 er]) tH aa<|aa)<|e<|dj jV aa aa aa aa (C) (by simp) fun V E A=>nl<|i<|rt<|uQ aa (dT (cs:= [.int .i64 2,.int .i64 ln,.int .i64 er]) aa lh aa fun j M=>A.bG j)<|⟨aa,G.md.trans' E fun q O h=>by omega⟩
theorem SB (n:Nat) (r:List Tx) (B:Nat) (a:Option Addr) (c:Nat) (w:World) (U:Tg w B 9 r.length (.slice a r.length c) (r.map str)) (Y:∀ x∈r,x.length≤70000) (ah:r.length≤70000):
 bp aw 88 (bh [.agg [ak n,.slice a r.length c].toArray]) w (fun v w'=>v= .tuple #[ak ((ll r).1),.int .i64 (ll r).2]∧Wk w w'):=by
 refine enter func88 aa ntmps88 aa<|ag fun G=>e<|iZ aa fun ac Z ae A C=> ?_
 have E:=U.wk A.md
 refine p aE<|ay<|G<|aB fun I=>ag fun J=>p (fa u7 aa)<|p (ld jT aa<|(C.aR 1).trans aa)<|p (bJ eZ aa aa)<|p (cO aa aa)<|nl<|J<|cd aa (fun V=> ?_) fun V=> ?_
 refine ag fun q=>p aE<|ay<|q<|rt<|tr<|f2 aa aa aa ?_
 have h1:r.length≠1:=ab
 exact ⟨by unfold ll; rw [if_pos h1]; rfl,A.md⟩
 refine aQ<|I<|ag fun q=>p (fa u7 aa)<|p (ld jT aa<|(C.aR 1).trans aa)<|p (bc cR aa aa ab<|aO.ok (E.cV.2)<|bT ab)<|p (ld bV aa<|cj.get (i:=0) E.cV.2 ab)<|e<|cl xy (yO (r.getD 0 []) 8192 Z (by have :=Y _ (dY (d:= []) (show 0 < r.length by omega)); omega) ab) aa fun v12 ai O=> ?_
 obtain ⟨rfl,M⟩:=O
 refine p (xt aa aa)<|p (xt aa aa)<|p aE<|ay<|q<|rt<|f2 aa aa aa ?_
 have h1:¬r.length≠1:=ab
 exact ⟨by unfold ll; rw [if_neg h1]; rfl,A.md.trans M⟩
theorem Sw (B fb mc:Nat) (F:aU) (V:ff) (n:Nat) (r:List Tx) (bA:Nat) (ar:Option Addr) (cr:Nat) (w:World) (aZ:dX w B fb mc F V) (ca:∃ seen,kM F [] seen) (cy:Tg w bA 9 r.length (.slice ar r.length cr) (r.map str)) (cM:∀ x∈r,x.length≤70000) (dn:r.length≤70000):
 bp aw 89 (bh [aT fb,.agg [bj (F.sp.getD 0 0),bj (F.sp.getD 1 0),bj (F.sp.getD 2 0),bj (F.sp.getD 3 0),bj (F.sp.getD 4 0)].toArray,.agg [ak n,.slice ar r.length cr].toArray]) w (fun v w'=>Oa w w' (ga F r) v∧Wk w w'):=by
 obtain ⟨seen,aC⟩:=ca
 have dm:=aC.len
 have dr:=r9<|r.getD 0 []
 refine enter func89 aa ntmps89 aa<|ag fun bB=>e<|iZ aa fun aV dF di bm b7=>e<|iZ aa fun de dH dk a0 b8=>e<|al qX fun bd bx dl aG bg=> ?_
 have aD:Wk w bx:=bm.md.trans<|a0.md.trans aG.md
 have cL:=aG.md.B<|a0.md.B b7
 have bv:=aG.md.B b8
 have bo:=cy.wk aD
 have ce:=aZ.wk aD
 have du:=bm.size
 have dv:=a0.size
 have dw:=aG.size
 refine ay<|bB<|aB fun bK=>ag fun bQ=>p (fa u7 aa)<|p (ld jT aa<|(bv.aR 1).trans aa)<|p (bJ eZ aa aa)<|p (cO aa aa)<|nl<|bQ<|cd aa (fun cA=> ?_) fun cA=> ?_
 exact ag fun aP=>p (c8 (ps:= []) (L:= [.string ⟨⟨[]⟩⟩,.slice none 0 0]) oc aa<|aa)<|e<|dj kD aa aa aa aa (bg) (by simp) fun dR cp b6=>ay<|aP<|rt<|tr<|eD aa (dT (cs:= [str [],.slice none 0 0]) aa lJ aa fun j E=>b6.bG j) ej<|⟨.inr ⟨111,Hq ab,az,aa⟩,aD.trans' cp fun q A h=>by omega⟩
 have M:r.length=1:=ab
 have dp:(r.getD 0 []).length≤70000:=cM _<|dY ab
 refine aQ<|bK<|ag fun aP=>p (fa u7 aa)<|p (ld jT aa<|(bv.aR 1).trans aa)<|p (bc cR aa aa ab<|aO.ok (bo.cV.2)<|bT ab)<|p (ld bV aa<|cj.get (i:=0) bo.cV.2 ab)<|e<|cl Az (D3 (r.getD 0 []) bx ab) aa fun v28 c9 ct=> ?_
 obtain ⟨rfl,an⟩:=ct
 have ac:=aD.trans an
 have ae:=an.B bg
 have dt:=an.size
 refine p mv<|p (xt aa aa)<|p (xt aa aa)<|p (xt aa aa)<|p (xt aa aa)<|p aE<|p aE<|p aE<|ay<|aP<|aB fun bR=>ag fun bS=>p mv<|p (cO aa aa)<|nl<|bS<|cd aa (fun cB=> ?_) fun cB=> ?_
 exact ag fun aS=>p (c8 (ps:= []) (L:= [.string ⟨⟨[]⟩⟩,.slice none 0 0]) oc aa<|aa)<|p mv<|e<|dj kD aa aa aa aa (ae) (by simp) fun dU cq b9=>ay<|aS<|rt<|tr<|eD aa (dT (cs:= [str [],.slice none 0 0]) aa lJ aa fun j E=>b9.bG j) ej<|⟨.inr ⟨_,xU M ab,ab,aa⟩,ac.trans' cq fun q A h=>by omega⟩
 have Z:(bD<|r.getD 0 []).2.2.2=0:=ab
 refine aQ<|bR<|aB fun aS=>ag fun bU=>p mv<|p (cz u9 aa aa)<|p mv<|nl<|bU<|aJ<|lp (fun aj G ax=> ∃ (i:Nat),(i≤(bD<|r.getD 0 []).1.length)∧(∀ j,j < i→iT ((bD<|r.getD 0 []).1.getD j 0)=true)∧(Wk c9 ax)∧(G 0=aT fb)∧(G 4=aT aV)∧(G 6=aT bd)∧(G 8=str (bD<|r.getD 0 []).1)∧(G 9=str (bD<|r.getD 0 []).2.1)∧(G 10= .bool (bD<|r.getD 0 []).2.2.1)∧(G 38=ak ((bD<|r.getD 0 []).1.length))∧(G 39=ak i)∧((bD<|r.getD 0 []).1.length - i=aj)) _ ⟨0,ab,(fun j E=>by omega),(Md.refl _ _),aa,aa,aa,aa,aa,aa,aa,aa,aa⟩ ?_
 rintro aj G ax ⟨i,hi,bs,C,cN,cT,cW,cX,cY,cP,cQ,cS,rfl⟩
 refine fx 0 cN<|fx 4 cT<|fx 6 cW<|fx 8 cX<|fx 9 cY<|fx 10 cP<|fx 38 cQ<|fx 39 cS<|ag fun bW=>p (lt aa aa)<|nl<|bW<|aB fun bE=>cd aa (fun cC=> ?_) fun cC=> ?_
 refine aQ<|bE<|aB fun aH=>aJ<|ag fun aK=>au (ak i)<|p (cU (ak i) aa)<|nl<|aK<|ag fun ah=>au (str (bD<|r.getD 0 []).1)<|au (ak i)<|au (ak i)<|p (ad aa aa<|bY ab)<|p (mg u9 aa aa aa ab)<|e<|cl FM (Mi (((bD<|r.getD 0 []).1.take<|i+1).drop i) ax<|by rw [Kp ab]; simp) aa fun dA dG cu=> ?_
 obtain ⟨rfl,cc⟩:=cu
 have bt:=Kp (s:=(bD<|r.getD 0 []).1) (i:=i) ab
 have aW:=C.trans cc
 refine p (no aa)<|nl<|ah<|cb aa (fun a3=> ?_) fun a3=> ?_
 have a7:iT ((bD<|r.getD 0 []).1.getD i 0)=false :=by rw [← Mh,← bt]; simpa using a3
 exact ag fun ai=>p (c8 (ps:= []) (L:= [.string ⟨⟨[]⟩⟩,.slice none 0 0]) oc aa<|aa)<|e<|dj kD aa aa aa aa (Wk.B aW ae) (by simp) fun dK cg bX=>ay<|ai<|rt<|br<|tr<|tr<|br<|tr<|eD aa (dT (cs:= [str [],.slice none 0 0]) aa lJ aa fun j E=>bX.bG j) ej<|⟨.inr ⟨21,xV M Z (.inl<|sV ab a7),az,aa⟩,(ac.trans aW).trans' cg fun q A h=>by omega⟩
 have a7:iT ((bD<|r.getD 0 []).1.getD i 0)=true :=by rw [← Mh,← bt]; simpa using a3
 exact aQ<|bn<|aH<|rg aa<|p (ad aa aa<|bY ab)<|p mv<|nl<|tn<|⟨_,ab,i+1,ab,(fun j E=>by rcases fu j i with h | h <;> first | exact bs j h | (rw [show j=i by omega]; exact a7)),aW,aa,aa,aa,aa,aa,aa,aa,aa,aa⟩
 refine ext<|bf<|bf<|be<|aS<|aB fun aH=>aJ<|aB fun aK=>rg aa<|au (str (bD<|r.getD 0 []).1)<|p (dZ aa aa)<|ay<|aK<|cd aa (fun Y=> ?_) fun Y=> ?_
 exact ag fun ah=>p (c8 (ps:= []) (L:= [.string ⟨⟨[]⟩⟩,.slice none 0 0]) oc aa<|aa)<|e<|dj kD aa aa aa aa (Wk.B C ae) (by simp) fun dL ch bZ=>ay<|ah<|rt<|br<|tr<|eD aa (dT (cs:= [str [],.slice none 0 0]) aa lJ aa fun j E=>bZ.bG j) ej<|⟨.inr ⟨21,xV M Z (.inr Y),az,aa⟩,(ac.trans C).trans' ch fun q A h=>by omega⟩
 have ao:=uG (w:=(bD<|r.getD 0 []).1) fun j E=>bs j ab
 refine ag fun ah=>au (str (bD<|r.getD 0 []).1)<|p (cz u9 aa aa)<|p (gt aa aa)<|ay<|ah<|cd aa (fun cD=> ?_) fun cD=> ?_
 exact ag fun ai=>p (c8 (ps:= []) (L:= [.string ⟨⟨[]⟩⟩,.slice none 0 0]) oc aa<|aa)<|e<|dj kD aa aa aa aa (Wk.B C ae) (by simp) fun dM ci b0=>ay<|ai<|rt<|br<|tr<|eD aa (dT (cs:= [str [],.slice none 0 0]) aa lJ aa fun j E=>b0.bG j) ej<|⟨.inr ⟨22,Hr M Z ao Y ab,az,aa⟩,(ac.trans C).trans' ci fun q A h=>by omega⟩
 refine ag fun ai=>au (.bool (bD<|r.getD 0 []).2.2.1)<|p (no aa)<|ay<|ai<|cb aa (fun ap=> ?_) fun ap=> ?_
 exact ag fun aL=>au (str (bD<|r.getD 0 []).1)<|p (c8 (ps:= [(0,str (bD<|r.getD 0 []).1)]) (L:= [str (bD<|r.getD 0 []).1,.slice none 0 0]) oc aa<|aa)<|e<|dj kD aa aa aa aa (Wk.B C ae) (by simp) fun dN ck b2=>ay<|aL<|rt<|br<|tr<|eD aa (dT (cs:= [str (bD<|r.getD 0 []).1,.slice none 0 0]) aa lJ aa fun j E=>b2.bG j) ej<|⟨.inl ⟨_,.slice none 0 0,Hs M Z ao Y ab (by simpa using ap),aa,dC _ _ _ _⟩,(ac.trans C).trans' ck fun q A h=>by omega⟩
 refine aQ<|bn<|aH<|ag fun aL=>au (aT fb)<|au (str (bD<|r.getD 0 []).2.1)<|e<|cl FN (HI B fb mc F V (bD<|r.getD 0 []).2.1 ax (ce.wk<|an.trans C) aC.kd aC.al ab ab) aa fun c7 a8 cv=> ?_
 obtain ⟨cH,aX⟩:=cv
 have aF:=ac.trans<|C.trans aX
 have a2:=Wk.B (C.trans aX) ae
 obtain ⟨db,df,rfl,bq⟩:∃ a,∃ e:Nat,c7= .tuple #[a,ak e]∧((e=0∧∃ l,fX F.kind F.aliases (bD<|r.getD 0 []).2.1= .ok l∧bw a8 ax.heap.size 51 1 a l.length (l.map bj))∨(e≠0∧fX F.kind F.aliases (bD<|r.getD 0 []).2.1= .error e)):=by
  rcases cH with ⟨a,l,h1,h2,h3⟩ | ⟨a,e,h1,h2,h3⟩
  exact ⟨a,0,h1,.inl ⟨aa,l,h2,h3⟩⟩
  exact ⟨a,e,h1,.inr ⟨h2,h3⟩⟩
 refine p mv<|p (xt aa aa)<|p (xt aa aa)<|p aE<|ay<|aL<|aB fun bF=>ag fun bH=>p mv<|p (cO aa aa)<|nl<|bH<|cd aa (fun cF=> ?_) fun cF=> ?_
 obtain ⟨cK,aq⟩:=bq.resolve_left fun h=>by omega
 exact ag fun aN=>p (c8 (ps:= []) (L:= [.string ⟨⟨[]⟩⟩,.slice none 0 0]) oc aa<|aa)<|p mv<|e<|dj kD aa aa aa aa (a2) (by simp) fun dO cm b3=>ay<|aN<|rt<|tr<|eD aa (dT (cs:= [str [],.slice none 0 0]) aa lJ aa fun j E=>b3.bG j) ej<|⟨.inr ⟨_,Ht M Z ao Y ab (by simpa using ap) aq,cK,aa⟩,aF.trans' cm fun q A h=>by omega⟩
 obtain ⟨_,set,aq,av⟩:=bq.resolve_right fun h=>by omega
 obtain ⟨O,U,rfl⟩:=cE av
 have dq:=x7 (fun l cJ=>(aC.al l cJ).1) aq
 refine aQ<|bF<|aB fun aN=>ag fun bI=>p mv<|p (bJ L4 aa aa)<|p mv<|nl<|bI<|aJ<|lp (fun aj I a9=> ∃ (j:Nat),(j≤set.length)∧(∀ q,q < j→eJ F (set.getD q 0)=true)∧(Wk a8 a9)∧(I 0=aT fb)∧(I 4=aT aV)∧(I 6=aT bd)∧(I 8=str (bD<|r.getD 0 []).1)∧(I 13= .slice O set.length U)∧(I 75= .slice O set.length U)∧(I 76=ak (set.length))∧(I 77=ak j)∧(set.length - j=aj)) _ ⟨0,ab,(fun q A=>by omega),(Md.refl _ _),aa,aa,aa,aa,aa,aa,aa,aa,aa⟩ ?_
 rintro aj I a9 ⟨j,E,a1,J,cZ,c1,c2,c6,c0,c3,c4,c5,rfl⟩
 refine fx 0 cZ<|fx 4 c1<|fx 6 c2<|fx 8 c6<|fx 13 c0<|fx 75 c3<|fx 76 c4<|fx 77 c5<|ag fun bL=>p (lt aa aa)<|nl<|bL<|aB fun bM=>cd aa (fun cG=> ?_) fun cG=> ?_
 refine aQ<|bM<|aB fun aA=>aJ<|ag fun bN=>p (bc Hy aa aa ab<|aO.ok ((ba<|a6 av J).2)<|bT ab)<|p (ld dd aa<|aO.gN (ba<|a6 av J).2 (show (set.map bj)[j]? =some (bj<|set.getD j 0) by rw [iq,da,cI (by omega :j < set.length)]; rfl)) ?_
 refine ay<|bN<|ag fun bO=>au (aT fb)<|p mv<|e<|cl Ay (BA B fb mc F V (set.getD j 0) a9 (aZ.wk<|aF.trans J) ab) aa fun dB dI cw=> ?_
 obtain ⟨rfl,bi⟩:=cw
 have dx:=bi.size
 have dy:=J.size
 refine p mv<|p (xt aa aa)<|p (xt aa aa)<|e<|al tW fun dc dE dh bl b1=>e<|dj rF aa aa aa aa (b1) (by simp) fun bz cn dg=> ?_
 have ds:=bl.size
 have am:Wk a8 bz:=(J.trans<|bi.trans bl.md).trans' cn fun q A h=>by omega
 refine ay<|bO<|ag fun bb=>p mv<|p (no aa)<|p mv<|gb (t:=89) aa (fun a5=> ?_) fun a5=> ?_
 refine aM aa (ON uE aa)<|aM aa mv<|eg aa aa aa<|cl Pm (RM (some ⟨aV,0,none⟩) 5 [F.sp.getD 0 0,F.sp.getD 1 0,F.sp.getD 2 0,F.sp.getD 3 0,F.sp.getD 4 0] (set.getD j 0) bz (aO.ec<|Wk.B ((an.trans<|C.trans aX).trans am) cL)<|by simp) aa fun dD dJ cx=> ?_
 obtain ⟨rfl,aY⟩:=cx
 rw [Yq aZ.fR] at*
 refine aM aa (no aa)<|p (bC aa)<|nl<|bb<|cb aa (fun a4=> ?_) fun a4=> ?_
 exact ag fun bP=>p (c8 (ps:= []) (L:= [.string ⟨⟨[]⟩⟩,.slice none 0 0]) oc aa<|aa)<|e<|dj kD aa aa aa aa (Wk.B (am.trans aY) a2) (by simp) fun dP co b4=>ay<|bP<|rt<|br<|tr<|tr<|br<|tr<|eD aa (dT (cs:= [str [],.slice none 0 0]) aa lJ aa fun j E=>b4.bG j) ej<|⟨.inr ⟨120,Hu M Z ao Y ab (by simpa using ap) aq (i:=j) ab (Sn (by simpa using a5)<|by simpa using a4),az,aa⟩,(aF.trans<|am.trans aY).trans' co fun q A h=>by omega⟩
 exact aQ<|bn<|aA<|rg aa<|p (ad aa aa<|bY ab)<|p mv<|nl<|tn<|⟨_,ab,j+1,ab,(fun q A=>by rcases fu q j with h | h <;> first | exact a1 q h | (rw [show q=j by omega]; exact He<|.inr<|by simpa using a4)),(am.trans aY),aa,aa,aa,aa,aa,aa,aa,aa,aa⟩
 exact aI aa<|aI aa<|aI aa<|aI aa<|p (bu aa)<|nl<|bb<|cf aa<|aQ<|bn<|aA<|rg aa<|p (ad aa aa<|bY ab)<|p mv<|nl<|tn<|⟨_,ab,j+1,ab,(fun q A=>by rcases fu q j with h | h <;> first | exact a1 q h | (rw [show q=j by omega]; exact He<|.inl<|by simpa using a5)),am,aa,aa,aa,aa,aa,aa,aa,aa,aa⟩
 exact ext<|bf<|bf<|be<|aN<|ag fun aA=>au (str (bD<|r.getD 0 []).1)<|au (.slice O set.length U)<|p (c8 (ps:= [(0,str (bD<|r.getD 0 []).1),(1,.slice O set.length U)]) (L:= [str (bD<|r.getD 0 []).1,.slice O set.length U]) oc aa<|aa)<|e<|dj kD aa aa aa aa (Wk.B J a2) (by simp) fun dQ bk b5=>ay<|aA<|rt<|eD aa (dT (cs:= [str (bD<|r.getD 0 []).1,.slice O set.length U]) aa lJ aa fun j E=>b5.bG j) ej<|⟨.inl ⟨((bD<|r.getD 0 []).1,set),.slice O set.length U,Bu M Z ao Y ab (by simpa using ap) aq (fun j E=>a1 j ab),aa,eE (dz (a6 av J) bk fun q A h=>by have :=(dS av A).1; have :=C.size; omega)<|by have :=C.size; omega⟩,(aF.trans J).trans' bk fun q A h=>by omega⟩
end Go.Hb
end
